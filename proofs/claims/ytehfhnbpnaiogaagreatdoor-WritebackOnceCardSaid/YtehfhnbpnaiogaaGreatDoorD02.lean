/-
  Lemmas and contracts for the laws of this seat, part 2; several texts joined by a program.
-/
import Derived.Test.YtehfhnbpnaiogaaGreatDoorD01
import Derived.Test.YtehfhnbpnaiogaaGreatDoorD00
import Derived.ChangeKeysEq
import Derived.Deep.CutRange
import Derived.Deep.MidRow
import Derived.Great.BuildSlice
import Derived.Laws.StructEq
import Derived.StillTail
import Derived.StillTailTactics
namespace Go.Proofs.YtehfhnbpnaiogaaGreatDoor
set_option linter.unusedVariables false
set_option linter.unusedSimpArgs false
set_option maxRecDepth 100000
set_option maxHeartbeats 16000000
open Go.RowKit Go.Proofs.Tryz IntKind
variable {A:Option Addr} {P:Program} {S:Nat->Prop} {W w w' w0:World} {args:Array Value} {base g h i j n:Nat} {f:Nat->T} {k t:T} {ks:List T} {l:List (Nat × Obj)} {m v:Int} {u:Value} {xs:List Value}
section
abbrev uC (a b:Int):Int:=bits .or .i64 a b
def kR (ks:List T):Int:=ks.foldl (fun a k=>uC a k.marks) 0
def eG (ks:List T):Bool:=ks.any (fun k=>!k.emB)
theorem pS (h:ks[i]?=some k):kR (ks.take (i+1))=uC (kR (ks.take i)) k.marks:=by
 unfold kR;rw [List.take_add_one,h,Option.toList_some,List.foldl_append]
 rfl
theorem oV (h:ks[i]?=some k):eG (ks.take (i+1))=(eG (ks.take i)||!k.emB):=by
 unfold eG;rw [List.take_add_one,h,Option.toList_some,List.any_append];simp
def bR:Nat->T->Bool
 | 0,t=>t.emB||t.lfB
 | h+1,t=>t.emB||(decide (t.val=0/\t.kids.length=4)&&t.kids.all (bR h)&&(eG t.kids&&decide (t.marks=kR t.kids)))
theorem kK (h:t.emB=true) (n:Nat):bR n t=true:=by cases n <;> simp [bR,h]
theorem mJ (h:t.emB=false):bR 0 t=t.lfB:=by simp [bR,h]
theorem gZ (h:t.emB=false) (n:Nat):bR (n+1) t=(decide (t.val=0/\t.kids.length=4)&&t.kids.all (bR n)&&(eG t.kids&&decide (t.marks=kR t.kids))):=by simp [bR,h]
theorem nH {h:Nat} (he:t.emB=false) (hv:t.val≠0\/t.kids.length≠4):bR (h+1) t=false:=by
 rw [gZ he,dF O_];simp
theorem wK {h i:Nat} (he:t.emB=false) (hi:t.kids[i]?=some k) (hk:bR h k=false):bR (h+1) t=false:=by
 rw [gZ he];have:t.kids.all (bR h)=false:=by
  rw [List.all_eq_false];exact ⟨k,gL hi,by simp [hk]⟩
 rw [this];simp
theorem wJ {h:Nat} (he:t.emB=false) (hv:t.val=0) (hl:t.kids.length=4) (ha:t.kids.all (bR h)=true):bR (h+1) t=(eG t.kids&&decide (t.marks=kR t.kids)):=by
 rw [gZ he,decide_eq_true ⟨hv,hl⟩,ha];simp
theorem yR {p:T->Bool} (h:ks[i]?=some k) (ha:(ks.take i).all p=true) (hk:p k=true):(ks.take (i+1)).all p=true:=by
 rw [List.take_add_one,h,Option.toList_some,List.all_append,ha];simp [hk]
theorem gt_:∀(h:Nat) (t:T) (A:Option Addr) (cap:Nat) (S:Nat->Prop) (w:World),h<=100->t.kids.length<=cap->NK w S A t.kids->C_ 213 #[lF A t.kids.length cap t.val t.marks,I_ h] w (cG (bR h t) w):=by
 intro h
 induction h with
 | zero=>
  intro t A cap S w hh D V;have j:=H_ ((aP (w) w).alloc (bE _) (.cells #[S_ A t.kids.length cap,I_ t.val,I_ t.marks] 56));have f:=fun w=>fU A t.kids.length cap t.val t.marks w;rw [show rS t.kids.length t.val t.marks=t.emB from rfl] at f
  cases he:t.emB with
  | true=>
   have g:=H_ (kK he 0);rw [he] at f;clear he;go_enter func213,ntmps213
   go_wp2_with (go_at_call 217;(with_reducible refine CM (f _) ?_);rintro e w1 ⟨rfl,a⟩)
   go_ret;exact ⟨F_ g.symm,e_ j.out a⟩
  | false=>
   rw [he] at f;have g:=H_ (mJ he);clear he;have d:=H_ (i_ w (.cells #[S_ A t.kids.length cap,I_ t.val,I_ t.marks] 56));have lf:=fun w=>hA_ A t.kids.length cap t.val t.marks w;rw [show vX t.kids.length t.val t.marks=t.lfB from rfl] at lf;go_enter func213,ntmps213
   go_wp2_with (first
    | (go_at_call 217;(with_reducible refine CM (f _) ?_);rintro e w1 ⟨rfl,a⟩;have c:=h_ d a;obtain ⟨x0,L,M⟩:=cR c;clear c)
    | (go_at_call 227;(with_reducible refine CM (lf _) ?_);rintro e w2 ⟨rfl,v⟩))
   go_ret;exact ⟨F_ g.symm,e_ (e_ j.out a) v⟩
 | succ h ih=>
  intro t A cap S w hh D V;have j:=H_ ((aP (w) w).alloc (bE _) (.cells #[S_ A t.kids.length cap,I_ t.val,I_ t.marks] 56));have f:=fun w=>fU A t.kids.length cap t.val t.marks w;rw [show rS t.kids.length t.val t.marks=t.emB from rfl] at f;have hz:¬(h:Int)+1=0:=O_
  have a9:((h:Int)+1 == 0)=false:=beq_eq_false_iff_ne.2 hz;have aa:decide ((h:Int)+1=0)=false:=dF hz;rw [show ((h+1:Nat):Int)=(h:Int)+1 by omega]
  cases he:t.emB with
  | true=>
   have g:=H_ (kK he (h+1));rw [he] at f;clear he;go_enter func213,ntmps213
   go_wp2_with (go_at_call 217;(with_reducible refine CM (f _) ?_);rintro e w1 ⟨rfl,a⟩)
   go_ret;exact ⟨F_ g.symm,e_ j.out a⟩
  | false=>
   rw [he] at f;have O:=H_ he;clear he;have d:=H_ (i_ w (.cells #[S_ A t.kids.length cap,I_ t.val,I_ t.marks] 56))
   by_cases hv:t.val=0
   ·by_cases hl:t.kids.length=4
    ·have H:=H_ (fun ha=>wJ (h:=h) O hv hl ha);have HL:=H_ hl;rw [hl] at f d j D ⊢;rw [hv] at f d j ⊢;have HK:=H_ (fun w' (hb:s_ w w')=>V.step hb);have B:=H_ (fun i k (J:t.kids[i]?=some k) hf=>wK (h:=h) O J hf);have P:=H_ (show t.kids.take 4=t.kids by rw [<-hl];exact List.take_length);have hw:i64.wrap ((h:Int)+1 - 1)=(h:Int):=by rw [show (h:Int)+1 - 1=h by omega];exact gJ O_
     have ae:=gJ (x:=(h:Int)) O_;clear hv hl V;generalize t.marks=m at f d j H ⊢;generalize t.kids=G at H HK B P HL;clear O;obtain ⟨b1,q⟩:=bL w.heap.size;rw [<-q] at d;have a0:=H_ q;clear q;go_enter func213,ntmps213
     go_upto_region 0 with fail
     go_cut [2] (fun s2 wx=>s2 = P_ b1/\bA wx b1 #[S_ A 4 cap,I_ 0,I_ m] 56/\s_ w wx)
     case first=>
      go_wp2;go_meet
      case rel=>exact ⟨by rw [a0.out],d.out,j.out⟩
     case rest=>
      clear d j;obtain ⟨rfl,K,U⟩:=hcut;obtain ⟨x0,L,M⟩:=cR K;have d:=H_ K;have r:=H_ U;clear K U
      go_upto_region 7 with (go_at_call 217;(with_reducible refine CM (f _) ?_);rintro e w1 ⟨rfl,a⟩;obtain ⟨c,Q⟩:=jN d r a;obtain ⟨x0,L,M⟩:=cR c.out)
      clear d r f a hz a9 aa;go_wp2;clear x0 L M
      go_loopw [5,6,27] (fun s5 s6 s27 wx=>∃i:Nat,i<=4/\s27 = I_ i/\s5 = I_ (kR (G.take i))/\s6 = .bool (eG (G.take i))/\(G.take i).all (bR h)=true/\bA wx b1 #[S_ A 4 cap,I_ 0,I_ m] 56/\s_ w wx) (fun _ _ s27 _=>4 - (intOf s27).toNat)
      case atStart=>exact ⟨0,O_,rfl,rfl,rfl,rfl,c.out,Q.out⟩
      case round=>
       clear c Q;obtain ⟨i,ad,rfl,rfl,rfl,C,K,U⟩:=hrel;obtain ⟨d,r,Y⟩:=eI K U C;clear K U C
       by_cases a8:i<4
       ·have R:=HK _ r;obtain ⟨b,o,k,A',cap',rfl,_,ab,J,a5,a7,W,X⟩:=R.at_ (show i<G.length by rw [HL.out];exact a8);obtain ⟨c0,c1,c2⟩:=a5;have I:=H_ (pS J);have s:=H_ (oV J);have Z:=H_ (fun V=>yR (p:=bR h) J Y V);have a4:=H_ (B i k J);obtain ⟨a1,a2,a3⟩:=eI c0 c1 c2;have E:=fun w' (hb:s_ wr w')=>ih k A' cap' S w' O_ W (X.step hb);have n:=fun w=>fU A' k.kids.length cap' k.val k.marks w;rw [show rS k.kids.length k.val k.marks=k.emB from rfl] at n;have i0:(0:Int)<=(i:Int):=O_
        have i1:(i:Int)<4:=O_
        have i2:(i:Int)<(cap:Int):=O_
        have i3:(i:Int)<=(cap:Int):=O_
        generalize k.kids.length=kn at E n c0 a1 a7 W;generalize k.marks=y at E n c2 a3 I;generalize k.val=z at E n c1 a2;clear R J X Y
        cases hrk:bR h k with
        | false=>
         have g:=H_ (a4 hrk);rw [hrk] at E;clear hrk
         go_wp2_with (go_at_call 213;(with_reducible refine CM (E _ (B_.alloc (bE _) _)) ?_);rintro e w1 ⟨rfl,a⟩;have u:=H_ (h_ (m_ d (.cells #[S_ A' kn cap',I_ z,I_ y] 56)) a);have l:=H_ (e_ (a_ r (.cells #[S_ A' kn cap',I_ z,I_ y] 56)) a);have F:=h_ (i_ wr (.cells #[S_ A' kn cap',I_ z,I_ y] 56)) a;obtain ⟨y0,y1,y2⟩:=cR F;clear F)
         go_ret;exact ⟨F_ g.symm,l⟩
        | true=>
         have N:=H_ (Z hrk);rw [hrk] at E;clear hrk
         cases hsm:eG (G.take i) with
         | true=>
          rw [hsm] at s
          go_wp2_with (go_at_call 213;(with_reducible refine CM (E _ (B_.alloc (bE _) _)) ?_);rintro e w1 ⟨rfl,a⟩;have u:=H_ (h_ (m_ d (.cells #[S_ A' kn cap',I_ z,I_ y] 56)) a);have l:=H_ (e_ (a_ r (.cells #[S_ A' kn cap',I_ z,I_ y] 56)) a);have F:=h_ (i_ wr (.cells #[S_ A' kn cap',I_ z,I_ y] 56)) a;obtain ⟨y0,y1,y2⟩:=cR F;clear F)
          go_roundw
          case rel=>exact ⟨i+1,O_,by go_num,by rw [I.out],by rw [s.out];rfl,N,u,l⟩
          case measure=>exact bV
         | false=>
          rw [hsm] at s
          go_wp2_with (first
           | (go_at_call 213;(with_reducible refine CM (E _ (B_.alloc (bE _) _)) ?_);rintro e w1 ⟨rfl,a⟩;have u:=H_ (h_ (m_ d (.cells #[S_ A' kn cap',I_ z,I_ y] 56)) a);have l:=H_ (e_ (a_ r (.cells #[S_ A' kn cap',I_ z,I_ y] 56)) a);have F:=h_ (i_ wr (.cells #[S_ A' kn cap',I_ z,I_ y] 56)) a;obtain ⟨y0,y1,y2⟩:=cR F;clear F)
           | (go_at_call 217;(with_reducible refine CM (n _) ?_);rintro e w1 ⟨rfl,v⟩))
          go_roundw
          case rel=>exact ⟨i+1,O_,by go_num,by rw [I.out],by rw [s.out];rfl,N,h_ u v,e_ l v⟩
          case measure=>exact bV
       ·obtain rfl:i=4:=O_
        have hR:=H.out;have hA:=Y.out;rw [P.out] at hA ⊢;have g:=H_ (hR hA);obtain ⟨x0,L,M⟩:=cR d.out;clear hR hA
        cases hs:eG G with
        | true=>
         rw [hs] at g
         by_cases hm:m=kR G
         ·subst hm;go_wp2;go_ret;exact ⟨F_ (by rw [g.out];simp),r.out⟩
         ·have hd:decide (m=kR G)=false:=dF hm;go_wp2;go_ret;exact ⟨F_ (by rw [g.out];simp [hm]),r.out⟩
        | false=>
         rw [hs] at g;go_wp2;go_ret;exact ⟨F_ (by rw [g.out];simp),r.out⟩
    ·have g:=H_ (nH (h:=h) O (.inr hl));have hd:decide ((t.kids.length:Int)=4)=false:=dF O_;have a6:((t.kids.length:Int) == 4)=false:=by simp;omega
     have ac:¬(t.kids.length:Int)=4:=O_
     rw [hv] at d j f ⊢;go_enter func213,ntmps213
     go_wp2_with (go_at_call 217;(with_reducible refine CM (f _) ?_);rintro e w1 ⟨rfl,a⟩;have c:=h_ d a;obtain ⟨x0,L,M⟩:=cR c;clear c)
     go_ret;exact ⟨F_ g.symm,e_ j.out a⟩
   ·have g:=H_ (nH (h:=h) O (.inl hv));have hd:decide (t.val=0)=false:=dF hv;have a6:(t.val == 0)=false:=by simpa using hv
    go_enter func213,ntmps213
    go_wp2_with (go_at_call 217;(with_reducible refine CM (f _) ?_);rintro e w1 ⟨rfl,a⟩;have c:=h_ d a;obtain ⟨x0,L,M⟩:=cR c;clear c)
    all_goals go_ret
    all_goals exact ⟨F_ g.symm,e_ j.out a⟩
theorem c6_:∀(h:Nat) (t:T) (A:Option Addr) (cap:Nat) (S:Nat->Prop) (w:World),h<=100->t.kids.length<=cap->NK w S A t.kids->C_ 202 #[lF A t.kids.length cap t.val t.marks,I_ h] w (cG (bR h t) w):=by
 intro h
 induction h with
 | zero=>
  intro t A cap S w hh J Z;have q:=H_ ((aP (w) w).alloc (bE _) (.cells #[S_ A t.kids.length cap,I_ t.val,I_ t.marks] 56));have g:=fun w=>mH A t.kids.length cap t.val t.marks w;rw [show rS t.kids.length t.val t.marks=t.emB from rfl] at g
  cases he:t.emB with
  | true=>
   have f:=H_ (kK he 0);rw [he] at g;clear he;go_enter func202,ntmps202
   go_wp2_with (go_at_call 204;(with_reducible refine CM (g _) ?_);rintro e w1 ⟨rfl,a⟩)
   go_ret;exact ⟨F_ f.symm,e_ q.out a⟩
  | false=>
   rw [he] at g;have f:=H_ (mJ he);clear he;have d:=H_ (i_ w (.cells #[S_ A t.kids.length cap,I_ t.val,I_ t.marks] 56));unfold T.lfB at f;generalize t.kids.length=n at *;generalize t.val=v at *;generalize t.marks=m at *
   rcases n with _ | n
   ·by_cases h1:v=0
    ·have r:=H_ (show vX 0 v m=false from dF O_);subst h1;go_enter func202,ntmps202
     go_wp2_with (go_at_call 204;(with_reducible refine CM (g _) ?_);rintro e w1 ⟨rfl,a⟩;have c:=h_ d a;obtain ⟨x0,s,u⟩:=cR c;clear c)
     go_ret;exact ⟨F_ (by rw [f.out,r.out] <;> first | rfl | (simp;done) | (simp;omega) | (simpa using h1)),e_ q.out a⟩
    ·have d1:decide (v=0)=false:=dF h1;have ac:(v == 0)=false:=by simpa using h1
     by_cases h2:0<=m
     ·by_cases h3:m<=7
      ·by_cases h4:0<v
       ·have r:=H_ (show vX 0 v m=true from dT O_);go_enter func202,ntmps202
        go_wp2_with (go_at_call 204;(with_reducible refine CM (g _) ?_);rintro e w1 ⟨rfl,a⟩;have c:=h_ d a;obtain ⟨x0,s,u⟩:=cR c;clear c)
        go_ret;exact ⟨F_ (by rw [f.out,r.out] <;> first | rfl | (simp;done) | (simp;omega) | (simpa using h1)),e_ q.out a⟩
       ·by_cases h5:m=0
        ·have r:=H_ (show vX 0 v m=true from dT O_);subst h5;go_enter func202,ntmps202
         go_wp2_with (go_at_call 204;(with_reducible refine CM (g _) ?_);rintro e w1 ⟨rfl,a⟩;have c:=h_ d a;obtain ⟨x0,s,u⟩:=cR c;clear c)
         go_ret;exact ⟨F_ (by rw [f.out,r.out] <;> first | rfl | (simp;done) | (simp;omega) | (simpa using h1)),e_ q.out a⟩
        ·have r:=H_ (show vX 0 v m=false from dF O_);have d5:decide (m=0)=false:=dF h5;have ad:(m == 0)=false:=by simpa using h5
         go_enter func202,ntmps202
         go_wp2_with (go_at_call 204;(with_reducible refine CM (g _) ?_);rintro e w1 ⟨rfl,a⟩;have c:=h_ d a;obtain ⟨x0,s,u⟩:=cR c;clear c)
         go_ret;exact ⟨F_ (by rw [f.out,r.out] <;> first | rfl | (simp;done) | (simp;omega) | (simpa using h1)),e_ q.out a⟩
      ·have r:=H_ (show vX 0 v m=false from dF O_);go_enter func202,ntmps202
       go_wp2_with (go_at_call 204;(with_reducible refine CM (g _) ?_);rintro e w1 ⟨rfl,a⟩;have c:=h_ d a;obtain ⟨x0,s,u⟩:=cR c;clear c)
       go_ret;exact ⟨F_ (by rw [f.out,r.out] <;> first | rfl | (simp;done) | (simp;omega) | (simpa using h1)),e_ q.out a⟩
     ·have r:=H_ (show vX 0 v m=false from dF O_);go_enter func202,ntmps202
      go_wp2_with (go_at_call 204;(with_reducible refine CM (g _) ?_);rintro e w1 ⟨rfl,a⟩;have c:=h_ d a;obtain ⟨x0,s,u⟩:=cR c;clear c)
      go_ret;exact ⟨F_ (by rw [f.out,r.out] <;> first | rfl | (simp;done) | (simp;omega) | (simpa using h1)),e_ q.out a⟩
   ·have r:=H_ (show vX (n+1) v m=false from dF O_);have h0:((n:Int)+1=0)=False:=by simp;omega
    have a5:((n:Int)+1 == 0)=false:=beq_eq_false_iff_ne.2 O_;have h1:=a5;go_enter func202,ntmps202
    go_wp2_with (go_at_call 204;(with_reducible refine CM (g _) ?_);rintro e w1 ⟨rfl,a⟩;have c:=h_ d a;obtain ⟨x0,s,u⟩:=cR c;clear c)
    go_ret;exact ⟨F_ (by rw [f.out,r.out] <;> first | rfl | (simp;done) | (simp;omega) | (simpa using h1)),e_ q.out a⟩
 | succ h ih=>
  intro t A cap S w hh J Z;have q:=H_ ((aP (w) w).alloc (bE _) (.cells #[S_ A t.kids.length cap,I_ t.val,I_ t.marks] 56));have g:=fun w=>mH A t.kids.length cap t.val t.marks w;rw [show rS t.kids.length t.val t.marks=t.emB from rfl] at g;have hz:¬(h:Int)+1=0:=O_
  have aa:((h:Int)+1 == 0)=false:=beq_eq_false_iff_ne.2 hz;have ab:decide ((h:Int)+1=0)=false:=dF hz;rw [show ((h+1:Nat):Int)=(h:Int)+1 by omega]
  cases he:t.emB with
  | true=>
   have f:=H_ (kK he (h+1));rw [he] at g;clear he;go_enter func202,ntmps202
   go_wp2_with (go_at_call 204;(with_reducible refine CM (g _) ?_);rintro e w1 ⟨rfl,a⟩)
   go_ret;exact ⟨F_ f.symm,e_ q.out a⟩
  | false=>
   rw [he] at g;have R:=H_ he;clear he;have d:=H_ (i_ w (.cells #[S_ A t.kids.length cap,I_ t.val,I_ t.marks] 56))
   by_cases hv:t.val=0
   ·by_cases hl:t.kids.length=4
    ·have M:=H_ (fun ha=>wJ (h:=h) R hv hl ha);have r:=H_ hl;rw [hl] at g d q J ⊢;rw [hv] at g d q ⊢;have HK:=H_ (fun w' (hb:s_ w w')=>Z.step hb);have H:=H_ (fun i k (O:t.kids[i]?=some k) hf=>wK (h:=h) R O hf);have U:=H_ (show t.kids.take 4=t.kids by rw [<-hl];exact List.take_length);have hw:i64.wrap ((h:Int)+1 - 1)=(h:Int):=by rw [show (h:Int)+1 - 1=h by omega];exact gJ O_
     have ag:=gJ (x:=(h:Int)) O_;clear hv hl Z;generalize t.marks=m at g d q M ⊢;generalize t.kids=L at M HK H U r;clear R;obtain ⟨b1,B⟩:=bL w.heap.size;rw [<-B] at d;have a3:=H_ B;clear B;go_enter func202,ntmps202
     go_upto_region 0 with fail
     go_cut [2] (fun s2 wx=>s2 = P_ b1/\bA wx b1 #[S_ A 4 cap,I_ 0,I_ m] 56/\s_ w wx)
     case first=>
      go_wp2;go_meet
      case rel=>exact ⟨by rw [a3.out],d.out,q.out⟩
     case rest=>
      clear d q;obtain ⟨rfl,P,X⟩:=hcut;obtain ⟨x0,s,u⟩:=cR P;have d:=H_ P;have C:=H_ X;clear P X
      go_upto_region 7 with (go_at_call 204;(with_reducible refine CM (g _) ?_);rintro e w1 ⟨rfl,a⟩;obtain ⟨c,V⟩:=jN d C a;obtain ⟨x0,s,u⟩:=cR c.out)
      clear d C g a hz aa ab;go_wp2;clear x0 s u
      go_loopw [5,6,7] (fun s5 s6 s27 wx=>∃i:Nat,i<=4/\s27 = I_ i/\s5 = I_ (kR (L.take i))/\s6 = .bool (eG (L.take i))/\(L.take i).all (bR h)=true/\bA wx b1 #[S_ A 4 cap,I_ 0,I_ m] 56/\s_ w wx) (fun _ _ s27 _=>4 - (intOf s27).toNat)
      case atStart=>exact ⟨0,O_,rfl,rfl,rfl,rfl,c.out,V.out⟩
      case round=>
       clear c V;obtain ⟨i,af,rfl,rfl,rfl,I,P,X⟩:=hrel;obtain ⟨d,C,HA⟩:=eI P X I;clear P X I
       by_cases a9:i<4
       ·have W:=HK _ C;obtain ⟨b,o,k,A',cap',rfl,_,l,O,a6,a8,a0,a1⟩:=W.at_ (show i<L.length by rw [r.out];exact a9);obtain ⟨c0,c1,c2⟩:=a6;have N:=H_ (pS O);have G:=H_ (oV O);have a2:=H_ (fun Z=>yR (p:=bR h) O HA Z);have a4:=H_ (H i k O);obtain ⟨D,E,F⟩:=eI c0 c1 c2;have K:=fun w' (hb:s_ wr w')=>ih k A' cap' S w' O_ a0 (a1.step hb);have z:=fun w=>mH A' k.kids.length cap' k.val k.marks w;rw [show rS k.kids.length k.val k.marks=k.emB from rfl] at z;have i0:(0:Int)<=(i:Int):=O_
        have i1:(i:Int)<4:=O_
        have i2:(i:Int)<(cap:Int):=O_
        have i3:(i:Int)<=(cap:Int):=O_
        generalize k.kids.length=kn at K z c0 D a8 a0;generalize k.marks=km at K z c2 F N;generalize k.val=kv at K z c1 E;clear W O a1 HA;obtain ⟨x0,s,u⟩:=cR d.out
        cases hrk:bR h k with
        | false=>
         have f:=H_ (a4 hrk);rw [hrk] at K;clear hrk
         go_wp2_with (go_at_call 202;(with_reducible refine CM (K _ B_) ?_);rintro e w1 ⟨rfl,a⟩;obtain ⟨j,y⟩:=jN d C a;have y0:=(a.cell (p:=⟨b,_,none⟩) l).trans D;have y1:=(a.cell (p:=⟨b,_,none⟩) l).trans E;have y2:=(a.cell (p:=⟨b,_,none⟩) l).trans F;have z0:=b_ j 0;have z2:=b_ j 2;simp only[zl] at z0 z2)
         go_ret;exact ⟨F_ f.symm,y⟩
        | true=>
         have Q:=H_ (a2 hrk);rw [hrk] at K;clear hrk
         cases hsm:eG (L.take i) with
         | true=>
          rw [hsm] at G
          go_wp2_with (go_at_call 202;(with_reducible refine CM (K _ B_) ?_);rintro e w1 ⟨rfl,a⟩;obtain ⟨j,y⟩:=jN d C a;have y0:=(a.cell (p:=⟨b,_,none⟩) l).trans D;have y1:=(a.cell (p:=⟨b,_,none⟩) l).trans E;have y2:=(a.cell (p:=⟨b,_,none⟩) l).trans F;have z0:=b_ j 0;have z2:=b_ j 2;simp only[zl] at z0 z2)
          go_roundw
          case rel=>exact ⟨i+1,O_,by go_num,by rw [N.out],by rw [G.out];rfl,Q,j,y⟩
          case measure=>exact bV
         | false=>
          rw [hsm] at G
          go_wp2_with (first
           | (go_at_call 202;(with_reducible refine CM (K _ B_) ?_);rintro e w1 ⟨rfl,a⟩;obtain ⟨j,y⟩:=jN d C a;have y0:=(a.cell (p:=⟨b,_,none⟩) l).trans D;have y1:=(a.cell (p:=⟨b,_,none⟩) l).trans E;have y2:=(a.cell (p:=⟨b,_,none⟩) l).trans F;have z0:=b_ j 0;have z2:=b_ j 2;simp only[zl] at z0 z2)
           | (go_at_call 204;(with_reducible refine CM (z _) ?_);rintro e w1 ⟨rfl,Y⟩))
          go_roundw
          case rel=>exact ⟨i+1,O_,by go_num,by rw [N.out],by rw [G.out];rfl,Q,h_ j Y,e_ y Y⟩
          case measure=>exact bV
       ·obtain rfl:i=4:=O_
        have hR:=M.out;have hA:=HA.out;rw [U.out] at hA ⊢;have f:=H_ (hR hA);obtain ⟨x0,s,u⟩:=cR d.out;clear hR hA
        cases hs:eG L with
        | true=>
         rw [hs] at f
         by_cases hm:m=kR L
         ·subst hm;go_wp2;go_ret;exact ⟨F_ (by rw [f.out];simp),C.out⟩
         ·have hd:decide (m=kR L)=false:=dF hm;go_wp2;go_ret;exact ⟨F_ (by rw [f.out];simp [hm]),C.out⟩
        | false=>
         rw [hs] at f;go_wp2;go_ret;exact ⟨F_ (by rw [f.out];simp),C.out⟩
    ·have f:=H_ (nH (h:=h) R (.inr hl));have hd:decide ((t.kids.length:Int)=4)=false:=dF O_;have a7:((t.kids.length:Int) == 4)=false:=by simp;omega
     have ae:¬(t.kids.length:Int)=4:=O_
     rw [hv] at d q g ⊢;go_enter func202,ntmps202
     go_wp2_with (go_at_call 204;(with_reducible refine CM (g _) ?_);rintro e w1 ⟨rfl,a⟩;have c:=h_ d a;obtain ⟨x0,s,u⟩:=cR c;clear c)
     go_ret;exact ⟨F_ f.symm,e_ q.out a⟩
   ·have f:=H_ (nH (h:=h) R (.inl hv));have hd:decide (t.val=0)=false:=dF hv;have a7:(t.val == 0)=false:=by simpa using hv
    go_enter func202,ntmps202
    go_wp2_with (go_at_call 204;(with_reducible refine CM (g _) ?_);rintro e w1 ⟨rfl,a⟩;have c:=h_ d a;obtain ⟨x0,s,u⟩:=cR c;clear c)
    all_goals go_ret
    all_goals exact ⟨F_ f.symm,e_ q.out a⟩
end
section
abbrev Cn:=Nat->Int × Int
def sh (c:Cn) (k:Nat):Cn:=fun i=>c (k+i)
theorem g7_ (c:Cn) (a b:Nat):sh (sh c a) b=sh c (a+b):=by funext i;simp [sh,Nat.add_assoc]
theorem qF (c:Cn):sh c 0=c:=by funext i;simp [sh]
def bS (n:Nat) (c:Cn):Bool:=decide (∀i,i<n->c i=(0,0))
theorem aZ {c:Cn}:bS n c=true↔∀i,i<n->c i=(0,0):=by simp [bS]
theorem eN {c:Cn}:bS n c=false↔∃i,i<n/\c i≠(0,0):=by simp [bS]
def j_:Nat->Cn->T
 | 0,c=> .mk [] (c 0).1 (c 0).2
 | h+1,c=>if bS (4 ^ (h+1)) c then .nil else .mk ((List.range 4).map fun k=>j_ h (sh c (k*4 ^ h))) 0 (kR ((List.range 4).map fun k=>j_ h (sh c (k*4 ^ h))))
def aB (h:Nat) (c:Cn):List T:=(List.range 4).map fun k=>j_ h (sh c (k*4 ^ h))
theorem bJ (h:Nat) (c:Cn):j_ (h+1) c=if bS (4 ^ (h+1)) c then .nil else .mk (aB h c) 0 (kR (aB h c)):=rfl
theorem aC (h:Nat) (c:Cn):(aB h c).length=4:=by simp [aB]
theorem dR {h:Nat} {c:Cn} {k:Nat} (hk:k<4):(aB h c)[k]?=some (j_ h (sh c (k*4 ^ h))):=by
 unfold aB;rw [gP_,List.getElem?_range hk]
 rfl
def ej_ (x:Int × Int):Prop:=x=(0,0)\/(x.1≠0/\0<=x.2/\x.2<=7/\(0<x.1\/x.2=0))
def bF (c:Cn):Prop:=∀i,ej_ (c i)
theorem bF.sh {c:Cn} (h:bF c) (k:Nat):bF (sh c k):=fun i=>h (k+i)
theorem rG (hi:i<4 ^ (h+1)):i / 4 ^ h<4/\i / 4 ^ h*4 ^ h+i % 4 ^ h=i/\i % 4 ^ h<4 ^ h:=by
 have h0:0<4 ^ h:=Nat.pow_pos O_;refine ⟨?_,?_,Nat.mod_lt _ h0⟩
 ·rw [Nat.div_lt_iff_lt_mul h0];rw [Nat.pow_succ] at hi;omega
 ·have:=Nat.div_add_mod i (4 ^ h);rw [Nat.mul_comm];exact this
theorem uG {k:Nat} (hk:k<4) (hj:j<4 ^ h):k*4 ^ h+j<4 ^ (h+1):=by
 rw [Nat.pow_succ];have:k*4 ^ h<=3*4 ^ h:=Nat.mul_le_mul_right _ O_;omega
theorem rE {c:Cn}:bS (4 ^ (h+1)) c=true↔∀k,k<4->bS (4 ^ h) (sh c (k*4 ^ h))=true:=by
 simp only[aZ]
 constructor
 ·intro H k hk j hj;exact H _ (uG hk hj)
 ·intro H i hi;obtain ⟨h1,h2,h3⟩:=rG hi;have:=H _ h1 _ h3;simp only[sh] at this;rw [h2] at this;exact this
theorem lV:∀(h:Nat) {c c':Cn},(∀i,i<4 ^ h->c i=c' i)->j_ h c=j_ h c'
 | 0,c,c',H=>by simp only[j_];rw [H 0 A_]
 | h+1,c,c',H=>by
  have e:aB h c=aB h c':=by
   unfold aB;refine List.map_congr_left fun k d=>lV h fun i a=>?_;exact H _ (uG (List.mem_range.1 d) a)
  have b:bS (4 ^ (h+1)) c=bS (4 ^ (h+1)) c':=by
   rw [Bool.eq_iff_iff,aZ,aZ];exact ⟨fun G i a=>(H i a).symm.trans (G i a),fun G i a=>(H i a).trans (G i a)⟩
  rw [bJ,bJ,e,b]
theorem tR (ks:List T) (v m:Int):(T.mk ks v m).emB=rS ks.length v m:=rfl
theorem ek_ (ks:List T) (v m:Int):(T.mk ks v m).lfB=vX ks.length v m:=rfl
theorem tS:rS n v m=true↔n=0/\v=0/\m=0:=by simp [rS]
theorem zV:vX n v m=true↔n=0/\v≠0/\0<=m/\m<=7/\(0<v\/m=0):=by simp [vX]
theorem fS_:T.nil.emB=true:=by decide
theorem cO (h:Nat) (c:Cn):(j_ h c).emB=bS (4 ^ h) c:=by
 cases h with
 | zero=>
  rw [Bool.eq_iff_iff,aZ,show j_ 0 c = .mk [] (c 0).1 (c 0).2 from rfl,tR,tS]
  constructor
  ·rintro ⟨_,h1,h2⟩ i a;obtain rfl:i=0:=by simpa using a
   exact Prod.ext h1 h2
  ·intro H;have:=H 0 A_;rw [this];simp
 | succ h=>
  rw [bJ]
  cases hn:bS (4 ^ (h+1)) c with
  | true=>rw [if_pos rfl,fS_]
  | false=>
   rw [if_neg A_];simp [tR,rS,aC]
theorem lI (h:Nat) (c:Cn):eG (aB h c)=!bS (4 ^ (h+1)) c:=by
 rw [Bool.eq_iff_iff];unfold eG;rw [List.any_eq_true,Bool.not_eq_true',<-Bool.not_eq_true,rE]
 constructor
 ·rintro ⟨t,b,h1⟩ H;unfold aB at b;obtain ⟨k,a,rfl⟩:=List.mem_map.1 b;rw [cO,H k (List.mem_range.1 a)] at h1;simp at h1
 ·intro H;have:∃k,k<4/\bS (4 ^ h) (sh c (k*4 ^ h))≠true:=by
   apply Classical.byContradiction;intro G;exact H fun k a=>Classical.byContradiction fun g=>G ⟨k,a,g⟩
  obtain ⟨k,a,d⟩:=this;exact ⟨_,gL (dR a),by rw [cO];simpa using d⟩
theorem oT:∀(h:Nat) {c:Cn},bF c->bR h (j_ h c)=true
 | 0,c,hc=>by
  simp only[bR,Bool.or_eq_true];rw [show j_ 0 c = .mk [] (c 0).1 (c 0).2 from rfl,tR,ek_,tS,zV]
  rcases hc 0 with h | h
  ·left;rw [h];simp
  ·right;exact ⟨rfl,h⟩
 | h+1,c,hc=>by
  cases hn:bS (4 ^ (h+1)) c with
  | true=>exact kK (by rw [cO];exact hn) _
  | false=>
   rw [bJ,hn,if_neg A_];have he:(T.mk (aB h c) 0 (kR (aB h c))).emB=false:=by simp [tR,rS,aC]
   rw [gZ he];simp only[T.kids,T.val,T.marks,aC,lI,hn];have:(aB h c).all (bR h)=true:=by
    rw [List.all_eq_true];intro t a;unfold aB at a;obtain ⟨k,_,rfl⟩:=List.mem_map.1 a;exact oT h (hc.sh _)
   rw [this];simp
def eH:Cn:=fun _=>(0,0)
theorem iU:bF eH:=fun _=> .inl rfl
theorem cM_:bS n eH=true:=aZ.2 fun _ _=>rfl
theorem dP {c:Cn} (hn:bS (4 ^ h) c=true):j_ h c = .nil:=by
 cases h with
 | zero=>
  simp only[j_];rw [aZ.1 hn 0 A_]
  rfl
 | succ h=>rw [bJ,hn,if_pos rfl]
theorem aP_ (h:t.emB=true):t = .nil:=by
 obtain ⟨ks,v,m⟩:=t;rw [tR,tS] at h;obtain ⟨h1,rfl,rfl⟩:=h;rw [List.length_eq_zero_iff.1 h1]
 rfl
theorem nQ:∀(h:Nat) {t:T},bR h t=true->∃c,bF c/\(∀i,4 ^ h<=i->c i=(0,0))/\t=j_ h c
 | h,t,hr=>by
  cases he:t.emB with
  | true=>exact ⟨eH,iU,fun _ _=>rfl,by rw [aP_ he,dP (cM_)]⟩
  | false=>
   match h with
   | 0=>
    rw [mJ he] at hr;obtain ⟨ks,v,m⟩:=t;rw [ek_,zV] at hr;obtain ⟨h1,h2⟩:=hr;refine ⟨fun i=>if i=0 then (v,m) else (0,0),fun i=>?_,fun i a=>?_,?_⟩
    ·by_cases a:i=0
     ·simp only[a,if_true];exact .inr h2
     ·simp only[a,if_false];exact .inl rfl
    ·have:i≠0:=by simp at a;omega
     simp [this]
    ·rw [List.length_eq_zero_iff.1 h1];simp [j_]
   | h+1=>
    rw [gZ he] at hr;simp only[Bool.and_eq_true,decide_eq_true_eq] at hr;obtain ⟨⟨⟨h1,h2⟩,h3⟩,d,o⟩:=hr;obtain ⟨ks,v,m⟩:=t;simp only[T.kids,T.val,T.marks] at h1 h2 h3 d o;subst h1;have n:∀k:Nat,∃c,bF c/\∀x,ks[k]?=some x->x=j_ h c:=fun k=>by
     cases b:ks[k]? with
     | none=>exact ⟨eH,iU,fun _ h=>by cases h⟩
     | some x=>
      obtain ⟨c,hc,_,e⟩:=nQ h (List.all_eq_true.1 h3 x (gL b));exact ⟨c,hc,fun y l=>by injection l with l;rw [<-l];exact e⟩
    let f:Nat->Cn:=fun k=>Classical.choose (n k)
    have hf:∀k,bF (f k)/\∀x,ks[k]?=some x->x=j_ h (f k):=fun k=>Classical.choose_spec (n k);have s:0<4 ^ h:=Nat.pow_pos O_;refine ⟨fun i=>if i<4 ^ (h+1) then f (i / 4 ^ h) (i % 4 ^ h) else (0,0),fun i=>?_,fun i a=>?_,?_⟩
    ·by_cases a:i<4 ^ (h+1)
     ·simp only[a,if_true];exact (hf _).1 _
     ·simp only[a,if_false];exact .inl rfl
    ·show (if i<4 ^ (h+1) then _ else _)=_
     rw [if_neg O_]
    ·have e:ks=aB h (fun i=>if i<4 ^ (h+1) then f (i / 4 ^ h) (i % 4 ^ h) else (0,0)):=by
      apply List.ext_getElem?;intro k
      by_cases p:k<4
      ·rw [dR p];have b:ks[k]?=some ks[k]:=cY O_;rw [b]
       congr 1
       rw [(hf k).2 _ b];refine lV h fun j g=>?_;simp only[sh];rw [if_pos (uG p g)];have q:(k*4 ^ h+j) / 4 ^ h=k:=by rw [Nat.add_comm,Nat.add_mul_div_right _ _ s,Nat.div_eq_of_lt g,Nat.zero_add]
       have r:(k*4 ^ h+j) % 4 ^ h=j:=by rw [Nat.add_comm,Nat.add_mul_mod_self_right,Nat.mod_eq_of_lt g]
       rw [q,r]
      ·rw [eN_ O_,eN_ (by rw [aC];omega)]
     generalize (fun i=>if i<4 ^ (h+1) then f (i / 4 ^ h) (i % 4 ^ h) else (0,0):Cn)=c at e;subst e;rw [lI] at d;rw [bJ,if_neg (by simpa using d),o]
def aM (h:Nat) (c:Cn):Prop:=h<=4/\(∀i,4 ^ h<=i->c i=(0,0))/\(h=0\/∃i,4 ^ (h - 1)<=i/\c i≠(0,0))
theorem aM.le {h':Nat} {c:Cn} (a:aM h c) (b:aM h' c):h<=h':=by
 rcases a.2.2 with h0 | ⟨i,h1,h2⟩
 ·omega
 ·rcases Nat.lt_or_ge h' h with hlt | hge
  ·exfalso
   exact h2 (b.2.1 i (eF (Nat.pow_le_pow_right O_ O_) h1))
  ·exact hge
theorem aM.zero:aM 0 eH:=⟨O_,fun _ _=>rfl,.inl rfl⟩
def gW (t:T):Bool:=eG (t.kids.drop 1)
theorem mY {c:Cn}:gW (j_ (h+1) c)=true↔∃i,4 ^ h<=i/\i<4 ^ (h+1)/\c i≠(0,0):=by
 rw [bJ]
 cases hn:bS (4 ^ (h+1)) c with
 | true=>
  rw [if_pos rfl]
  constructor
  ·intro h;simp [gW,T.nil,T.kids,eG] at h
  ·rintro ⟨i,_,h2,h3⟩;exact absurd (aZ.1 hn i h2) h3
 | false=>
  rw [if_neg A_];simp only[gW,T.kids,eG,List.any_eq_true];have l:0<4 ^ h:=Nat.pow_pos O_
  constructor
  ·rintro ⟨t,g,h1⟩;obtain ⟨k,a⟩:=List.getElem?_of_mem g;rw [List.getElem?_drop] at a;have b:1+k<4:=by
    have:=bI a;rw [aC] at this;exact this
   rw [dR b] at a;injection a with a
   subst a;rw [cO] at h1;obtain ⟨j,f,d⟩:=eN.1 (by simpa using h1);refine ⟨(1+k)*4 ^ h+j,?_,uG b f,d⟩;have:1*4 ^ h<=(1+k)*4 ^ h:=Nat.mul_le_mul_right _ O_;omega
  ·rintro ⟨i,h1,h2,h3⟩;obtain ⟨m,n,o⟩:=rG h2;have p:1<=i / 4 ^ h:=by rw [Nat.le_div_iff_mul_le l];omega
   refine ⟨j_ h (sh c (i / 4 ^ h*4 ^ h)),?_,?_⟩
   ·refine gL (i:=i / 4 ^ h - 1) ?_;rw [List.getElem?_drop,show 1+(i / 4 ^ h - 1)=i / 4 ^ h by omega,dR m]
   ·rw [cO,eN.2 ⟨i % 4 ^ h,o,by simp only[sh];rw [n];exact h3⟩]
    rfl
def dL (h:Int) (t:T):Bool:=decide (0<=h/\h<=4)&&(bR h.toNat t&&(decide (h=0)||gW t))
theorem iC {c:Cn} (hc:bF c) (ht:aM h c):dL h (j_ h c)=true:=by
 unfold dL;rw [dT (by have:=ht.1;omega),Int.toNat_natCast,oT h hc]
 rcases h with _ | h
 ·simp
 ·rcases ht.2.2 with h0 | ⟨i,h1,h2⟩
  ·omega
  ·have:gW (j_ (h+1) c)=true:=mY.2 ⟨i,by simpa using h1,by
    rcases Nat.lt_or_ge i (4 ^ (h+1)) with hlt | hge
    ·exact hlt
    ·exact absurd (ht.2.1 i hge) h2,h2⟩
   rw [this];simp
end
section
def pU (i:Nat):Value:= .agg #[I_ ((i / 4 / 4 / 4 % 4:Nat):Int),I_ ((i / 4 / 4 % 4:Nat):Int),I_ ((i / 4 % 4:Nat):Int),I_ ((i % 4:Nat):Int)]
def iK_ (v:Value) (w:World) (e:Ending) (w':World):Prop:=e = .returned v/\s_ w w'
theorem td4 (i:Nat):(i:Int).tdiv 4=((i / 4:Nat):Int):=by rw [tv_ O_];omega
theorem tm4 (i:Nat):(i:Int).tmod 4=((i % 4:Nat):Int):=by rw [tm_ O_];omega
theorem b6_ (i:Nat) (w:World) (hi:i<256):C_ 215 #[I_ i] w (iK_ (pU i) w):=by
 have n:=td4 i;have r:=tm4 i;have o:=td4 (i / 4);have s:=tm4 (i / 4);have p:=td4 (i / 4 / 4);have t:=tm4 (i / 4 / 4);have q:=td4 (i / 4 / 4 / 4);have u:=tm4 (i / 4 / 4 / 4);unfold pU;have k:i / 4<64:=O_
 have l:i / 4 / 4<16:=O_
 have m:i / 4 / 4 / 4<4:=O_
 have a0:i % 4<4:=O_
 have a1:i / 4 % 4<4:=O_
 have a2:i / 4 / 4 % 4<4:=O_
 have a3:i / 4 / 4 / 4 % 4<4:=O_
 generalize i / 4 / 4 / 4 % 4=d at *;generalize i / 4 / 4 / 4 / 4=y at *;generalize i / 4 / 4 / 4=j at *;generalize i / 4 / 4 % 4=c at *;generalize i / 4 / 4=g at *;generalize i / 4 % 4=b at *;generalize i / 4=f at *;generalize i % 4=a at *;have w0:=gJ (x:=(a:Int)) O_;have w1:=gJ (x:=(b:Int)) O_;have w2:=gJ (x:=(c:Int)) O_;have w3:=gJ (x:=(d:Int)) O_;have v1:=gJ (x:=(f:Int)) O_;have v2:=gJ (x:=(g:Int)) O_;have v3:=gJ (x:=(j:Int)) O_;go_enter func215,ntmps215
 go_upto_region 2 with fail
 go_wp2;refine wp_loop_rounds 5 ?_
 rw [rounds_succ];go_wp2;rw [rounds_succ];go_wp2;rw [rounds_succ];go_wp2;rw [rounds_succ];go_wp2;rw [rounds_succ];go_wp2;exact bodyPost_ret (v:= .agg #[I_ d,I_ c,I_ b,I_ a]) (by simp [results,results215,go_sem]) rfl ⟨rfl,((aP (w) w).alloc (bE _) _).alloc A_ _⟩
theorem f4_ {P:Program} {t:TypeId} {n:Nat} (h:(P.info? t).map (·.size)=some n):∃j,P.info? t=some j/\j.size=n:=by
 cases hj:P.info? t with
 | none=>rw [hj] at h;cases h
 | some j=>rw [hj] at h;exact ⟨j,rfl,by simpa using h⟩
theorem pN (d:Nat) {xs ys:Array Value} {is:List Nat} (w:World) (i:Nat) (x y:Int) (hx:xs[i]?=some (I_ x)) (hy:ys[i]?=some (I_ y)) :
  (Op.eqItems (d+1) 3 1 xs ys (i :: is)).run prog w=if x == y then (Op.eqItems (d+1) 3 1 xs ys is).run prog w else .ok false w:=by
 have h1:(part 3 xs i).run prog w = .ok (I_ x) w:=by simp [part,isAgg,run_underlying underlying3,go_sem,hx]
 have h2:(part 3 ys i).run prog w = .ok (I_ y) w:=by simp [part,isAgg,run_underlying underlying3,go_sem,hy]
 have h3:=run_equalIn_int w d 3 .i64 .i64 x y underlying3;simp only[Op.eqItems,Nat.mul_one,Sem.run_ite,Sem.run_bind,h1,h2,h3,Result.andThen_ok]
 by_cases h:x=y
 ·subst h;simp
 ·simp [h,Sem.run_pure]
theorem mG (a b c d:Int) (w:World):(Op.equalIn 10000 249 (.agg #[I_ a,I_ b,I_ c,I_ d]) (.agg #[I_ 0,I_ 0,I_ 0,I_ 0])).run prog w = .ok (a == 0&&(b == 0&&(c == 0&&d == 0))) w:=by
 obtain ⟨k,f,g⟩:=f4_ (P:=prog) (t:=3) (n:=1) q_;have hc:prog.cellsOf 3=1:=by kernel_rfl
 rw [show (10000:Nat)=9999+1 from rfl,run_equalIn_array w 9999 _ _ underlying249 f,hc];rw [show List.range 4=[0,1,2,3] from rfl,show (9999:Nat)=9998+1 from rfl];rw [pN 9998 w 0 a 0 rfl rfl,pN 9998 w 1 b 0 rfl rfl,pN 9998 w 2 c 0 rfl rfl,pN 9998 w 3 d 0 rfl rfl]
 cases a == 0 <;> cases b == 0 <;> cases c == 0 <;> cases d == 0 <;> simp [Op.eqItems,Sem.run_pure]
def hf (i:Nat):Nat:=if i=0 then 0 else if i<4 then 1 else if i<16 then 2 else if i<64 then 3 else 4
theorem zL (i:Nat) (w:World) (hi:i<256):C_ 216 #[pU i] w (sD (hf i) w):=by
 unfold pU;have m:=H_ (fun o:Obj=>(aP (w) w).alloc (bE _) o);have k:=H_ (fun h:¬i / 4 / 4 / 4 % 4=0=>show hf i=4 by unfold hf;rw [if_neg O_,if_neg O_,if_neg O_,if_neg O_]);have j:=H_ (fun (h:i / 4 / 4 / 4 % 4=0) (h':¬i / 4 / 4 % 4=0)=>show hf i=3 by unfold hf;rw [if_neg O_,if_neg O_,if_neg O_,if_pos O_]);have g:=H_ (fun (h:i / 4 / 4 / 4 % 4=0) (h':i / 4 / 4 % 4=0) (h'':¬i / 4 % 4=0)=>show hf i=2 by unfold hf;rw [if_neg O_,if_neg O_,if_pos O_]);have f:=H_ (fun (h:i / 4 / 4 / 4 % 4=0) (h':i / 4 / 4 % 4=0) (h'':i / 4 % 4=0) (h3:¬i % 4=0)=>show hf i=1 by unfold hf;rw [if_neg O_,if_pos O_]);have d:=H_ (fun (h:i / 4 / 4 / 4 % 4=0) (h':i / 4 / 4 % 4=0) (h'':i / 4 % 4=0) (h3:i % 4=0)=>show hf i=0 by unfold hf;rw [if_pos O_]);generalize i / 4 / 4 / 4 % 4=q at *;generalize i / 4 / 4 % 4=n at *;generalize i / 4 % 4=l at *;generalize i % 4=c at *;generalize hf i=y at *
 by_cases h3:q=0
 ·subst h3
  by_cases h2:n=0
  ·subst h2
   by_cases h1:l=0
   ·subst h1
    by_cases h0:c=0
    ·subst h0;obtain rfl:=d.out rfl rfl rfl rfl;clear k j g f d;have p:=fun w=>mG 0 0 0 0 w;go_enter func216,ntmps216;go_wp2;refine wp_loop_rounds 5 ?_;rw [rounds_succ];go_wp2;rw [rounds_succ];go_wp2;rw [rounds_succ];go_wp2;rw [rounds_succ];go_wp2;rw [rounds_succ];go_wp2;go_ret;exact ⟨rfl,m.out _⟩
    ·obtain rfl:=f.out rfl rfl rfl h0;clear k j g f d;have b:((c:Int) == 0)=false:=beq_eq_false_iff_ne.2 O_;have a:¬(c:Int)=0:=O_
     have p:=fun w=>mG 0 0 0 (c:Int) w;go_enter func216,ntmps216;go_wp2;refine wp_loop_rounds 5 ?_;rw [rounds_succ];go_wp2;rw [rounds_succ];go_wp2;rw [rounds_succ];go_wp2;rw [rounds_succ];go_wp2;go_ret;exact ⟨rfl,m.out _⟩
   ·obtain rfl:=g.out rfl rfl h1;clear k j g f d;have b:((l:Int) == 0)=false:=beq_eq_false_iff_ne.2 O_;have a:¬(l:Int)=0:=O_
    have p:=fun w=>mG 0 0 (l:Int) (c:Int) w;go_enter func216,ntmps216;go_wp2;refine wp_loop_rounds 5 ?_;rw [rounds_succ];go_wp2;rw [rounds_succ];go_wp2;rw [rounds_succ];go_wp2;go_ret;exact ⟨rfl,m.out _⟩
  ·obtain rfl:=j.out rfl h2;clear k j g f d;have b:((n:Int) == 0)=false:=beq_eq_false_iff_ne.2 O_;have a:¬(n:Int)=0:=O_
   have p:=fun w=>mG 0 (n:Int) (l:Int) (c:Int) w;go_enter func216,ntmps216;go_wp2;refine wp_loop_rounds 5 ?_;rw [rounds_succ];go_wp2;rw [rounds_succ];go_wp2;go_ret;exact ⟨rfl,m.out _⟩
 ·obtain rfl:=k.out h3;clear k j g f d;have b:((q:Int) == 0)=false:=beq_eq_false_iff_ne.2 O_;have a:¬(q:Int)=0:=O_
  have p:=fun w=>mG (q:Int) (n:Int) (l:Int) (c:Int) w;go_enter func216,ntmps216;go_wp2;refine wp_loop_rounds 5 ?_;rw [rounds_succ];go_wp2;go_ret;exact ⟨rfl,m.out _⟩
theorem eg_ (i:Int) (w:World):C_ 182 #[I_ i] w fun e w'=>e = .returned (.bool (decide (0<=i/\i<=255)))/\w=w':=by
 by_cases h0:0<=i
 ·by_cases h1:i<=255
  ·rw [decide_eq_true ⟨h0,h1⟩];go_enter func182,ntmps182;go_wp2;go_ret;exact ⟨rfl,rfl⟩
  ·rw [dF O_];go_enter func182,ntmps182;go_wp2;go_ret;exact ⟨rfl,rfl⟩
 ·rw [dF O_];go_enter func182,ntmps182;go_wp2;go_ret;exact ⟨rfl,rfl⟩
end
section
abbrev nY (h:Int) (A:Option Addr) (n cap:Nat) (v m:Int):Value:= .agg #[I_ h,S_ A n cap,I_ v,I_ m]
theorem hV_ (h:Nat) (A:Option Addr) (n cap:Nat) (v m:Int) (w:World) (hh:h<=4):C_ 194 #[nY h A n cap v m] w (sD ((4 ^ h:Nat):Int) w):=by
 have a:=H_ (fun o:Obj=>(aP (w) w).alloc (bE _) o)
 match h,hh with
 | 0,_=>
  go_enter func194,ntmps194;go_wp2;go_ret;exact ⟨rfl,a.out _⟩
 | 1,_=>
  go_enter func194,ntmps194;go_wp2;go_ret;exact ⟨rfl,a.out _⟩
 | 2,_=>
  go_enter func194,ntmps194;go_wp2;go_ret;exact ⟨rfl,a.out _⟩
 | 3,_=>
  go_enter func194,ntmps194;go_wp2;go_ret;exact ⟨rfl,a.out _⟩
 | 4,_=>
  go_enter func194,ntmps194;go_wp2;go_ret;exact ⟨rfl,a.out _⟩
 | h+5,hh=>omega
def eO (m:Int):Bool:=decide (m=1\/m=2\/m=4)
theorem hD_ (m:Int) (w:World):C_ 192 #[I_ m] w fun e w'=>e = .returned (.bool (eO m))/\w=w':=by
  by_cases h1:m=1
  ·subst h1;go_enter func192,ntmps192;go_wp2;go_ret;exact ⟨rfl,rfl⟩
  ·have c:(m == 1)=false:=beq_eq_false_iff_ne.2 h1
   by_cases h2:m=2
   ·subst h2;go_enter func192,ntmps192;go_wp2;go_ret;exact ⟨rfl,rfl⟩
   ·have d:(m == 2)=false:=beq_eq_false_iff_ne.2 h2
    by_cases a:m=4
    ·subst a;go_enter func192,ntmps192;go_wp2;go_ret;exact ⟨rfl,rfl⟩
    ·have f:(m == 4)=false:=beq_eq_false_iff_ne.2 a;have b:=H_ (show eO m=false from dF O_);go_enter func192,ntmps192;go_wp2;go_ret;exact ⟨F_ b.symm,rfl⟩
theorem ja_ (m:Int) (w:World):C_ 226 #[I_ m] w fun e w'=>e = .returned (.bool (eO m))/\w=w':=by
  by_cases h1:m=1
  ·subst h1;go_enter func226,ntmps226;go_wp2;go_ret;exact ⟨rfl,rfl⟩
  ·have c:(m == 1)=false:=beq_eq_false_iff_ne.2 h1
   by_cases h2:m=2
   ·subst h2;go_enter func226,ntmps226;go_wp2;go_ret;exact ⟨rfl,rfl⟩
   ·have d:(m == 2)=false:=beq_eq_false_iff_ne.2 h2
    by_cases a:m=4
    ·subst a;go_enter func226,ntmps226;go_wp2;go_ret;exact ⟨rfl,rfl⟩
    ·have f:(m == 4)=false:=beq_eq_false_iff_ne.2 a;have b:=H_ (show eO m=false from dF O_);go_enter func226,ntmps226;go_wp2;go_ret;exact ⟨F_ b.symm,rfl⟩
theorem gT (h:Nat) (w:World) (hh:h<=4):C_ 205 #[I_ h] w fun e w'=>e = .returned (I_ ((4 ^ h:Nat):Int))/\w=w':=by
 go_enter func205,ntmps205;go_wp2
 go_loopw [3,4] (fun s3 s4 wx=>∃k:Nat,k<=h/\s4 = I_ k/\s3 = I_ ((4 ^ k:Nat):Int)/\w=wx) (fun _ s4 _=>h - (intOf s4).toNat)
 case atStart=>exact ⟨0,O_,rfl,rfl,by first | rfl | trivial⟩
 case round=>
  obtain ⟨k,g,rfl,rfl,rfl⟩:=hrel;have c:=H_ (show ((4 ^ (k+1):Nat):Int)=((4 ^ k:Nat):Int)*4 by rw [Nat.pow_succ];omega);have b:4 ^ k<=4 ^ 4:=Nat.pow_le_pow_right O_ O_;obtain ⟨p,a⟩:∃p,4 ^ k=p:=⟨_,rfl⟩;rw [a] at c b ⊢;have d:=H_ a;clear a
  by_cases f:k<h
  ·have i:(k:Int)<(h:Int):=O_
   have j:=gJ (x:=(p:Int)*4) O_;go_wp2;go_roundw
   case rel=>exact ⟨k+1,O_,by go_num,by rw [c.out],by first | rfl | trivial⟩
   case measure=>exact bV
  ·obtain rfl:k=h:=O_
   go_wp2;go_ret
   exact ⟨by rw [d.out];rfl,rfl⟩
theorem rX (i:Nat) (w:World) (hi:i<256):C_ 203 #[I_ i] w fun e w'=>e = .returned (I_ (hf i))/\w=w':=by
 have g:=gT 0;have j:=gT 1;have l:=gT 2;have m:=gT 3;have n:=gT 4;have d:(i<1/\hf i=0)\/(1<=i/\i<4/\hf i=1)\/(4<=i/\i<16/\hf i=2)\/(16<=i/\i<64/\hf i=3)\/(64<=i/\hf i=4):=by unfold hf;(repeat' split) <;> omega
 go_enter func203,ntmps203;go_wp2
 go_loopw [3] (fun s3 wx=>∃k:Nat,k<=hf i/\s3 = I_ k/\w=wx) (fun s3 _=>hf i - (intOf s3).toNat)
 case atStart=>exact ⟨0,O_,rfl,by first | rfl | trivial⟩
 case round=>
  obtain ⟨k,q,rfl,rfl⟩:=hrel;have c:k<=4:=O_
  have b:=gT k w c;have a:(k<hf i->4 ^ k<=i)/\(k=hf i->i<4 ^ k):=by
   match k,c with
   | 0,_=>omega
   | 1,_=>omega
   | 2,_=>omega
   | 3,_=>omega
   | 4,_=>omega
   | k+5,h=>omega
  generalize 4 ^ k=p at b a;clear g j l m n d
  by_cases f:k<hf i
  ·have o:(p:Int)<=(i:Int):=by have:=a.1 f;omega
   clear a
   go_wp2_with (go_at_call 205;(with_reducible refine CM b ?_);rintro e w1 ⟨rfl,rfl⟩)
   go_roundw
   case rel=>exact ⟨k+1,O_,by go_num,by first | rfl | trivial⟩
   case measure=>exact bV
  ·obtain rfl:k=hf i:=O_
   have o:¬(p:Int)<=(i:Int):=by have:=a.2 rfl;omega
   clear a
   go_wp2_with (go_at_call 205;(with_reducible refine CM b ?_);rintro e w1 ⟨rfl,rfl⟩)
   go_ret;exact ⟨rfl,rfl⟩
theorem aV_ (h:t.kids[i]?=some k) (hi:1<=i) (he:k.emB=false):gW t=true:=by
 unfold gW eG;rw [List.any_eq_true];refine ⟨k,gL (i:=i - 1) ?_,by rw [he];rfl⟩;rw [List.getElem?_drop,show 1+(i - 1)=i by omega];exact h
theorem cB_ {t:T} (h:∀i k,1<=i->t.kids[i]?=some k->k.emB=true):gW t=false:=by
 unfold gW eG;rw [List.any_eq_false];intro k hk;obtain ⟨i,hi⟩:=List.getElem?_of_mem hk;rw [List.getElem?_drop] at hi;rw [h _ k O_ hi];simp
theorem d9_ (t:T) (cap:Nat) (hm:t.kids.length<=maxLen) (hcap:t.kids.length<=cap) (hk:NK w S A t.kids):C_ 214 #[lF A t.kids.length cap t.val t.marks] w (cG (gW t) w):=by
 unfold maxLen at hm;have s:=H_ ((aP (w) w).alloc (bE _) (.cells #[S_ A t.kids.length cap,I_ t.val,I_ t.marks] 56));have c:=H_ (i_ w (.cells #[S_ A t.kids.length cap,I_ t.val,I_ t.marks] 56));have O:=H_ (fun w' (hb:s_ w w')=>hk.step hb);have K:=H_ (fun i k (h:t.kids[i]?=some k)=>aV_ h);have M:=H_ (cB_ (t:=t));clear hk;generalize t.marks=m at c s ⊢;generalize t.val=v at c s ⊢;generalize gW t=y at K M ⊢;generalize t.kids=l at *;obtain ⟨C,d⟩:=bL w.heap.size;rw [<-d] at c;have u:=H_ d;clear d;go_enter func214,ntmps214
 go_upto_region 0 with fail
 go_cut [1] (fun s1 wx=>s1 = P_ C/\bA wx C #[S_ A l.length cap,I_ v,I_ m] 56/\s_ w wx)
 case first=>
  go_wp2;go_meet
  case rel=>exact ⟨by rw [u.out],c.out,s.out⟩
 case rest=>
  clear c s;obtain ⟨rfl,r,q⟩:=hcut;have c:=H_ r;have n:=H_ q;clear r q;go_wp2
  go_loopw [3] (fun s3 wx=>∃i:Nat,1<=i/\(i<=l.length\/i=1)/\s3 = I_ i/\(∀j k,1<=j->j<i->l[j]?=some k->k.emB=true)/\bA wx C #[S_ A l.length cap,I_ v,I_ m] 56/\s_ w wx) (fun s3 _=>l.length - (intOf s3).toNat)
  case atStart=>exact ⟨1,O_,.inr rfl,rfl,fun j k h1 h2=>by omega,c.out,n.out⟩
  case round=>
   clear c n;obtain ⟨i,E,Q,rfl,g,r,q⟩:=hrel;obtain ⟨c,n,J⟩:=eI r q g;clear r q g;obtain ⟨x0,x1,x2⟩:=cR c.out
   by_cases I:i<l.length
   ·have p:=O _ n;obtain ⟨b,o,k,A',cap',rfl,_,P,N,D,H,F,G⟩:=p.at_ I;obtain ⟨c0,c1,c2⟩:=D;have L:=H_ N;have a:=fun w=>fU A' k.kids.length cap' k.val k.marks w;rw [show rS k.kids.length k.val k.marks=k.emB from rfl] at a;have V:(0:Int)<=(i:Int):=O_
    have U:(i:Int)<(l.length:Int):=O_
    have W:(i:Int)<(cap:Int):=O_
    have X:(i:Int)<=(cap:Int):=O_
    generalize k.kids.length=kn at a c0 H F;generalize k.marks=Y at a c2;generalize k.val=Z at a c1;clear p N G
    cases hek:k.emB with
    | false=>
     have B:=H_ (K i k L E hek);rw [hek] at a;clear hek
     go_wp2_with (go_at_call 217;(with_reducible refine CM (a _) ?_);rintro e w1 ⟨rfl,f⟩)
     go_ret;exact ⟨F_ B.symm,e_ n f⟩
    | true=>
     have z:=H_ hek;rw [hek] at a;clear hek
     go_wp2_with (go_at_call 217;(with_reducible refine CM (a _) ?_);rintro e w1 ⟨rfl,f⟩)
     go_roundw
     case rel=>
      refine ⟨i+1,O_,.inl O_,by go_num,fun j x h1 h2 h3=>?_,h_ c.out f,e_ n.out f⟩
      by_cases R:j=i
      ·subst R;have:=L.out;rw [this] at h3;injection h3 with h3
       rw [<-h3];exact z
      ·exact J.out j x h1 O_ h3
     case measure=>exact bV
   ·have B:=H_ (M fun j k h1 h2=>J j k h1 (by have:=bI h2;omega) h2);have U:¬(i:Int)<(l.length:Int):=O_
    go_wp2;go_ret
    exact ⟨F_ B.symm,n⟩
end
section
structure cf_ where
 r:Array Obj
 d:Nat
instance:Inhabited cf_:=⟨⟨#[],0⟩⟩
def ext (W:World) (z:cf_):World:={W with heap:=W.heap ++ z.r,drawn:=z.d}
theorem mU (W:World) (z:cf_) (b:Nat) (h:b<W):(ext W z).heap[b]?=W.heap[b]?:=by simp [ext,Array.getElem?_append,h]
theorem R_ (W:World):∀z b o,b<W.heap.size->(ext W z).cell? ⟨b,o,none⟩=W.cell? ⟨b,o,none⟩:=by
 intro z b o h;simp [World.cell?,mU W z b h]
theorem xF (h:s_ W w'):∃z,w'=ext W z:=by
 refine ⟨⟨w'.heap.extract (W) (w'),w'.drawn⟩,?_⟩;have e:w'.heap=W.heap ++ w'.heap.extract (W) w'.heap.size:=by
  apply Array.ext_getElem?;intro i
  by_cases a:i<W
  ·rw [h.block i a,Array.getElem?_append,if_pos a]
  ·rw [Array.getElem?_append,if_neg a,Array.getElem?_extract]
   by_cases b:i<w'
   ·rw [if_pos O_,show W.heap.size+(i - W.heap.size)=i from by omega]
   ·rw [if_neg O_,Array.getElem?_eq_none O_]
 unfold ext;rw [<-e,<-h.os,<-h.tape,<-h.output]
theorem p_ (W:World) (z:cf_):s_ W (ext W z):=
 ⟨rfl,rfl,rfl,by simp [ext],fun k hk=>mU W z k hk⟩
theorem E_ {f:FuncId} {z:cf_} {v:Value}
  (h:Calls P f args (ext W z) fun e w'=>e = .returned v/\Below (ext W z).heap.size (ext W z) w') :
  Calls P f args (ext W z) fun e w''=>e = .returned v/\∃z',w''=ext W z':=
 h.mono fun _ _ ⟨he,hb⟩=>⟨he,xF (e_ (p_ W z) hb)⟩
theorem dU_ {f:FuncId} {z:cf_} {v:Value}
  (h:Calls P f args (ext W z) fun e w'=>e = .returned v/\ext W z=w') :
  Calls P f args (ext W z) fun e w''=>e = .returned v/\∃z',w''=ext W z':=
 h.mono fun _ _ ⟨he,hb⟩=>⟨he,z,hb.symm⟩
theorem cy_ (W:World):∃z,{W with drawn:=W.drawn+1}=ext W z:=⟨⟨#[],W.drawn+1⟩,by simp [ext]⟩
theorem w_ {id:Nat} {Q:Exit->Act->World->Prop} {a:Act} {l:List Oper} (hm:P.follows .mixedOrders=true) (hB:Region.lexB .any l.toArray=true)
  (h:wpQuiet P l.toArray (fun w'=>∃z,w'=ext W z) (fun a'=>∀w',(∃z,w'=ext W z)->Q .normal a' w') l a):(Code.region id l.toArray true).wp P Q a W:=
 wp_region_quiet (C:=fun w'=>∃z,w'=ext W z) hm hB (cy_ W) (by simpa using h)
end
section
theorem qH (hI:Int) (t:T) (cap:Nat) (hm:t.kids.length<=maxLen) (hcap:t.kids.length<=cap) (hk:NK w S A t.kids) :
  C_ 181 #[nY hI A t.kids.length cap t.val t.marks] w (cG (dL hI t) w):=by
 have j:=H_ ((aP (w) w).alloc (bE _) (.cells #[I_ hI,S_ A t.kids.length cap,I_ t.val,I_ t.marks] 58))
 by_cases h0:0<=hI
 ·by_cases o:hI<=4
  ·obtain ⟨h,rfl⟩:=mZ h0;have i:=fun w' (hb:s_ w w')=>gt_ h t A cap S w' O_ hcap (hk.step hb);have g:=fun w' (hb:s_ w w')=>d9_ t cap hm hcap (hk.step hb);have d:=H_ (show dL h t=(bR h t&&(decide ((h:Int)=0)||gW t)) by unfold dL;rw [dT (show 0<=(h:Int)/\(h:Int)<=4 by omega),Int.toNat_natCast];rfl)
   cases hrt:bR h t with
   | false=>
    rw [hrt] at d i;clear hrt;go_enter func181,ntmps181
    go_wp2_with (first | (go_at_call 213;(with_reducible refine CM (i _ (B_.alloc (bE _) _)) ?_);rintro e w1 ⟨rfl,a⟩;have c:=H_ (h_ (i_ w _) a);obtain ⟨x0,k,l,m⟩:=iP c.out;have b:=H_ (e_ (a_ (aP (w) w) _) a);clear a) | (go_at_call 214;(with_reducible refine CM (g _ b.out) ?_);rintro e w2 ⟨rfl,f⟩))
    go_ret;exact ⟨F_ (by rw [d.out];rfl),b.out⟩
   | true=>
    rw [hrt] at d i;clear hrt
    rcases h with _ | h
    ·go_enter func181,ntmps181
     go_wp2_with (first | (go_at_call 213;(with_reducible refine CM (i _ (B_.alloc (bE _) _)) ?_);rintro e w1 ⟨rfl,a⟩;have c:=H_ (h_ (i_ w _) a);obtain ⟨x0,k,l,m⟩:=iP c.out;have b:=H_ (e_ (a_ (aP (w) w) _) a);clear a) | (go_at_call 214;(with_reducible refine CM (g _ b.out) ?_);rintro e w2 ⟨rfl,f⟩))
     go_ret;exact ⟨F_ (by rw [d.out];simp),b.out⟩
    ·rw [show ((h+1:Nat):Int)=(h:Int)+1 by omega] at i d ⊢;have p:((h:Int)+1 == 0)=false:=beq_eq_false_iff_ne.2 O_;have n:=H_ (show decide ((h:Int)+1=0)=false from dF O_);go_enter func181,ntmps181
     go_wp2_with (first | (go_at_call 213;(with_reducible refine CM (i _ (B_.alloc (bE _) _)) ?_);rintro e w1 ⟨rfl,a⟩;have c:=H_ (h_ (i_ w _) a);obtain ⟨x0,k,l,m⟩:=iP c.out;have b:=H_ (e_ (a_ (aP (w) w) _) a);clear a) | (go_at_call 214;(with_reducible refine CM (g _ b.out) ?_);rintro e w2 ⟨rfl,f⟩))
     go_ret;exact ⟨F_ (by rw [d.out,n.out];rfl),e_ b.out f⟩
  ·have d:=H_ (show dL hI t=false by unfold dL;rw [dF O_];rfl);go_enter func181,ntmps181;go_wp2;go_ret;exact ⟨F_ d.symm,j⟩
 ·have d:=H_ (show dL hI t=false by unfold dL;rw [dF O_];rfl);go_enter func181,ntmps181;go_wp2;go_ret;exact ⟨F_ d.symm,j⟩
theorem zM {i h:Nat} (hi:i<256) (hh:h<=4):hf i<=h↔i<4 ^ h:=by
 unfold hf
 match h,hh with
 | 0,_=>(repeat' split) <;> omega
 | 1,_=>(repeat' split) <;> omega
 | 2,_=>(repeat' split) <;> omega
 | 3,_=>(repeat' split) <;> omega
 | 4,_=>(repeat' split) <;> omega
 | h+5,hh=>omega
def bas (i h:Nat):Nat:=i / 4 ^ h*4 ^ h
theorem hl_ (i h:Nat):bas i h+i % 4 ^ h=i:=by unfold bas;rw [Nat.mul_comm];exact Nat.div_add_mod i (4 ^ h)
theorem dy_ (i h:Nat):bas i (h+1)+i / 4 ^ h % 4*4 ^ h=bas i h:=by
 unfold bas;rw [Nat.pow_succ,<-Nat.div_div_eq_div_mul];have:=Nat.div_add_mod (i / 4 ^ h) 4;generalize i / 4 ^ h=q at this ⊢;rw [show q / 4*(4 ^ h*4)=q / 4*4*4 ^ h by rw [Nat.mul_assoc,Nat.mul_comm (4 ^ h) 4],<-Nat.add_mul]
 congr 1
 omega
theorem dz_ (i:Nat):bas i 0=i:=by simp [bas]
theorem fF_ (hi:i<4 ^ h):bas i h=0:=by unfold bas;rw [Nat.div_eq_of_lt hi,Nat.zero_mul]
def fF (c:Cn) (i h:Nat):T:=j_ h (sh c (bas i h))
theorem rL (c:Cn) (i:Nat):fF c i 0 = .mk [] (c i).1 (c i).2:=by
 unfold fF;rw [dz_];simp [j_,sh]
theorem e1_ {c:Cn} (he:(fF c i (h+1)).emB=false):(fF c i (h+1)).kids.length=4/\(fF c i (h+1)).kids[i / 4 ^ h % 4]?=some (fF c i h):=by
 unfold fF at he ⊢;rw [cO] at he;rw [bJ,he,if_neg A_];refine ⟨aC _ _,?_⟩
 show (aB h _)[_]?=_
 rw [dR (Nat.mod_lt _ O_),g7_,dy_]
theorem gx_ {c:Cn} (he:(fF c i h).emB=true):c i=(0,0)/\fF c i h = .nil:=by
 unfold fF at he ⊢;have hn:=he;rw [cO] at hn;refine ⟨?_,dP hn⟩;have:=aZ.1 hn (i % 4 ^ h) (Nat.mod_lt _ (Nat.pow_pos O_));simp only[sh] at this;rw [hl_] at this;exact this
theorem uP {c:Cn} (hi:i<4 ^ h):fF c i h=j_ h c:=by unfold fF;rw [fF_ hi,qF]
theorem bY_ {w:World} {b i h:Nat} (hi:i<256) (hb:w.heap[b]?=some (.cells #[I_ ((i / 4 / 4 / 4 % 4:Nat):Int),I_ ((i / 4 / 4 % 4:Nat):Int),I_ ((i / 4 % 4:Nat):Int),I_ ((i % 4:Nat):Int)] 249 (0,0))) (h4:h<4) :
  w.cell? ⟨b,4 - (h+1),none⟩=some (I_ ((i / 4 ^ h % 4:Nat):Int)):=by
 rw [b_ hb]
 match h,h4 with
 | 0,_=>simp
 | 1,_=>simp
 | 2,_=>simp [Nat.div_div_eq_div_mul]
 | 3,_=>simp [Nat.div_div_eq_div_mul]
theorem aH:(prog.info? 56).map (·.size)=some 3:=by kernel_rfl
theorem dE {fn:Func} {p:Tmp} (h:fn.results=#[.cell p 56]) {tmps:Array Value} {t:TypeId} {a b c:Value} {fr:Nat × Nat}
  (hp:tmps.getD p undef = P_ g) (hg:w.heap[g]?=some (.cells #[a,b,c] t fr)):(results fn tmps).run prog w = .ok (.agg #[a,b,c]) w:=
 results_cell_row h tmps w g t _ fr _ hp hg underlying56 rfl aH
theorem d_ {B g:Nat} (hb:Below B w0 w) (hBg:B<=g) (cs:Array Value):Below B w0 (w.setRow g cs):=
 hb.trans ⟨rfl,rfl,rfl,by simp [World.setRow],fun k hk=>setRow_other w g k cs O_⟩
theorem aU {cap:Nat}:(#[Value.slice A n cap,I_ v,I_ m]:Array Value).all (·.oneCell')=true:=by simp [Value.oneCell']
theorem dY_ {c:Cn} (cap:Nat) (i:Nat) (hi:i<256) (ht:aM h c) (hcap:(j_ h c).kids.length<=cap) (hk:NK w S A (j_ h c).kids) :
  C_ 183 #[nY h A (j_ h c).kids.length cap (j_ h c).val (j_ h c).marks,I_ i] w fun e w'=>∃A' cap',e = .returned (lF A' 0 cap' (c i).1 (c i).2)/\s_ w w':=by
 have h4:=ht.1;have hr:=fun w=>b6_ i w hi;have hh:=fun w=>zL i w hi;have a7:=H_ (zM hi h4);have a6:=H_ (fun (I:¬hf i<=h)=>ht.2.1 i (by have:=(zM hi h4).2;omega));have a1:=H_ (fun w b h hb h4=>bY_ (w:=w) (b:=b) (h:=h) hi hb h4);have af:=H_ (fun w' (hb:s_ w w')=>hk.step hb);obtain ⟨n,hn⟩:∃n,(j_ h c).kids.length=n:=⟨_,rfl⟩;obtain ⟨v,hv⟩:∃v,(j_ h c).val=v:=⟨_,rfl⟩;obtain ⟨m,hm⟩:∃m,(j_ h c).marks=m:=⟨_,rfl⟩;rw [hn] at hcap;rw [hn,hv,hm];obtain ⟨Hn,Hv,Hm⟩:=eI hn hv hm;clear hn hv hm hk ht;have HB:=H_ (((aP (w) w).alloc (bE _) (.cells #[I_ h,S_ A n cap,I_ v,I_ m] 58)).alloc A_ (.cells #[S_ none 0 0,I_ 0,I_ 0] 56));have D:=H_ (m_ (i_ w (.cells #[I_ h,S_ A n cap,I_ v,I_ m] 58)) (.cells #[S_ none 0 0,I_ 0,I_ 0] 56));have g:=H_ (l_ (w.alloc (.cells #[I_ h,S_ A n cap,I_ v,I_ m] 58)) (.cells #[S_ none 0 0,I_ 0,I_ 0] 56) (w+1) A_);obtain ⟨s,a2⟩:=bL w.heap.size;rw [<-a2] at D g;have y:=H_ a2;clear a2;unfold pU at hr hh;go_enter func183,ntmps183
 go_upto_region 0 with fail
 go_cut [2,4] (fun s2 s4 wx=>s2 = P_ s/\s4 = P_ (s+1)/\bA wx s #[I_ h,S_ A n cap,I_ v,I_ m] 58/\bA wx (s+1) #[S_ none 0 0,I_ 0,I_ 0] 56/\s_ w wx)
 case first=>
  go_wp2;go_meet
  case rel=>exact ⟨by rw [y.out],by rw [y.out],D.out,g.out,HB.out⟩
 case rest=>
  obtain ⟨rfl,rfl,G,H,F⟩:=hcut;clear D g HB;obtain ⟨D,g,u⟩:=eI G H F;clear G H F
  go_upto_region 1 with fail
  go_cut [5] (fun s5 wx=>∃b5,s5 = P_ b5/\bA wx b5 #[I_ ((i / 4 / 4 / 4 % 4:Nat):Int),I_ ((i / 4 / 4 % 4:Nat):Int),I_ ((i / 4 % 4:Nat):Int),I_ ((i % 4:Nat):Int)] 249/\bA wx s #[I_ h,S_ A n cap,I_ v,I_ m] 58/\bA wx (s+1) #[S_ none 0 0,I_ 0,I_ 0] 56/\s_ w wx)
  case first=>
   go_wp2_with (go_at_call 215;(with_reducible refine CM (hr _) ?_);rintro e w1 ⟨rfl,r⟩)
   go_meet
   case rel=>exact ⟨_,rfl,heap_alloc_new _ _,m_ (h_ D r) _,m_ (h_ g r) _,a_ (e_ u r) _⟩
  case rest=>
   clear D g u hr;obtain ⟨b5,rfl,C,G,H,F⟩:=hcut;obtain ⟨W,ag⟩:=bL wc;subst ag;obtain ⟨D,g,u,Q⟩:=rW G H F C;have lX:=n_ G;have lP:=n_ C;have x0:=b_ G 0;have p0:=b_ C 0;have p1:=b_ C 1;have p2:=b_ C 2;have p3:=b_ C 3;simp only[zl] at x0 p0 p1 p2 p3;have xe:=R_ W;clear G H F C
   go_upto_region 2 with fail
   go_cut [14] (fun s14 wx=>s14 = .bool (decide (h<hf i))/\∃z,wx=ext W z)
   case first=>
    refine w_ q_ q_ ?_
    (refine wpQuiet_step (fun K q=>?_);go_simp;(with_reducible refine q _ ?_);clear q K)
    (refine wpQuiet_step (fun K q=>?_);go_simp;apply Exists.intro;refine ⟨fun _=>?_,q _ ?_⟩;(exact E_ (hh _));clear q K)
    (refine wpQuiet_step (fun K q=>?_);go_simp;(with_reducible refine q _ ?_);clear q K)
    (refine wpQuiet_step (fun K q=>?_);go_simp;(with_reducible refine q _ ?_);clear q K)
    (refine wpQuiet_step (fun K q=>?_);go_simp;(with_reducible refine q _ ?_);clear q K)
    refine wpQuiet_nil ?_;rintro w' ⟨z,rfl⟩;go_wp2;go_meet
    case rel=>exact ⟨rfl,z,rfl⟩
   case rest=>
    obtain ⟨rfl,z,rfl⟩:=hcut;have a5:=p_ W z;obtain ⟨N,l,t,f⟩:=dU D g Q u a5;clear D g Q u x0 p0 p1 p2 p3 lX lP xe;generalize ext W z=U at a5 N l t f ⊢;clear a5 hh;obtain ⟨x0,X,Y,x3⟩:=iP N.out
    by_cases I:hf i<=h
    ·have hd:decide (h<hf i)=false:=dF O_;have J:=H_ (a7.out.1 I);clear I;rw [hd]
     go_upto_region 4 with fail
     go_cut [6] (fun s6 wx=>∃b6,s6 = P_ b6/\s+1<b6/\b5<b6/\bA wx b6 #[S_ A n cap,I_ v,I_ m] 56/\bA wx b5 #[I_ ((i / 4 / 4 / 4 % 4:Nat):Int),I_ ((i / 4 / 4 % 4:Nat):Int),I_ ((i / 4 % 4:Nat):Int),I_ ((i % 4:Nat):Int)] 249/\bA wx s #[I_ h,S_ A n cap,I_ v,I_ m] 58/\bA wx (s+1) #[S_ none 0 0,I_ 0,I_ 0] 56/\s_ w wx)
     case first=>
      have lY:=n_ l;have lP:=n_ t;go_wp2;go_meet
      case rel=>exact ⟨_,rfl,lY,lP,heap_alloc_new _ _,m_ t _,m_ N _,m_ l _,a_ f _⟩
     case rest=>
      clear N l t f x0 X Y x3 hd;obtain ⟨b6,rfl,l6,l5,hN,C,G,H,F⟩:=hcut;obtain ⟨x0,X,Y,x3⟩:=iP G;obtain ⟨B,D,g,Q,u⟩:=h5_ hN G H C F;clear hN C G H F;go_wp2;clear x0 X Y x3
      go_loopw [7] (fun s7 wx=>∃(k:Nat) (A':Option Addr) (cap':Nat),k<=h/\s7 = I_ k/\bA wx b6 #[S_ A' (fF c i k).kids.length cap',I_ (fF c i k).val,I_ (fF c i k).marks] 56/\(fF c i k).kids.length<=cap'/\NK w S A' (fF c i k).kids/\bA wx b5 #[I_ ((i / 4 / 4 / 4 % 4:Nat):Int),I_ ((i / 4 / 4 % 4:Nat):Int),I_ ((i / 4 % 4:Nat):Int),I_ ((i % 4:Nat):Int)] 249/\bA wx (s+1) #[S_ none 0 0,I_ 0,I_ 0] 56/\s_ w wx) (fun s7 _=>(intOf s7).toNat)
      case atStart=>exact ⟨h,A,cap,bE _,rfl,by rw [uP J.out,Hn.out,Hv.out,Hm.out];exact B.out,by rw [uP J.out,Hn.out];exact hcap,by rw [uP J.out];exact af _ B_,Q,g,u⟩
      case round=>
       clear B D g Q u a6 a7 Hn Hv Hm hcap J;obtain ⟨k,A',cap',ai,rfl,hN,hcap,O,C,H,F⟩:=hrel;have a:=fun w=>fU A' (fF c i k).kids.length cap' (fF c i k).val (fF c i k).marks w;rw [show rS (fF c i k).kids.length (fF c i k).val (fF c i k).marks=(fF c i k).emB from rfl] at a;obtain ⟨B,g,Q,u⟩:=rW hN H C F;clear hN C H F;have lW:=u.size
       rcases k with _ | k
       ·have e1:(fF c i 0).kids.length=0:=by rw [rL];rfl
        have e2:(fF c i 0).val=(c i).1:=by rw [rL];rfl
        have e3:(fF c i 0).marks=(c i).2:=by rw [rL];rfl
        rw [e1,e2,e3] at B;clear e1 e2 e3 a O hcap;obtain ⟨x0,X,Y⟩:=cR B.out
        go_wp2_with (refine cZ rfl 56 (.tmp 4) (.tmp 37) rfl rfl (s+1) #[S_ A' 0 cap',I_ (c i).1,I_ (c i).2] rfl rfl 56 _ (g) aH rfl (aU) ?_)
        show bodyPost prog f183 _ _ _ _
        refine bodyPost_ret (dE rfl rfl (setRow_heap _ _ _ _ _ _ g)) rfl ⟨A',cap',rfl,?_⟩;exact d_ u.out (by rw [y.out];omega) _
       ·have hz:((k:Int)+1 == 0)=false:=beq_eq_false_iff_ne.2 O_;have aj:(0:Int)<(k:Int)+1:=O_
        cases hem:(fF c i (k+1)).emB with
        | true=>
         have ⟨hc,hnil⟩:=gx_ hem;rw [hem] at a;rw [hnil] at B a;have HC:=H_ hc;clear hnil hcap O hc hem;have e1:T.nil.kids.length=0:=rfl;have e2:T.nil.val=0:=rfl;have e3:T.nil.marks=0:=rfl;rw [e1,e2,e3] at B a;clear e1 e2 e3;obtain ⟨x0,X,Y⟩:=cR B.out
         go_wp2_with (first
          | (go_at_call 217;(with_reducible refine CM (a _) ?_);rintro e w1 ⟨rfl,r⟩;obtain ⟨L,E,M⟩:=bC B g u r;obtain ⟨z0,z1,z2⟩:=cR L.out)
          | (refine cZ rfl 56 (.tmp 4) (.tmp 37) rfl rfl (s+1) #[S_ A' 0 cap',I_ 0,I_ 0] rfl rfl 56 _ (E) aH rfl (aU) ?_))
         show bodyPost prog f183 _ _ _ _
         refine bodyPost_ret (dE rfl rfl (setRow_heap _ _ _ _ _ _ E.out)) rfl ⟨A',cap',by rw [HC.out],?_⟩;exact d_ M.out (by rw [y.out];omega) _
        | false=>
         have ⟨hl4,hkid⟩:=e1_ hem;rw [hem] at a;rw [hl4] at B a hcap;have ac:i / 4 ^ k % 4<4:=Nat.mod_lt _ O_;obtain ⟨b,o,kk,A2,R,rfl,_,a4,P,ab,ah,ad,V⟩:=O.at_ (show i / 4 ^ k % 4<_ by rw [hl4];exact ac);rw [hkid] at P;injection P with P
         subst P;have a8:=H_ ab;have a9:=H_ V;have a0:=H_ (fun w' hb=>a1.out w' b5 k hb O_);have q1:i64.wrap (4 - ((k:Int)+1))=((4 - (k+1):Nat):Int):=by rw [gJ O_];omega
         have q2:((4 - (k+1):Nat):Int)<4:=O_
         have q3:(0:Int)<=((4 - (k+1):Nat):Int):=O_
         have q4:=gJ (x:=(k:Int)) O_;have ae:=H_ ad;clear hkid hem O ab V ah ad hl4;generalize 4 - (k+1)=j at a0 q1 q2 q3;obtain ⟨d,hd⟩:∃d,i / 4 ^ k % 4=d:=⟨_,rfl⟩;rw [hd] at a0 ac a8;have d1:(d:Int)<4:=O_
         have d2:(d:Int)<(cap':Int):=O_
         have d3:(0:Int)<=(d:Int):=O_
         clear hd;obtain ⟨x0,X,Y⟩:=cR B.out
         go_upto_region 8 with (go_at_call 217;(with_reducible refine CM (a _) ?_);rintro e w1 ⟨rfl,r⟩;obtain ⟨L,E,aa,M⟩:=dU B g Q u r)
         clear B g Q u x0 X Y r a;refine wp_region_still_tail 8 q_ q_ ?_;simp only[vG]
         change wpStill _ _ (World.drew _) (fun a'=>wpList _ _ _ _ a' (World.drew _)) _ _
         generalize hG:World.drew _=W2;have a3:=(aP (w1) w1).drew;rw [hG] at a3;obtain ⟨Z,l,t,f⟩:=dU L E aa M a3;clear L E aa M hG a3;obtain ⟨x0,X,Y⟩:=cR Z.out;have pa:=a0 W2 t;obtain ⟨c0,c1,c2⟩:=a8.out;have c0:=(f.cell (p:=⟨b,_,none⟩) a4).trans c0;have c1:=(f.cell (p:=⟨b,_,none⟩) a4).trans c1;have c2:=(f.cell (p:=⟨b,_,none⟩) a4).trans c2
         iterate 8 (refine wpStill_step (fun K q=>?_);go_simp;(with_reducible refine q _ ?_);clear q K)
         refine wpStill_nil ?_
         go_wp2_with (refine cZ rfl 56 (.tmp 6) (.tmp 36) rfl rfl (b6) #[S_ A2 (fF c i k).kids.length R,I_ (fF c i k).val,I_ (fF c i k).marks] rfl rfl 56 _ (Z) aH rfl (aU) ?_)
         go_roundw
         case rel=>exact ⟨k,A2,R,O_,by go_num,setRow_heap _ _ _ _ _ _ Z.out,ae.out,a9.out,(setRow_other _ _ _ _ O_).trans t.out,(setRow_other _ _ _ _ O_).trans l.out,d_ f.out (by have:=y.out;omega) _⟩
         case measure=>simp [intOf]
    ·have hd:decide (h<hf i)=true:=dT O_;have HC:=H_ (a6 I);clear I;rw [hd]
     go_wp2_with (refine cZ rfl 56 (.tmp 4) (.tmp 15) rfl rfl (s+1) #[S_ none 0 0,I_ 0,I_ 0] rfl rfl 56 _ (l) aH rfl (aU) ?_)
     show bodyPost prog f183 _ _ _ _
     refine bodyPost_ret (dE rfl rfl (setRow_heap _ _ _ _ _ _ l.out)) rfl ⟨none,0,by rw [HC.out],?_⟩;exact d_ f.out (by rw [y.out];omega) _
end
section
def uZ (A:Option Addr) (cap:Nat) (ks:List T):Value:=if eG ks then lF A 4 cap 0 (kR ks) else lF none 0 0 0 0
theorem uA (cap:Nat) (S:Nat->Prop) (h4:ks.length=4) (hcap:4<=cap) (hk:NK w S A ks) :
  C_ 224 #[S_ A 4 cap] w (iK_ (uZ A cap ks) w):=by
 have P:=H_ (fun w' (hb:s_ w w')=>hk.step hb);have Q:=H_ h4;have R:=H_ (show ks.take 4=ks by rw [<-h4];exact List.take_length);have N:=H_ (((aP (w) w).alloc (bE _) (.cells #[S_ none 0 0,I_ 0,I_ 0] 56)).alloc A_ (.cells #[S_ A 4 cap,I_ 0,I_ 0] 56));have I:=H_ (m_ (i_ w (.cells #[S_ none 0 0,I_ 0,I_ 0] 56)) (.cells #[S_ A 4 cap,I_ 0,I_ 0] 56));have G:=H_ (l_ (w.alloc (.cells #[S_ none 0 0,I_ 0,I_ 0] 56)) (.cells #[S_ A 4 cap,I_ 0,I_ 0] 56) (w+1) A_);obtain ⟨m,r⟩:=bL w.heap.size;obtain ⟨t,s⟩:=bL (m+1);rw [<-r] at I G;rw [<-s] at G;have a:=H_ r;have n:=H_ s;clear r s hk h4;go_enter func224,ntmps224
 go_upto_region 1 with fail
 go_cut [2,3] (fun s2 s3 wx=>s2 = P_ m/\s3 = P_ t/\bA wx t #[S_ A 4 cap,I_ 0,I_ 0] 56/\bA wx m #[S_ none 0 0,I_ 0,I_ 0] 56/\s_ w wx)
 case first=>
  go_wp2;go_meet
  case rel=>exact ⟨by rw [a.out],by rw [n.out,a.out],G.out,I.out,N.out⟩
 case rest=>
  clear I G N;obtain ⟨rfl,rfl,z,C,D⟩:=hcut;obtain ⟨d,g,l⟩:=eI z C D;clear z C D;go_wp2
  go_loopw [4,11] (fun s4 s11 wx=>∃i:Nat,i<=4/\s11 = I_ i/\s4 = .bool (eG (ks.take i))/\bA wx t #[S_ A 4 cap,I_ 0,I_ (kR (ks.take i))] 56/\bA wx m #[S_ none 0 0,I_ 0,I_ 0] 56/\s_ w wx) (fun _ s11 _=>4 - (intOf s11).toNat)
  case atStart=>exact ⟨0,O_,rfl,rfl,d.out,g.out,l.out⟩
  case round=>
   clear d g l;obtain ⟨i,V,rfl,rfl,z,C,D⟩:=hrel;obtain ⟨d,g,l⟩:=eI z C D;clear z C D
   by_cases M:i<4
   ·have B:=P _ l;obtain ⟨b,o,k,A',cap',rfl,_,U,K,J,F,E,L⟩:=B.at_ (show i<ks.length by rw [Q.out];exact M);obtain ⟨c0,c1,c2⟩:=J;have f:=H_ (pS K);have j:=H_ (oV K);have c:=fun w=>fU A' k.kids.length cap' k.val k.marks w;rw [show rS k.kids.length k.val k.marks=k.emB from rfl] at c;have i0:(0:Int)<=(i:Int):=O_
    have i1:(i:Int)<4:=O_
    have i2:(i:Int)<(cap:Int):=O_
    have i3:(i:Int)<=(cap:Int):=O_
    generalize k.kids.length=kn at c c0 F E;generalize k.marks=km at c c2 f;generalize k.val=kv at c c1;clear B K L F E;generalize kR (ks.take i)=om at d f;obtain ⟨x0,X,Y⟩:=cR d.out;have Z:=t_ d 2;have l3:=n_ d;have l2:=n_ g;have O:¬t=wr.heap.size:=O_
    have W:=l.size;have u:=H_ (fun o v=>m_ (W_ (i:=2) d v) o);have x:=H_ (fun o v=>m_ (aQ g.out ⟨t,2,none⟩ v (by simp only;have:=n.out;omega)) o);have y:=H_ (fun o v=>a_ (l.setCell (p:=⟨t,2,none⟩) (by simp only;have:=n.out;have:=a.out;omega) v) o)
    cases hsm:eG (ks.take i) with
    | true=>
     rw [hsm] at j;clear hsm;go_wp2;go_roundw
     case rel=>exact ⟨i+1,O_,by go_num,by rw [j.out];rfl,by rw [f.out];exact u _ _,x _ _,y _ _⟩
     case measure=>exact bV
    | false=>
     rw [hsm] at j;clear hsm
     go_wp2_with (go_at_call 217;(with_reducible refine CM (c _) ?_);rintro e w1 ⟨rfl,q⟩)
     go_roundw
     case rel=>exact ⟨i+1,O_,by go_num,by rw [j.out];rfl,by rw [f.out];exact h_ (u _ _) q,h_ (x _ _) q,e_ (y _ _) q⟩
     case measure=>exact bV
   ·obtain rfl:i=4:=O_
    rw [R.out] at d ⊢;obtain ⟨x0,X,Y⟩:=cR d.out
    cases hs:eG ks with
    | true=>
     have H:=H_ (show uZ A cap ks=lF A 4 cap 0 (kR ks) by unfold uZ;rw [hs];rfl);clear hs
     go_wp2_with (refine cZ rfl 56 (.tmp 2) (.tmp 31) rfl rfl (m) #[S_ A 4 cap,I_ 0,I_ (kR ks)] rfl rfl 56 _ (g) aH rfl (aU) ?_)
     show bodyPost prog f224 _ _ _ _
     refine bodyPost_ret (dE rfl rfl (setRow_heap _ _ _ _ _ _ g.out)) rfl ⟨by rw [H.out],?_⟩;exact d_ l.out (by rw [a.out];omega) _
    | false=>
     have H:=H_ (show uZ A cap ks=lF none 0 0 0 0 by unfold uZ;rw [hs];rfl);clear hs
     go_wp2_with (refine cZ rfl 56 (.tmp 2) (.tmp 30) rfl rfl (m) #[S_ none 0 0,I_ 0,I_ 0] rfl rfl 56 _ (g) aH rfl (aU) ?_)
     show bodyPost prog f224 _ _ _ _
     refine bodyPost_ret (dE rfl rfl (setRow_heap _ _ _ _ _ _ g.out)) rfl ⟨by rw [H.out],?_⟩;exact d_ l.out (by rw [a.out];omega) _
end
section
structure St (W:World) (l:List (Nat × Obj)) (w:World):Prop where
 bk:∀g o,(g,o) ∈ l->w.heap[g]?=some o
 below:s_ W w
theorem St.step (h:St W l w) (hb:s_ w w'):St W l w':=⟨fun g o hm=>h_ (h.bk g o hm) hb,e_ h.below hb⟩
theorem St.alloc (h:St W l w) (o:Obj):St W l (w.alloc o):=h.step (B_.alloc (bE _) _)
theorem St.push (h:St W l w) (o:Obj) (n:Nat) (hn:w.heap.size=n):St W (l ++ [(n,o)]) (w.alloc o):=⟨fun g o' hm=>by
 rcases List.mem_append.1 hm with hm | hm
 ·exact m_ (h.bk g o' hm) _
 ·simp only[mS_,Prod.mk.injEq] at hm;obtain ⟨rfl,rfl⟩:=hm;exact l_ _ _ _ hn,a_ h.below _⟩
theorem St.nil (w:World):St w [] w:=⟨fun g o hm=>by simp at hm,aP _ _⟩
theorem v_ (g:Nat):∀(vs:List Value) (o:Nat) (w:World) (k:Nat),k≠g->(w.setCells g o vs).heap[k]?=w.heap[k]?
 | [],_,_,_,_=>rfl
 | v :: vs,o,w,k,hk=>by
  rw [World.setCells,v_ g vs (o+1) _ k hk];exact iH w ⟨g,o,none⟩ v k hk
theorem fD (g:Nat):∀(vs:List Value) (o:Nat) (w:World),(w.setCells g o vs).os=w.os/\(w.setCells g o vs).tape=w.tape/\(w.setCells g o vs).output=w.output/\(w.setCells g o vs).heap.size=w.heap.size
 | [],_,_=>⟨rfl,rfl,rfl,rfl⟩
 | v :: vs,o,w=>by
  rw [World.setCells];obtain ⟨h1,h2,h3,h4⟩:=fD g vs (o+1) (w.setCell ⟨g,o,none⟩ v);exact ⟨h1.trans rfl,h2.trans rfl,h3.trans rfl,h4.trans (by simp [World.setCell])⟩
theorem aY {B:Nat} (hb:Below B w0 w) (hBg:B<=g) (o:Nat) (vs:List Value):Below B w0 (w.setCells g o vs):=by
 obtain ⟨h1,h2,h3,h4⟩:=fD g vs o w;exact hb.trans ⟨h1,h2,h3,O_,fun k hk=>v_ g vs o w k O_⟩
def KR (w:World) (g:Nat) (S:Nat->Prop) (f:Nat->T):Prop:=
 w.there g 0 12/\g<w/\∀i,i<4->∃A cap,NC w g (i*3) A (f i).kids.length cap (f i).val (f i).marks/\(f i).kids.length<=maxLen/\(f i).kids.length<=cap/\NK w S A (f i).kids
theorem KR.step (h:KR w g S f) (hb:s_ w w'):KR w' g S f:=by
 obtain ⟨h1,h2,h3⟩:=h;refine ⟨fun j d=>?_,gX h2 hb.size,fun i c=>?_⟩
 ·have:=h1 j d;exact ⟨by rw [hb.cell (p:=⟨g,_,none⟩) h2];exact this.1,by rw [hb.frozen (p:=⟨g,_,none⟩) h2];exact this.2⟩
 ·obtain ⟨A,cap,c1,c2,a,b⟩:=h3 i c;exact ⟨A,cap,c1.block (hb.block g h2),c2,a,b.step hb⟩
theorem KR.congr {f f':Nat->T} (h:KR w g S f) (hf:∀i,i<4->f i=f' i):KR w g S f':=
 ⟨h.1,h.2.1,fun i hi=>by rw [<-hf i hi];exact h.2.2 i hi⟩
theorem KR.set (h:KR w g S f) (hS:¬S g) (hj:j<4) (A:Option Addr) (cap:Nat) (t:T) (h1:t.kids.length<=maxLen) (h2:t.kids.length<=cap) (hk:NK w S A t.kids) :
  KR (w.setCells g (j*3) [S_ A t.kids.length cap,I_ t.val,I_ t.marks]) g S (fun i=>if i=j then t else f i):=by
 obtain ⟨a1,a2,a3⟩:=h;have p:=(fD g [S_ A t.kids.length cap,I_ t.val,I_ t.marks] (j*3) w).2.2.2;have d:∀{A':Option Addr} {ks:List T},NK w S A' ks->NK (w.setCells g (j*3) [S_ A t.kids.length cap,I_ t.val,I_ t.marks]) S A' ks:=fun hk=>hk.kept O_ fun b n _=>v_ g _ _ w b (fun e=>hS (e ▸ n));refine ⟨World.there_setCells a1 _ _ _,O_,fun i o=>?_⟩
 by_cases c:i=j
 ·subst c;simp only[if_true];have a:=World.rangeAt_setCells_same w g (i*3) [S_ A t.kids.length cap,I_ t.val,I_ t.marks] (fun k hk=>by
   have:=a1 (i*3+k) (by simp at hk;omega);rw [Nat.zero_add] at this;exact this)
  exact ⟨A,cap,⟨a 0 _ rfl,a 1 _ rfl,a 2 _ rfl⟩,h1,h2,d hk⟩
 ·simp only[c,if_false];obtain ⟨A',cap',⟨n0,n1,n2⟩,c2,l,m⟩:=a3 i o;have a:=World.rangeAt_setCells_apart (w:=w) (b':=g) (o':=i*3) (cs:=[S_ A' (f i).kids.length cap',I_ (f i).val,I_ (f i).marks]) (fun k v hv=>by
   match k with
   | 0=>simp at hv;rw [<-hv];exact n0
   | 1=>simp at hv;rw [<-hv];exact n1
   | 2=>simp at hv;rw [<-hv];exact n2
   | k+3=>simp at hv) g (j*3) [S_ A t.kids.length cap,I_ t.val,I_ t.marks] (by simp;omega)
  exact ⟨A',cap',⟨a 0 _ rfl,a 1 _ rfl,a 2 _ rfl⟩,c2,l,d m⟩
theorem KR.nk {S S':Nat->Prop} (h:KR w g S f) (hg:S' g) (hS:∀b,S b->S' b):NK w S' (some ⟨g,0,none⟩) ((List.range 4).map f):=by
 obtain ⟨a1,a2,a3⟩:=h;have d:∀i:Nat,∃x:Option Addr × Nat,i<4->(NC w g (i*3) x.1 (f i).kids.length x.2 (f i).val (f i).marks/\(f i).kids.length<=maxLen/\(f i).kids.length<=x.2/\NK w S x.1 (f i).kids):=fun i=>by
  by_cases a:i<4
  ·obtain ⟨A,cap,h⟩:=a3 i a;exact ⟨(A,cap),fun _=>h⟩
  ·exact ⟨(none,0),fun h=>absurd h a⟩
 have c:∀i k,((List.range 4).map f)[i]?=some k->i<4/\k=f i:=fun i k a=>by
  have hl:=bI a;rw [mL_,List.length_range] at hl;rw [gP_,List.getElem?_range hl] at a;exact ⟨hl,by simpa using a.symm⟩
 refine .mk g 0 _ (fun i=>(Classical.choose (d i)).1) (fun i=>(Classical.choose (d i)).2) hg a2 (fun i k a=>?_) (fun i k a=>?_) (fun i k a=>?_)
 all_goals
  obtain ⟨hl,rfl⟩:=c i k a;obtain ⟨l,m,n,o⟩:=Classical.choose_spec (d i) hl
 ·rw [Nat.zero_add];exact l
 ·exact ⟨m,n⟩
 ·exact o.weak fun b _ j=>hS b j
theorem KR.new (h:w.heap[g]?=some (.cells #[S_ none 0 0,I_ 0,I_ 0,S_ none 0 0,I_ 0,I_ 0,S_ none 0 0,I_ 0,I_ 0,S_ none 0 0,I_ 0,I_ 0] 56 (0,0))):KR w g S (fun _=> .nil):=by
 refine ⟨fun j b=>?_,n_ h,fun i a=>⟨none,0,⟨?_,?_,?_⟩,Nat.zero_le _,Nat.zero_le _,.nil _⟩⟩
 ·rw [Nat.zero_add,b_ h,t_ h];exact ⟨by rw [List.getElem?_toArray,cY (by simpa using b)];rfl,rfl⟩
 all_goals
  rw [b_ h]
  match i,a with
  | 0,_=>rfl
  | 1,_=>rfl
  | 2,_=>rfl
  | 3,_=>rfl
  | i+4,a=>omega
theorem KR.at_ (h:KR w g S f) {i:Nat} (hi:i<4):∃A cap,w.cell? ⟨g,i*3,none⟩=some (S_ A (f i).kids.length cap)/\w.cell? ⟨g,i*3+1,none⟩=some (I_ (f i).val)/\w.cell? ⟨g,i*3+2,none⟩=some (I_ (f i).marks)/\(f i).kids.length<=maxLen/\(f i).kids.length<=cap/\NK w S A (f i).kids:=by
 obtain ⟨A,cap,⟨c0,c1,c2⟩,h1,h2,h3⟩:=h.2.2 i hi;exact ⟨A,cap,c0,c1,c2,h1,h2,h3⟩
theorem KR.there (h:KR w g S f) {i:Nat} (hi:i<4):w.there g (i*3) 3:=fun j hj=>by
 have:=h.1 (i*3+j) O_;rw [Nat.zero_add] at this;exact this
theorem bv_ (h:Nat) (c:Cn):(j_ h c).kids.length<=4:=by
 cases h with
 | zero=>simp [j_,T.kids]
 | succ h=>rw [bJ];split <;> simp [T.nil,T.kids,aC]
theorem eT (h:Nat) (c:Cn):(j_ h c).kids.length<=maxLen:=eF (bv_ h c) (by unfold maxLen;omega)
def yP (t:T) (S:Nat->Prop) (w:World) (e:Ending) (w':World):Prop:=∃A cap,e = .returned (lF A t.kids.length cap t.val t.marks)/\t.kids.length<=cap/\NK w' S A t.kids/\s_ w w'
def upd (c:Cn) (i:Nat) (x:Int × Int):Cn:=fun j=>if j=i then x else c j
inductive NL (w:World) (S:Nat->Prop):List T->List Value->Prop
 | nil:NL w S [] []
 | cons (k:T) (ks:List T) (A:Option Addr) (cap:Nat) (xs:List Value) (h1:k.kids.length<=maxLen) (h2:k.kids.length<=cap) (hk:NK w S A k.kids) (h:NL w S ks xs):NL w S (k :: ks) (S_ A k.kids.length cap :: I_ k.val :: I_ k.marks :: xs)
theorem NL.kept {w w':World} {S':Nat->Prop} (h:NL w S ks xs) (hs:w.heap.size<=w'.heap.size) (hb:∀b,S b->b<w.heap.size->w'.heap[b]?=w.heap[b]?) (hS:∀b,b<w.heap.size->S b->S' b):NL w' S' ks xs:=by
 induction h with
 | nil=>exact .nil
 | cons k ks A cap xs h1 h2 hk h ih=>exact .cons k ks A cap xs h1 h2 ((hk.weak (S':=fun b=>S' b/\S b) fun b h1 h2=>⟨hS b h1 h2,h2⟩).kept hs (fun b h1 h2=>hb b h1.2 h2) |>.weak fun b _ h=>h.1) ih
theorem NL.step (h:NL w S ks xs) (hb:s_ w w'):NL w' S ks xs:=h.kept hb.size (fun b _ hlt=>hb.block b hlt) fun _ _ h=>h
theorem NL.snoc (h:NL w S ks xs) (k:T) (A:Option Addr) (cap:Nat) (h1:k.kids.length<=maxLen) (h2:k.kids.length<=cap) (hk:NK w S A k.kids):NL w S (ks ++ [k]) (xs ++ [S_ A k.kids.length cap,I_ k.val,I_ k.marks]):=by
 induction h with
 | nil=>exact .cons k [] A cap [] h1 h2 hk .nil
 | cons k' ks A' cap' xs h1' h2' hk' h ih=>exact .cons k' _ A' cap' _ h1' h2' hk' ih
theorem NL.len (h:NL w S ks xs):xs.length=ks.length*3:=by
 induction h with
 | nil=>rfl
 | cons k ks A cap xs h1 h2 hk h ih=>simp [ih];omega
theorem NL.one (h:NL w S ks xs):∀u ∈ xs,u.oneCell'=true:=by
 induction h with
 | nil=>intro u hu;simp at hu
 | cons k ks A cap xs h1 h2 hk h ih=>
  intro u hu;simp only[qL] at hu
  rcases hu with rfl | rfl | rfl | hu
  ·rfl
  ·rfl
  ·rfl
  ·exact ih u hu
theorem NL.get (h:NL w S ks xs):∀{i:Nat} {k:T},ks[i]?=some k->∃A cap,xs[i*3]?=some (S_ A k.kids.length cap)/\xs[i*3+1]?=some (I_ k.val)/\xs[i*3+2]?=some (I_ k.marks)/\k.kids.length<=maxLen/\k.kids.length<=cap/\NK w S A k.kids:=by
 induction h with
 | nil=>intro i k a;simp at a
 | cons k' ks A cap xs h1 h2 hk h ih=>
  intro i k a
  cases i with
  | zero=>
   simp at a;subst a;exact ⟨A,cap,A_,A_,A_,h1,h2,hk⟩
  | succ i=>
   obtain ⟨A',cap',b,c,d,r⟩:=ih (i:=i) (k:=k) (by simpa using a);rw [show (i+1)*3=i*3+3 from by omega,show i*3+3+1=i*3+1+3 from by omega,show i*3+3+2=i*3+2+3 from by omega];exact ⟨A',cap',by simpa using b,by simpa using c,by simpa using d,r⟩
def NO (w:World) (base:Nat) (S:Nat->Prop) (u:Value) (ks:List T) (xs:List Value):Prop:=w.ownsRow base 56 3 u ks.length xs/\NL w (fun b=>S b/\u.ownBlock≠some b) ks xs
theorem NO.step (h:NO w base S u ks xs) (hb:s_ w w'):NO w' base S u ks xs:=⟨dG h.1 hb,h.2.step hb⟩
theorem NO.nil (w:World) (base:Nat) (S:Nat->Prop):NO w base S (S_ none 0 0) [] []:=⟨World.ownsRow_nil _ _ _ _,.nil⟩
theorem NO.alloc (h:NO w base S u ks xs) (o:Obj):NO (w.alloc o) base S u ks xs:=h.step (B_.alloc (bE _) _)
theorem NO.set (h:NO w base S u ks xs) (p:Addr) (v:Value) (h1:¬S p.block) (h2:p.block<base):NO (w.setCell p v) base S u ks xs:=
 ⟨ownsRow_setCell_other h.1 (fun e=>by have:=(h.1.lt _ e).1;omega) v,h.2.kept (by simp [World.setCell]) (fun b hb _=>iH w p v b (fun e=>h1 (e ▸ hb.1))) fun _ _ h=>h⟩
theorem NO.snoc (h:NO w base S u ks xs) {cap':Nat} (k:T) (A:Option Addr) (cap:Nat) (h1:k.kids.length<=maxLen) (h2:k.kids.length<=cap)
  (hk:NK w (fun b=>S b/\u.ownBlock≠some b) A k.kids) (hown:w'.ownsRow base 56 3 (S_ (some ⟨g,0,none⟩) n cap') (ks.length+1) (xs ++ [S_ A k.kids.length cap,I_ k.val,I_ k.marks]))
  (hg:w.grownBy w' u.ownBlock) (hat:u.ownBlock=some g\/g=w.heap.size):NO w' base S (S_ (some ⟨g,0,none⟩) n cap') (ks ++ [k]) (xs ++ [S_ A k.kids.length cap,I_ k.val,I_ k.marks]):=by
 refine ⟨by rw [aL_];exact hown,(h.2.snoc k A cap h1 h2 hk).kept hg.size (fun b c a=>hg.block b a fun e=>c.2 e.symm) fun b a c=>⟨c.1,fun e=>?_⟩⟩;simp only[Value.ownBlock,Option.some.injEq] at e;subst e
 rcases hat with hat | hat
 ·exact c.2 hat
 ·omega
theorem NO.nk {S S':Nat->Prop} (h:NO w base S u ks xs) (hS:∀b,S b->S' b) (hS':∀b,base<=b->S' b):∃A cap,u = S_ A ks.length cap/\ks.length<=cap/\NK w S' A ks:=by
 obtain ⟨c,a⟩:=h;have l:=a.len
 rcases c.2 with ⟨h1,h2⟩ | ⟨g,cap,cur,h1,h2,h3,h4,h5,h6,h7⟩
 ·refine ⟨none,0,by rw [h1,h2],O_,?_⟩;rw [List.length_eq_zero_iff.1 h2];exact .nil _
 ·refine ⟨_,cap,h1,h4,?_⟩;have d:∀i:Nat,∃x:Option Addr × Nat,∀k:T,ks[i]?=some k->(xs[i*3]?=some (S_ x.1 k.kids.length x.2)/\xs[i*3+1]?=some (I_ k.val)/\xs[i*3+2]?=some (I_ k.marks)/\k.kids.length<=maxLen/\k.kids.length<=x.2/\NK w (fun b=>S b/\u.ownBlock≠some b) x.1 k.kids):=fun i=>by
   cases hk:ks[i]? with
   | none=>exact ⟨(none,0),fun k h=>by cases h⟩
   | some k=>
    obtain ⟨A,cap,e⟩:=a.get hk;exact ⟨(A,cap),fun y h=>by injection h with h;subst h;exact e⟩
  have f:∀j,j<xs.length->w.cell? ⟨g,j,none⟩=xs[j]?:=fun j v=>by
   rw [<-h7,List.getElem?_take,if_pos O_];simp [World.cell?,h3]
  refine .mk g 0 ks (fun i=>(Classical.choose (d i)).1) (fun i=>(Classical.choose (d i)).2) (hS' g h2) (n_ h3) (fun (i:Nat) (k:T) hi=>?_) (fun (i:Nat) (k:T) hi=>?_) (fun (i:Nat) (k:T) hi=>?_)
  all_goals
   have t:i<ks.length:=bI hi;obtain ⟨m,n,o,p,q,r⟩:=Classical.choose_spec (d i) k hi
  ·rw [Nat.zero_add];exact ⟨(f _ O_).trans m,(f _ O_).trans n,(f _ O_).trans o⟩
  ·exact ⟨p,q⟩
  ·exact r.weak fun b _ s=>hS b s.1
theorem rD:(prog.info? 56).map (fun i=>(i.zero,i.size,i.bytes))=some (some (.agg #[S_ none 0 0,I_ 0,I_ 0]),3,40):=by kernel_rfl
def SP.nt (S:Nat->Prop) (t:T):SP:=⟨fun v w=>∃A cap,v=lF A t.kids.length cap t.val t.marks/\t.kids.length<=cap/\NK w S A t.kids,fun v w w' hb ⟨A,cap,h1,h2,h3⟩=>⟨A,cap,h1,h2,h3.step hb⟩⟩
def SP.nb (S:Nat->Prop) (t:T):SP:=⟨fun v w=>∃g A cap,v = S_ (some ⟨g,0,none⟩) 1 1/\w.heap[g]?=some (.cells #[S_ A t.kids.length cap,I_ t.val,I_ t.marks] 56 (0,0))/\t.kids.length<=cap/\NK w S A t.kids,fun v w w' hb ⟨g,A,cap,h1,h0,h2,h3⟩=>⟨g,A,cap,h1,h_ h0 hb,h2,h3.step hb⟩⟩
end
end Go.Proofs.YtehfhnbpnaiogaaGreatDoor
