/-
  Lemmas and contracts for the laws of this seat, part 2; several texts joined by a program.
-/
import Derived.Test.YtehfhnbpnaiogaaGreatDoorE01
import Derived.Test.YtehfhnbpnaiogaaGreatDoorE00
import Derived.ChangeKeysEq
import Derived.Deep.CutRange
import Derived.Deep.MidRow
import Derived.Great.BuildSlice
import Derived.Laws.StructEq
import Derived.StillTail
import Derived.StillTailTactics
namespace Go.Proofs.YtehfhnbpnaiogaaGreatDoor
set_option linter.unusedVariables false
set_option linter.unusedSimpArgs false
set_option maxRecDepth 100000
set_option maxHeartbeats 16000000
open Go.RowKit Go.Proofs.Tryz IntKind
variable {A:Option Addr} {P:Program} {S:Nat->Prop} {W w w' w0:World} {args:Array Value} {base g h i j n:Nat} {f:Nat->T} {k t:T} {ks:List T} {l:List (Nat × Obj)} {m v:Int} {u:Value} {xs:List Value}
section
abbrev uP (a b:Int):Int:=bits .or .i64 a b
def kS (ks:List T):Int:=ks.foldl (fun a k=>uP a k.marks) 0
def eB (ks:List T):Bool:=ks.any (fun k=>!k.emB)
theorem pO (h:ks[i]?=some k):kS (ks.take (i+1))=uP (kS (ks.take i)) k.marks:=by
 unfold kS;rw [List.take_add_one,h,Option.toList_some,List.foldl_append]
 rfl
theorem pB (h:ks[i]?=some k):eB (ks.take (i+1))=(eB (ks.take i)||!k.emB):=by
 unfold eB;rw [List.take_add_one,h,Option.toList_some,List.any_append];simp
def bO:Nat->T->Bool
 | 0,t=>t.emB||t.lfB
 | h+1,t=>t.emB||(decide (t.val=0/\t.kids.length=4)&&t.kids.all (bO h)&&(eB t.kids&&decide (t.marks=kS t.kids)))
theorem kG (h:t.emB=true) (n:Nat):bO n t=true:=by cases n <;> simp [bO,h]
theorem mM (h:t.emB=false):bO 0 t=t.lfB:=by simp [bO,h]
theorem gV (h:t.emB=false) (n:Nat):bO (n+1) t=(decide (t.val=0/\t.kids.length=4)&&t.kids.all (bO n)&&(eB t.kids&&decide (t.marks=kS t.kids))):=by simp [bO,h]
theorem nF {h:Nat} (he:t.emB=false) (hv:t.val≠0\/t.kids.length≠4):bO (h+1) t=false:=by
 rw [gV he,dF O_];simp
theorem wZ {h i:Nat} (he:t.emB=false) (hi:t.kids[i]?=some k) (hk:bO h k=false):bO (h+1) t=false:=by
 rw [gV he];have:t.kids.all (bO h)=false:=by
  rw [List.all_eq_false];exact ⟨k,fF hi,by simp [hk]⟩
 rw [this];simp
theorem wY {h:Nat} (he:t.emB=false) (hv:t.val=0) (hl:t.kids.length=4) (ha:t.kids.all (bO h)=true):bO (h+1) t=(eB t.kids&&decide (t.marks=kS t.kids)):=by
 rw [gV he,decide_eq_true ⟨hv,hl⟩,ha];simp
theorem zK {p:T->Bool} (h:ks[i]?=some k) (ha:(ks.take i).all p=true) (hk:p k=true):(ks.take (i+1)).all p=true:=by
 rw [List.take_add_one,h,Option.toList_some,List.all_append,ha];simp [hk]
theorem g2_:∀(h:Nat) (t:T) (A:Option Addr) (cap:Nat) (S:Nat->Prop) (w:World),h<=100->t.kids.length<=cap->NK w S A t.kids->C_ 213 #[lG A t.kids.length cap t.val t.marks,I_ h] w (cP (bO h t) w):=by
 intro h
 induction h with
 | zero=>
  intro t A cap S w hh D V;have j:=H_ ((aI (w) w).alloc (aQ _) (.cells #[S_ A t.kids.length cap,I_ t.val,I_ t.marks] 56));have f:=fun w=>fK A t.kids.length cap t.val t.marks w;rw [show rP t.kids.length t.val t.marks=t.emB from rfl] at f
  cases he:t.emB with
  | true=>
   have g:=H_ (kG he 0);rw [he] at f;clear he;go_enter func213,ntmps213
   go_wp2_with (go_at_call 217;(with_reducible refine CM (f _) ?_);rintro e w1 ⟨rfl,a⟩)
   go_ret;exact ⟨A_ g.symm,d_ j.out a⟩
  | false=>
   rw [he] at f;have g:=H_ (mM he);clear he;have d:=H_ (g_ w (.cells #[S_ A t.kids.length cap,I_ t.val,I_ t.marks] 56));have lf:=fun w=>it_ A t.kids.length cap t.val t.marks w;rw [show wJ t.kids.length t.val t.marks=t.lfB from rfl] at lf;go_enter func213,ntmps213
   go_wp2_with (first
    | (go_at_call 217;(with_reducible refine CM (f _) ?_);rintro e w1 ⟨rfl,a⟩;have c:=i_ d a;obtain ⟨x0,L,M⟩:=cL c;clear c)
    | (go_at_call 227;(with_reducible refine CM (lf _) ?_);rintro e w2 ⟨rfl,v⟩))
   go_ret;exact ⟨A_ g.symm,d_ (d_ j.out a) v⟩
 | succ h ih=>
  intro t A cap S w hh D V;have j:=H_ ((aI (w) w).alloc (aQ _) (.cells #[S_ A t.kids.length cap,I_ t.val,I_ t.marks] 56));have f:=fun w=>fK A t.kids.length cap t.val t.marks w;rw [show rP t.kids.length t.val t.marks=t.emB from rfl] at f;have hz:¬(h:Int)+1=0:=O_
  have a9:((h:Int)+1 == 0)=false:=beq_eq_false_iff_ne.2 hz;have aa:decide ((h:Int)+1=0)=false:=dF hz;rw [show ((h+1:Nat):Int)=(h:Int)+1 by omega]
  cases he:t.emB with
  | true=>
   have g:=H_ (kG he (h+1));rw [he] at f;clear he;go_enter func213,ntmps213
   go_wp2_with (go_at_call 217;(with_reducible refine CM (f _) ?_);rintro e w1 ⟨rfl,a⟩)
   go_ret;exact ⟨A_ g.symm,d_ j.out a⟩
  | false=>
   rw [he] at f;have O:=H_ he;clear he;have d:=H_ (g_ w (.cells #[S_ A t.kids.length cap,I_ t.val,I_ t.marks] 56))
   by_cases hv:t.val=0
   ·by_cases hl:t.kids.length=4
    ·have H:=H_ (fun ha=>wY (h:=h) O hv hl ha);have HL:=H_ hl;rw [hl] at f d j D ⊢;rw [hv] at f d j ⊢;have HK:=H_ (fun w' (hb:q_ w w')=>V.step hb);have B:=H_ (fun i k (J:t.kids[i]?=some k) hf=>wZ (h:=h) O J hf);have P:=H_ (show t.kids.take 4=t.kids by rw [<-hl];exact List.take_length);have hw:i64.wrap ((h:Int)+1 - 1)=(h:Int):=by rw [show (h:Int)+1 - 1=h by omega];exact fA O_
     have ae:=fA (x:=(h:Int)) O_;clear hv hl V;generalize t.marks=m at f d j H ⊢;generalize t.kids=G at H HK B P HL;clear O;obtain ⟨b1,q⟩:=aZ w.heap.size;rw [<-q] at d;have a0:=H_ q;clear q;go_enter func213,ntmps213
     go_upto_region 0 with fail
     go_cut [2] (fun s2 wx=>s2 = P_ b1/\aW wx b1 #[S_ A 4 cap,I_ 0,I_ m] 56/\q_ w wx)
     case first=>
      go_wp2;go_meet
      case rel=>exact ⟨by rw [a0.out],d.out,j.out⟩
     case rest=>
      clear d j;obtain ⟨rfl,K,U⟩:=hcut;obtain ⟨x0,L,M⟩:=cL K;have d:=H_ K;have r:=H_ U;clear K U
      go_upto_region 7 with (go_at_call 217;(with_reducible refine CM (f _) ?_);rintro e w1 ⟨rfl,a⟩;obtain ⟨c,Q⟩:=gZ d r a;obtain ⟨x0,L,M⟩:=cL c.out)
      clear d r f a hz a9 aa;go_wp2;clear x0 L M
      go_loopw [5,6,27] (fun s5 s6 s27 wx=>∃i:Nat,i<=4/\s27 = I_ i/\s5 = I_ (kS (G.take i))/\s6 = .bool (eB (G.take i))/\(G.take i).all (bO h)=true/\aW wx b1 #[S_ A 4 cap,I_ 0,I_ m] 56/\q_ w wx) (fun _ _ s27 _=>4 - (intOf s27).toNat)
      case atStart=>exact ⟨0,O_,rfl,rfl,rfl,rfl,c.out,Q.out⟩
      case round=>
       clear c Q;obtain ⟨i,ad,rfl,rfl,rfl,C,K,U⟩:=hrel;obtain ⟨d,r,Y⟩:=eT K U C;clear K U C
       by_cases a8:i<4
       ·have R:=HK _ r;obtain ⟨b,o,k,A',cap',rfl,_,ab,J,a5,a7,W,X⟩:=R.at_ (show i<G.length by rw [HL.out];exact a8);obtain ⟨c0,c1,c2⟩:=a5;have I:=H_ (pO J);have s:=H_ (pB J);have Z:=H_ (fun V=>zK (p:=bO h) J Y V);have a4:=H_ (B i k J);obtain ⟨a1,a2,a3⟩:=eT c0 c1 c2;have E:=fun w' (hb:q_ wr w')=>ih k A' cap' S w' O_ W (X.step hb);have n:=fun w=>fK A' k.kids.length cap' k.val k.marks w;rw [show rP k.kids.length k.val k.marks=k.emB from rfl] at n;have i0:(0:Int)<=(i:Int):=O_
        have i1:(i:Int)<4:=O_
        have i2:(i:Int)<(cap:Int):=O_
        have i3:(i:Int)<=(cap:Int):=O_
        generalize k.kids.length=kn at E n c0 a1 a7 W;generalize k.marks=y at E n c2 a3 I;generalize k.val=z at E n c1 a2;clear R J X Y
        cases hrk:bO h k with
        | false=>
         have g:=H_ (a4 hrk);rw [hrk] at E;clear hrk
         go_wp2_with (go_at_call 213;(with_reducible refine CM (E _ (B_.alloc (aQ _) _)) ?_);rintro e w1 ⟨rfl,a⟩;have u:=H_ (i_ (m_ d (.cells #[S_ A' kn cap',I_ z,I_ y] 56)) a);have l:=H_ (d_ (b_ r (.cells #[S_ A' kn cap',I_ z,I_ y] 56)) a);have F:=i_ (g_ wr (.cells #[S_ A' kn cap',I_ z,I_ y] 56)) a;obtain ⟨y0,y1,y2⟩:=cL F;clear F)
         go_ret;exact ⟨A_ g.symm,l⟩
        | true=>
         have N:=H_ (Z hrk);rw [hrk] at E;clear hrk
         cases hsm:eB (G.take i) with
         | true=>
          rw [hsm] at s
          go_wp2_with (go_at_call 213;(with_reducible refine CM (E _ (B_.alloc (aQ _) _)) ?_);rintro e w1 ⟨rfl,a⟩;have u:=H_ (i_ (m_ d (.cells #[S_ A' kn cap',I_ z,I_ y] 56)) a);have l:=H_ (d_ (b_ r (.cells #[S_ A' kn cap',I_ z,I_ y] 56)) a);have F:=i_ (g_ wr (.cells #[S_ A' kn cap',I_ z,I_ y] 56)) a;obtain ⟨y0,y1,y2⟩:=cL F;clear F)
          go_roundw
          case rel=>exact ⟨i+1,O_,by go_num,by rw [I.out],by rw [s.out];rfl,N,u,l⟩
          case measure=>exact bH
         | false=>
          rw [hsm] at s
          go_wp2_with (first
           | (go_at_call 213;(with_reducible refine CM (E _ (B_.alloc (aQ _) _)) ?_);rintro e w1 ⟨rfl,a⟩;have u:=H_ (i_ (m_ d (.cells #[S_ A' kn cap',I_ z,I_ y] 56)) a);have l:=H_ (d_ (b_ r (.cells #[S_ A' kn cap',I_ z,I_ y] 56)) a);have F:=i_ (g_ wr (.cells #[S_ A' kn cap',I_ z,I_ y] 56)) a;obtain ⟨y0,y1,y2⟩:=cL F;clear F)
           | (go_at_call 217;(with_reducible refine CM (n _) ?_);rintro e w1 ⟨rfl,v⟩))
          go_roundw
          case rel=>exact ⟨i+1,O_,by go_num,by rw [I.out],by rw [s.out];rfl,N,i_ u v,d_ l v⟩
          case measure=>exact bH
       ·obtain rfl:i=4:=O_
        have hR:=H.out;have hA:=Y.out;rw [P.out] at hA ⊢;have g:=H_ (hR hA);obtain ⟨x0,L,M⟩:=cL d.out;clear hR hA
        cases hs:eB G with
        | true=>
         rw [hs] at g
         by_cases hm:m=kS G
         ·subst hm;go_wp2;go_ret;exact ⟨A_ (by rw [g.out];simp),r.out⟩
         ·have hd:decide (m=kS G)=false:=dF hm;go_wp2;go_ret;exact ⟨A_ (by rw [g.out];simp [hm]),r.out⟩
        | false=>
         rw [hs] at g;go_wp2;go_ret;exact ⟨A_ (by rw [g.out];simp),r.out⟩
    ·have g:=H_ (nF (h:=h) O (.inr hl));have hd:decide ((t.kids.length:Int)=4)=false:=dF O_;have a6:((t.kids.length:Int) == 4)=false:=by simp;omega
     have ac:¬(t.kids.length:Int)=4:=O_
     rw [hv] at d j f ⊢;go_enter func213,ntmps213
     go_wp2_with (go_at_call 217;(with_reducible refine CM (f _) ?_);rintro e w1 ⟨rfl,a⟩;have c:=i_ d a;obtain ⟨x0,L,M⟩:=cL c;clear c)
     go_ret;exact ⟨A_ g.symm,d_ j.out a⟩
   ·have g:=H_ (nF (h:=h) O (.inl hv));have hd:decide (t.val=0)=false:=dF hv;have a6:(t.val == 0)=false:=by simpa using hv
    go_enter func213,ntmps213
    go_wp2_with (go_at_call 217;(with_reducible refine CM (f _) ?_);rintro e w1 ⟨rfl,a⟩;have c:=i_ d a;obtain ⟨x0,L,M⟩:=cL c;clear c)
    all_goals go_ret
    all_goals exact ⟨A_ g.symm,d_ j.out a⟩
theorem dr_:∀(h:Nat) (t:T) (A:Option Addr) (cap:Nat) (S:Nat->Prop) (w:World),h<=100->t.kids.length<=cap->NK w S A t.kids->C_ 202 #[lG A t.kids.length cap t.val t.marks,I_ h] w (cP (bO h t) w):=by
 intro h
 induction h with
 | zero=>
  intro t A cap S w hh J Z;have q:=H_ ((aI (w) w).alloc (aQ _) (.cells #[S_ A t.kids.length cap,I_ t.val,I_ t.marks] 56));have g:=fun w=>mK A t.kids.length cap t.val t.marks w;rw [show rP t.kids.length t.val t.marks=t.emB from rfl] at g
  cases he:t.emB with
  | true=>
   have f:=H_ (kG he 0);rw [he] at g;clear he;go_enter func202,ntmps202
   go_wp2_with (go_at_call 204;(with_reducible refine CM (g _) ?_);rintro e w1 ⟨rfl,a⟩)
   go_ret;exact ⟨A_ f.symm,d_ q.out a⟩
  | false=>
   rw [he] at g;have f:=H_ (mM he);clear he;have d:=H_ (g_ w (.cells #[S_ A t.kids.length cap,I_ t.val,I_ t.marks] 56));unfold T.lfB at f;generalize t.kids.length=n at *;generalize t.val=v at *;generalize t.marks=m at *
   rcases n with _ | n
   ·by_cases h1:v=0
    ·have r:=H_ (show wJ 0 v m=false from dF O_);subst h1;go_enter func202,ntmps202
     go_wp2_with (go_at_call 204;(with_reducible refine CM (g _) ?_);rintro e w1 ⟨rfl,a⟩;have c:=i_ d a;obtain ⟨x0,s,u⟩:=cL c;clear c)
     go_ret;exact ⟨A_ (by rw [f.out,r.out] <;> first | rfl | (simp;done) | (simp;omega) | (simpa using h1)),d_ q.out a⟩
    ·have d1:decide (v=0)=false:=dF h1;have ac:(v == 0)=false:=by simpa using h1
     by_cases h2:0<=m
     ·by_cases h3:m<=7
      ·by_cases h4:0<v
       ·have r:=H_ (show wJ 0 v m=true from dT O_);go_enter func202,ntmps202
        go_wp2_with (go_at_call 204;(with_reducible refine CM (g _) ?_);rintro e w1 ⟨rfl,a⟩;have c:=i_ d a;obtain ⟨x0,s,u⟩:=cL c;clear c)
        go_ret;exact ⟨A_ (by rw [f.out,r.out] <;> first | rfl | (simp;done) | (simp;omega) | (simpa using h1)),d_ q.out a⟩
       ·by_cases h5:m=0
        ·have r:=H_ (show wJ 0 v m=true from dT O_);subst h5;go_enter func202,ntmps202
         go_wp2_with (go_at_call 204;(with_reducible refine CM (g _) ?_);rintro e w1 ⟨rfl,a⟩;have c:=i_ d a;obtain ⟨x0,s,u⟩:=cL c;clear c)
         go_ret;exact ⟨A_ (by rw [f.out,r.out] <;> first | rfl | (simp;done) | (simp;omega) | (simpa using h1)),d_ q.out a⟩
        ·have r:=H_ (show wJ 0 v m=false from dF O_);have d5:decide (m=0)=false:=dF h5;have ad:(m == 0)=false:=by simpa using h5
         go_enter func202,ntmps202
         go_wp2_with (go_at_call 204;(with_reducible refine CM (g _) ?_);rintro e w1 ⟨rfl,a⟩;have c:=i_ d a;obtain ⟨x0,s,u⟩:=cL c;clear c)
         go_ret;exact ⟨A_ (by rw [f.out,r.out] <;> first | rfl | (simp;done) | (simp;omega) | (simpa using h1)),d_ q.out a⟩
      ·have r:=H_ (show wJ 0 v m=false from dF O_);go_enter func202,ntmps202
       go_wp2_with (go_at_call 204;(with_reducible refine CM (g _) ?_);rintro e w1 ⟨rfl,a⟩;have c:=i_ d a;obtain ⟨x0,s,u⟩:=cL c;clear c)
       go_ret;exact ⟨A_ (by rw [f.out,r.out] <;> first | rfl | (simp;done) | (simp;omega) | (simpa using h1)),d_ q.out a⟩
     ·have r:=H_ (show wJ 0 v m=false from dF O_);go_enter func202,ntmps202
      go_wp2_with (go_at_call 204;(with_reducible refine CM (g _) ?_);rintro e w1 ⟨rfl,a⟩;have c:=i_ d a;obtain ⟨x0,s,u⟩:=cL c;clear c)
      go_ret;exact ⟨A_ (by rw [f.out,r.out] <;> first | rfl | (simp;done) | (simp;omega) | (simpa using h1)),d_ q.out a⟩
   ·have r:=H_ (show wJ (n+1) v m=false from dF O_);have h0:((n:Int)+1=0)=False:=by simp;omega
    have a5:((n:Int)+1 == 0)=false:=beq_eq_false_iff_ne.2 O_;have h1:=a5;go_enter func202,ntmps202
    go_wp2_with (go_at_call 204;(with_reducible refine CM (g _) ?_);rintro e w1 ⟨rfl,a⟩;have c:=i_ d a;obtain ⟨x0,s,u⟩:=cL c;clear c)
    go_ret;exact ⟨A_ (by rw [f.out,r.out] <;> first | rfl | (simp;done) | (simp;omega) | (simpa using h1)),d_ q.out a⟩
 | succ h ih=>
  intro t A cap S w hh J Z;have q:=H_ ((aI (w) w).alloc (aQ _) (.cells #[S_ A t.kids.length cap,I_ t.val,I_ t.marks] 56));have g:=fun w=>mK A t.kids.length cap t.val t.marks w;rw [show rP t.kids.length t.val t.marks=t.emB from rfl] at g;have hz:¬(h:Int)+1=0:=O_
  have aa:((h:Int)+1 == 0)=false:=beq_eq_false_iff_ne.2 hz;have ab:decide ((h:Int)+1=0)=false:=dF hz;rw [show ((h+1:Nat):Int)=(h:Int)+1 by omega]
  cases he:t.emB with
  | true=>
   have f:=H_ (kG he (h+1));rw [he] at g;clear he;go_enter func202,ntmps202
   go_wp2_with (go_at_call 204;(with_reducible refine CM (g _) ?_);rintro e w1 ⟨rfl,a⟩)
   go_ret;exact ⟨A_ f.symm,d_ q.out a⟩
  | false=>
   rw [he] at g;have R:=H_ he;clear he;have d:=H_ (g_ w (.cells #[S_ A t.kids.length cap,I_ t.val,I_ t.marks] 56))
   by_cases hv:t.val=0
   ·by_cases hl:t.kids.length=4
    ·have M:=H_ (fun ha=>wY (h:=h) R hv hl ha);have r:=H_ hl;rw [hl] at g d q J ⊢;rw [hv] at g d q ⊢;have HK:=H_ (fun w' (hb:q_ w w')=>Z.step hb);have H:=H_ (fun i k (O:t.kids[i]?=some k) hf=>wZ (h:=h) R O hf);have U:=H_ (show t.kids.take 4=t.kids by rw [<-hl];exact List.take_length);have hw:i64.wrap ((h:Int)+1 - 1)=(h:Int):=by rw [show (h:Int)+1 - 1=h by omega];exact fA O_
     have ag:=fA (x:=(h:Int)) O_;clear hv hl Z;generalize t.marks=m at g d q M ⊢;generalize t.kids=L at M HK H U r;clear R;obtain ⟨b1,B⟩:=aZ w.heap.size;rw [<-B] at d;have a3:=H_ B;clear B;go_enter func202,ntmps202
     go_upto_region 0 with fail
     go_cut [2] (fun s2 wx=>s2 = P_ b1/\aW wx b1 #[S_ A 4 cap,I_ 0,I_ m] 56/\q_ w wx)
     case first=>
      go_wp2;go_meet
      case rel=>exact ⟨by rw [a3.out],d.out,q.out⟩
     case rest=>
      clear d q;obtain ⟨rfl,P,X⟩:=hcut;obtain ⟨x0,s,u⟩:=cL P;have d:=H_ P;have C:=H_ X;clear P X
      go_upto_region 7 with (go_at_call 204;(with_reducible refine CM (g _) ?_);rintro e w1 ⟨rfl,a⟩;obtain ⟨c,V⟩:=gZ d C a;obtain ⟨x0,s,u⟩:=cL c.out)
      clear d C g a hz aa ab;go_wp2;clear x0 s u
      go_loopw [5,6,7] (fun s5 s6 s27 wx=>∃i:Nat,i<=4/\s27 = I_ i/\s5 = I_ (kS (L.take i))/\s6 = .bool (eB (L.take i))/\(L.take i).all (bO h)=true/\aW wx b1 #[S_ A 4 cap,I_ 0,I_ m] 56/\q_ w wx) (fun _ _ s27 _=>4 - (intOf s27).toNat)
      case atStart=>exact ⟨0,O_,rfl,rfl,rfl,rfl,c.out,V.out⟩
      case round=>
       clear c V;obtain ⟨i,af,rfl,rfl,rfl,I,P,X⟩:=hrel;obtain ⟨d,C,HA⟩:=eT P X I;clear P X I
       by_cases a9:i<4
       ·have W:=HK _ C;obtain ⟨b,o,k,A',cap',rfl,_,l,O,a6,a8,a0,a1⟩:=W.at_ (show i<L.length by rw [r.out];exact a9);obtain ⟨c0,c1,c2⟩:=a6;have N:=H_ (pO O);have G:=H_ (pB O);have a2:=H_ (fun Z=>zK (p:=bO h) O HA Z);have a4:=H_ (H i k O);obtain ⟨D,E,F⟩:=eT c0 c1 c2;have K:=fun w' (hb:q_ wr w')=>ih k A' cap' S w' O_ a0 (a1.step hb);have z:=fun w=>mK A' k.kids.length cap' k.val k.marks w;rw [show rP k.kids.length k.val k.marks=k.emB from rfl] at z;have i0:(0:Int)<=(i:Int):=O_
        have i1:(i:Int)<4:=O_
        have i2:(i:Int)<(cap:Int):=O_
        have i3:(i:Int)<=(cap:Int):=O_
        generalize k.kids.length=kn at K z c0 D a8 a0;generalize k.marks=km at K z c2 F N;generalize k.val=kv at K z c1 E;clear W O a1 HA;obtain ⟨x0,s,u⟩:=cL d.out
        cases hrk:bO h k with
        | false=>
         have f:=H_ (a4 hrk);rw [hrk] at K;clear hrk
         go_wp2_with (go_at_call 202;(with_reducible refine CM (K _ B_) ?_);rintro e w1 ⟨rfl,a⟩;obtain ⟨j,y⟩:=gZ d C a;have y0:=(a.cell (p:=⟨b,_,none⟩) l).trans D;have y1:=(a.cell (p:=⟨b,_,none⟩) l).trans E;have y2:=(a.cell (p:=⟨b,_,none⟩) l).trans F;have z0:=a_ j 0;have z2:=a_ j 2;simp only[zl] at z0 z2)
         go_ret;exact ⟨A_ f.symm,y⟩
        | true=>
         have Q:=H_ (a2 hrk);rw [hrk] at K;clear hrk
         cases hsm:eB (L.take i) with
         | true=>
          rw [hsm] at G
          go_wp2_with (go_at_call 202;(with_reducible refine CM (K _ B_) ?_);rintro e w1 ⟨rfl,a⟩;obtain ⟨j,y⟩:=gZ d C a;have y0:=(a.cell (p:=⟨b,_,none⟩) l).trans D;have y1:=(a.cell (p:=⟨b,_,none⟩) l).trans E;have y2:=(a.cell (p:=⟨b,_,none⟩) l).trans F;have z0:=a_ j 0;have z2:=a_ j 2;simp only[zl] at z0 z2)
          go_roundw
          case rel=>exact ⟨i+1,O_,by go_num,by rw [N.out],by rw [G.out];rfl,Q,j,y⟩
          case measure=>exact bH
         | false=>
          rw [hsm] at G
          go_wp2_with (first
           | (go_at_call 202;(with_reducible refine CM (K _ B_) ?_);rintro e w1 ⟨rfl,a⟩;obtain ⟨j,y⟩:=gZ d C a;have y0:=(a.cell (p:=⟨b,_,none⟩) l).trans D;have y1:=(a.cell (p:=⟨b,_,none⟩) l).trans E;have y2:=(a.cell (p:=⟨b,_,none⟩) l).trans F;have z0:=a_ j 0;have z2:=a_ j 2;simp only[zl] at z0 z2)
           | (go_at_call 204;(with_reducible refine CM (z _) ?_);rintro e w1 ⟨rfl,Y⟩))
          go_roundw
          case rel=>exact ⟨i+1,O_,by go_num,by rw [N.out],by rw [G.out];rfl,Q,i_ j Y,d_ y Y⟩
          case measure=>exact bH
       ·obtain rfl:i=4:=O_
        have hR:=M.out;have hA:=HA.out;rw [U.out] at hA ⊢;have f:=H_ (hR hA);obtain ⟨x0,s,u⟩:=cL d.out;clear hR hA
        cases hs:eB L with
        | true=>
         rw [hs] at f
         by_cases hm:m=kS L
         ·subst hm;go_wp2;go_ret;exact ⟨A_ (by rw [f.out];simp),C.out⟩
         ·have hd:decide (m=kS L)=false:=dF hm;go_wp2;go_ret;exact ⟨A_ (by rw [f.out];simp [hm]),C.out⟩
        | false=>
         rw [hs] at f;go_wp2;go_ret;exact ⟨A_ (by rw [f.out];simp),C.out⟩
    ·have f:=H_ (nF (h:=h) R (.inr hl));have hd:decide ((t.kids.length:Int)=4)=false:=dF O_;have a7:((t.kids.length:Int) == 4)=false:=by simp;omega
     have ae:¬(t.kids.length:Int)=4:=O_
     rw [hv] at d q g ⊢;go_enter func202,ntmps202
     go_wp2_with (go_at_call 204;(with_reducible refine CM (g _) ?_);rintro e w1 ⟨rfl,a⟩;have c:=i_ d a;obtain ⟨x0,s,u⟩:=cL c;clear c)
     go_ret;exact ⟨A_ f.symm,d_ q.out a⟩
   ·have f:=H_ (nF (h:=h) R (.inl hv));have hd:decide (t.val=0)=false:=dF hv;have a7:(t.val == 0)=false:=by simpa using hv
    go_enter func202,ntmps202
    go_wp2_with (go_at_call 204;(with_reducible refine CM (g _) ?_);rintro e w1 ⟨rfl,a⟩;have c:=i_ d a;obtain ⟨x0,s,u⟩:=cL c;clear c)
    all_goals go_ret
    all_goals exact ⟨A_ f.symm,d_ q.out a⟩
end
section
abbrev Cn:=Nat->Int × Int
def sh (c:Cn) (k:Nat):Cn:=fun i=>c (k+i)
theorem hN_ (c:Cn) (a b:Nat):sh (sh c a) b=sh c (a+b):=by funext i;simp [sh,Nat.add_assoc]
theorem qB (c:Cn):sh c 0=c:=by funext i;simp [sh]
def bP (n:Nat) (c:Cn):Bool:=decide (∀i,i<n->c i=(0,0))
theorem aU {c:Cn}:bP n c=true↔∀i,i<n->c i=(0,0):=by simp [bP]
theorem eG {c:Cn}:bP n c=false↔∃i,i<n/\c i≠(0,0):=by simp [bP]
def f_:Nat->Cn->T
 | 0,c=> .mk [] (c 0).1 (c 0).2
 | h+1,c=>if bP (4 ^ (h+1)) c then .nil else .mk ((List.range 4).map fun k=>f_ h (sh c (k*4 ^ h))) 0 (kS ((List.range 4).map fun k=>f_ h (sh c (k*4 ^ h))))
def N_ (h:Nat) (c:Cn):List T:=(List.range 4).map fun k=>f_ h (sh c (k*4 ^ h))
theorem bE (h:Nat) (c:Cn):f_ (h+1) c=if bP (4 ^ (h+1)) c then .nil else .mk (N_ h c) 0 (kS (N_ h c)):=rfl
theorem Q_ (h:Nat) (c:Cn):(N_ h c).length=4:=by simp [N_]
theorem dN {h:Nat} {c:Cn} {k:Nat} (hk:k<4):(N_ h c)[k]?=some (f_ h (sh c (k*4 ^ h))):=by
 unfold N_;rw [gP_,List.getElem?_range hk]
 rfl
def eH_ (x:Int × Int):Prop:=x=(0,0)\/(x.1≠0/\0<=x.2/\x.2<=7/\(0<x.1\/x.2=0))
def aX (c:Cn):Prop:=∀i,eH_ (c i)
theorem aX.sh {c:Cn} (h:aX c) (k:Nat):aX (sh c k):=fun i=>h (k+i)
theorem rG (hi:i<4 ^ (h+1)):i / 4 ^ h<4/\i / 4 ^ h*4 ^ h+i % 4 ^ h=i/\i % 4 ^ h<4 ^ h:=by
 have h0:0<4 ^ h:=Nat.pow_pos O_;refine ⟨?_,?_,Nat.mod_lt _ h0⟩
 ·rw [Nat.div_lt_iff_lt_mul h0];rw [Nat.pow_succ] at hi;omega
 ·have:=Nat.div_add_mod i (4 ^ h);rw [Nat.mul_comm];exact this
theorem uS {k:Nat} (hk:k<4) (hj:j<4 ^ h):k*4 ^ h+j<4 ^ (h+1):=by
 rw [Nat.pow_succ];have:k*4 ^ h<=3*4 ^ h:=Nat.mul_le_mul_right _ O_;omega
theorem rE {c:Cn}:bP (4 ^ (h+1)) c=true↔∀k,k<4->bP (4 ^ h) (sh c (k*4 ^ h))=true:=by
 simp only[aU]
 constructor
 ·intro H k hk j hj;exact H _ (uS hk hj)
 ·intro H i hi;obtain ⟨h1,h2,h3⟩:=rG hi;have:=H _ h1 _ h3;simp only[sh] at this;rw [h2] at this;exact this
theorem lZ:∀(h:Nat) {c c':Cn},(∀i,i<4 ^ h->c i=c' i)->f_ h c=f_ h c'
 | 0,c,c',H=>by simp only[f_];rw [H 0 z_]
 | h+1,c,c',H=>by
  have e:N_ h c=N_ h c':=by
   unfold N_;refine List.map_congr_left fun k d=>lZ h fun i a=>?_;exact H _ (uS (List.mem_range.1 d) a)
  have b:bP (4 ^ (h+1)) c=bP (4 ^ (h+1)) c':=by
   rw [Bool.eq_iff_iff,aU,aU];exact ⟨fun G i a=>(H i a).symm.trans (G i a),fun G i a=>(H i a).trans (G i a)⟩
  rw [bE,bE,e,b]
theorem tZ (ks:List T) (v m:Int):(T.mk ks v m).emB=rP ks.length v m:=rfl
theorem eI_ (ks:List T) (v m:Int):(T.mk ks v m).lfB=wJ ks.length v m:=rfl
theorem uA:rP n v m=true↔n=0/\v=0/\m=0:=by simp [rP]
theorem ar_:wJ n v m=true↔n=0/\v≠0/\0<=m/\m<=7/\(0<v\/m=0):=by simp [wJ]
theorem gg_:T.nil.emB=true:=by decide
theorem cH (h:Nat) (c:Cn):(f_ h c).emB=bP (4 ^ h) c:=by
 cases h with
 | zero=>
  rw [Bool.eq_iff_iff,aU,show f_ 0 c = .mk [] (c 0).1 (c 0).2 from rfl,tZ,uA]
  constructor
  ·rintro ⟨_,h1,h2⟩ i a;obtain rfl:i=0:=by simpa using a
   exact Prod.ext h1 h2
  ·intro H;have:=H 0 z_;rw [this];simp
 | succ h=>
  rw [bE]
  cases hn:bP (4 ^ (h+1)) c with
  | true=>rw [if_pos rfl,gg_]
  | false=>
   rw [if_neg z_];simp [tZ,rP,Q_]
theorem lI (h:Nat) (c:Cn):eB (N_ h c)=!bP (4 ^ (h+1)) c:=by
 rw [Bool.eq_iff_iff];unfold eB;rw [List.any_eq_true,Bool.not_eq_true',<-Bool.not_eq_true,rE]
 constructor
 ·rintro ⟨t,b,h1⟩ H;unfold N_ at b;obtain ⟨k,a,rfl⟩:=List.mem_map.1 b;rw [cH,H k (List.mem_range.1 a)] at h1;simp at h1
 ·intro H;have:∃k,k<4/\bP (4 ^ h) (sh c (k*4 ^ h))≠true:=by
   apply Classical.byContradiction;intro G;exact H fun k a=>Classical.byContradiction fun g=>G ⟨k,a,g⟩
  obtain ⟨k,a,d⟩:=this;exact ⟨_,fF (dN a),by rw [cH];simpa using d⟩
theorem oY:∀(h:Nat) {c:Cn},aX c->bO h (f_ h c)=true
 | 0,c,hc=>by
  simp only[bO,Bool.or_eq_true];rw [show f_ 0 c = .mk [] (c 0).1 (c 0).2 from rfl,tZ,eI_,uA,ar_]
  rcases hc 0 with h | h
  ·left;rw [h];simp
  ·right;exact ⟨rfl,h⟩
 | h+1,c,hc=>by
  cases hn:bP (4 ^ (h+1)) c with
  | true=>exact kG (by rw [cH];exact hn) _
  | false=>
   rw [bE,hn,if_neg z_];have he:(T.mk (N_ h c) 0 (kS (N_ h c))).emB=false:=by simp [tZ,rP,Q_]
   rw [gV he];simp only[T.kids,T.val,T.marks,Q_,lI,hn];have:(N_ h c).all (bO h)=true:=by
    rw [List.all_eq_true];intro t a;unfold N_ at a;obtain ⟨k,_,rfl⟩:=List.mem_map.1 a;exact oY h (hc.sh _)
   rw [this];simp
def eC:Cn:=fun _=>(0,0)
theorem iT:aX eC:=fun _=> .inl rfl
theorem da_:bP n eC=true:=aU.2 fun _ _=>rfl
theorem dL {c:Cn} (hn:bP (4 ^ h) c=true):f_ h c = .nil:=by
 cases h with
 | zero=>
  simp only[f_];rw [aU.1 hn 0 z_]
  rfl
 | succ h=>rw [bE,hn,if_pos rfl]
theorem be_ (h:t.emB=true):t = .nil:=by
 obtain ⟨ks,v,m⟩:=t;rw [tZ,uA] at h;obtain ⟨h1,rfl,rfl⟩:=h;rw [List.length_eq_zero_iff.1 h1]
 rfl
theorem nT:∀(h:Nat) {t:T},bO h t=true->∃c,aX c/\(∀i,4 ^ h<=i->c i=(0,0))/\t=f_ h c
 | h,t,hr=>by
  cases he:t.emB with
  | true=>exact ⟨eC,iT,fun _ _=>rfl,by rw [be_ he,dL (da_)]⟩
  | false=>
   match h with
   | 0=>
    rw [mM he] at hr;obtain ⟨ks,v,m⟩:=t;rw [eI_,ar_] at hr;obtain ⟨h1,h2⟩:=hr;refine ⟨fun i=>if i=0 then (v,m) else (0,0),fun i=>?_,fun i a=>?_,?_⟩
    ·by_cases a:i=0
     ·simp only[a,if_true];exact .inr h2
     ·simp only[a,if_false];exact .inl rfl
    ·have:i≠0:=by simp at a;omega
     simp [this]
    ·rw [List.length_eq_zero_iff.1 h1];simp [f_]
   | h+1=>
    rw [gV he] at hr;simp only[Bool.and_eq_true,decide_eq_true_eq] at hr;obtain ⟨⟨⟨h1,h2⟩,h3⟩,d,o⟩:=hr;obtain ⟨ks,v,m⟩:=t;simp only[T.kids,T.val,T.marks] at h1 h2 h3 d o;subst h1;have n:∀k:Nat,∃c,aX c/\∀x,ks[k]?=some x->x=f_ h c:=fun k=>by
     cases b:ks[k]? with
     | none=>exact ⟨eC,iT,fun _ h=>by cases h⟩
     | some x=>
      obtain ⟨c,hc,_,e⟩:=nT h (List.all_eq_true.1 h3 x (fF b));exact ⟨c,hc,fun y l=>by injection l with l;rw [<-l];exact e⟩
    let f:Nat->Cn:=fun k=>Classical.choose (n k)
    have hf:∀k,aX (f k)/\∀x,ks[k]?=some x->x=f_ h (f k):=fun k=>Classical.choose_spec (n k);have s:0<4 ^ h:=Nat.pow_pos O_;refine ⟨fun i=>if i<4 ^ (h+1) then f (i / 4 ^ h) (i % 4 ^ h) else (0,0),fun i=>?_,fun i a=>?_,?_⟩
    ·by_cases a:i<4 ^ (h+1)
     ·simp only[a,if_true];exact (hf _).1 _
     ·simp only[a,if_false];exact .inl rfl
    ·show (if i<4 ^ (h+1) then _ else _)=_
     rw [if_neg O_]
    ·have e:ks=N_ h (fun i=>if i<4 ^ (h+1) then f (i / 4 ^ h) (i % 4 ^ h) else (0,0)):=by
      apply List.ext_getElem?;intro k
      by_cases p:k<4
      ·rw [dN p];have b:ks[k]?=some ks[k]:=cU O_;rw [b]
       congr 1
       rw [(hf k).2 _ b];refine lZ h fun j g=>?_;simp only[sh];rw [if_pos (uS p g)];have q:(k*4 ^ h+j) / 4 ^ h=k:=by rw [Nat.add_comm,Nat.add_mul_div_right _ _ s,Nat.div_eq_of_lt g,Nat.zero_add]
       have r:(k*4 ^ h+j) % 4 ^ h=j:=by rw [Nat.add_comm,Nat.add_mul_mod_self_right,Nat.mod_eq_of_lt g]
       rw [q,r]
      ·rw [xX O_,xX (by rw [Q_];omega)]
     generalize (fun i=>if i<4 ^ (h+1) then f (i / 4 ^ h) (i % 4 ^ h) else (0,0):Cn)=c at e;subst e;rw [lI] at d;rw [bE,if_neg (by simpa using d),o]
def X_ (h:Nat) (c:Cn):Prop:=h<=4/\(∀i,4 ^ h<=i->c i=(0,0))/\(h=0\/∃i,4 ^ (h - 1)<=i/\c i≠(0,0))
theorem X_.le {h':Nat} {c:Cn} (a:X_ h c) (b:X_ h' c):h<=h':=by
 rcases a.2.2 with h0 | ⟨i,h1,h2⟩
 ·omega
 ·rcases Nat.lt_or_ge h' h with hlt | hge
  ·exfalso
   exact h2 (b.2.1 i (dO (Nat.pow_le_pow_right O_ O_) h1))
  ·exact hge
theorem X_.zero:X_ 0 eC:=⟨O_,fun _ _=>rfl,.inl rfl⟩
def gS (t:T):Bool:=eB (t.kids.drop 1)
theorem mY {c:Cn}:gS (f_ (h+1) c)=true↔∃i,4 ^ h<=i/\i<4 ^ (h+1)/\c i≠(0,0):=by
 rw [bE]
 cases hn:bP (4 ^ (h+1)) c with
 | true=>
  rw [if_pos rfl]
  constructor
  ·intro h;simp [gS,T.nil,T.kids,eB] at h
  ·rintro ⟨i,_,h2,h3⟩;exact absurd (aU.1 hn i h2) h3
 | false=>
  rw [if_neg z_];simp only[gS,T.kids,eB,List.any_eq_true];have l:0<4 ^ h:=Nat.pow_pos O_
  constructor
  ·rintro ⟨t,g,h1⟩;obtain ⟨k,a⟩:=List.getElem?_of_mem g;rw [List.getElem?_drop] at a;have b:1+k<4:=by
    have:=bK a;rw [Q_] at this;exact this
   rw [dN b] at a;injection a with a
   subst a;rw [cH] at h1;obtain ⟨j,f,d⟩:=eG.1 (by simpa using h1);refine ⟨(1+k)*4 ^ h+j,?_,uS b f,d⟩;have:1*4 ^ h<=(1+k)*4 ^ h:=Nat.mul_le_mul_right _ O_;omega
  ·rintro ⟨i,h1,h2,h3⟩;obtain ⟨m,n,o⟩:=rG h2;have p:1<=i / 4 ^ h:=by rw [Nat.le_div_iff_mul_le l];omega
   refine ⟨f_ h (sh c (i / 4 ^ h*4 ^ h)),?_,?_⟩
   ·refine fF (i:=i / 4 ^ h - 1) ?_;rw [List.getElem?_drop,show 1+(i / 4 ^ h - 1)=i / 4 ^ h by omega,dN m]
   ·rw [cH,eG.2 ⟨i % 4 ^ h,o,by simp only[sh];rw [n];exact h3⟩]
    rfl
def dI (h:Int) (t:T):Bool:=decide (0<=h/\h<=4)&&(bO h.toNat t&&(decide (h=0)||gS t))
theorem fX {c:Cn} (hc:aX c) (ht:X_ h c):dI h (f_ h c)=true:=by
 unfold dI;rw [dT (by have:=ht.1;omega),Int.toNat_natCast,oY h hc]
 rcases h with _ | h
 ·simp
 ·rcases ht.2.2 with h0 | ⟨i,h1,h2⟩
  ·omega
  ·have:gS (f_ (h+1) c)=true:=mY.2 ⟨i,by simpa using h1,by
    rcases Nat.lt_or_ge i (4 ^ (h+1)) with hlt | hge
    ·exact hlt
    ·exact absurd (ht.2.1 i hge) h2,h2⟩
   rw [this];simp
end
section
def pQ (i:Nat):Value:= .agg #[I_ ((i / 4 / 4 / 4 % 4:Nat):Int),I_ ((i / 4 / 4 % 4:Nat):Int),I_ ((i / 4 % 4:Nat):Int),I_ ((i % 4:Nat):Int)]
def jx_ (v:Value) (w:World) (e:Ending) (w':World):Prop:=e = .returned v/\q_ w w'
theorem td4 (i:Nat):(i:Int).tdiv 4=((i / 4:Nat):Int):=by rw [tv_ O_];omega
theorem tm4 (i:Nat):(i:Int).tmod 4=((i % 4:Nat):Int):=by rw [tm_ O_];omega
theorem cv_ (i:Nat) (w:World) (hi:i<256):C_ 215 #[I_ i] w (jx_ (pQ i) w):=by
 have n:=td4 i;have r:=tm4 i;have o:=td4 (i / 4);have s:=tm4 (i / 4);have p:=td4 (i / 4 / 4);have t:=tm4 (i / 4 / 4);have q:=td4 (i / 4 / 4 / 4);have u:=tm4 (i / 4 / 4 / 4);unfold pQ;have k:i / 4<64:=O_
 have l:i / 4 / 4<16:=O_
 have m:i / 4 / 4 / 4<4:=O_
 have a0:i % 4<4:=O_
 have a1:i / 4 % 4<4:=O_
 have a2:i / 4 / 4 % 4<4:=O_
 have a3:i / 4 / 4 / 4 % 4<4:=O_
 generalize i / 4 / 4 / 4 % 4=d at *;generalize i / 4 / 4 / 4 / 4=y at *;generalize i / 4 / 4 / 4=j at *;generalize i / 4 / 4 % 4=c at *;generalize i / 4 / 4=g at *;generalize i / 4 % 4=b at *;generalize i / 4=f at *;generalize i % 4=a at *;have w0:=fA (x:=(a:Int)) O_;have w1:=fA (x:=(b:Int)) O_;have w2:=fA (x:=(c:Int)) O_;have w3:=fA (x:=(d:Int)) O_;have v1:=fA (x:=(f:Int)) O_;have v2:=fA (x:=(g:Int)) O_;have v3:=fA (x:=(j:Int)) O_;go_enter func215,ntmps215
 go_upto_region 2 with fail
 go_wp2;refine wp_loop_rounds 5 ?_
 rw [rounds_succ];go_wp2;rw [rounds_succ];go_wp2;rw [rounds_succ];go_wp2;rw [rounds_succ];go_wp2;rw [rounds_succ];go_wp2;exact bodyPost_ret (v:= .agg #[I_ d,I_ c,I_ b,I_ a]) (by simp [results,results215,go_sem]) rfl ⟨rfl,((aI (w) w).alloc (aQ _) _).alloc z_ _⟩
theorem gr_ {P:Program} {t:TypeId} {n:Nat} (h:(P.info? t).map (·.size)=some n):∃j,P.info? t=some j/\j.size=n:=by
 cases hj:P.info? t with
 | none=>rw [hj] at h;cases h
 | some j=>rw [hj] at h;exact ⟨j,rfl,by simpa using h⟩
theorem pN (d:Nat) {xs ys:Array Value} {is:List Nat} (w:World) (i:Nat) (x y:Int) (hx:xs[i]?=some (I_ x)) (hy:ys[i]?=some (I_ y)) :
  (Op.eqItems (d+1) 3 1 xs ys (i :: is)).run prog w=if x == y then (Op.eqItems (d+1) 3 1 xs ys is).run prog w else .ok false w:=by
 have h1:(part 3 xs i).run prog w = .ok (I_ x) w:=by simp [part,isAgg,run_underlying underlying3,go_sem,hx]
 have h2:(part 3 ys i).run prog w = .ok (I_ y) w:=by simp [part,isAgg,run_underlying underlying3,go_sem,hy]
 have h3:=run_equalIn_int w d 3 .i64 .i64 x y underlying3;simp only[Op.eqItems,Nat.mul_one,Sem.run_ite,Sem.run_bind,h1,h2,h3,Result.andThen_ok]
 by_cases h:x=y
 ·subst h;simp
 ·simp [h,Sem.run_pure]
theorem mJ (a b c d:Int) (w:World):(Op.equalIn 10000 249 (.agg #[I_ a,I_ b,I_ c,I_ d]) (.agg #[I_ 0,I_ 0,I_ 0,I_ 0])).run prog w = .ok (a == 0&&(b == 0&&(c == 0&&d == 0))) w:=by
 obtain ⟨k,f,g⟩:=gr_ (P:=prog) (t:=3) (n:=1) s_;have hc:prog.cellsOf 3=1:=by kernel_rfl
 rw [show (10000:Nat)=9999+1 from rfl,run_equalIn_array w 9999 _ _ underlying249 f,hc];rw [show List.range 4=[0,1,2,3] from rfl,show (9999:Nat)=9998+1 from rfl];rw [pN 9998 w 0 a 0 rfl rfl,pN 9998 w 1 b 0 rfl rfl,pN 9998 w 2 c 0 rfl rfl,pN 9998 w 3 d 0 rfl rfl]
 cases a == 0 <;> cases b == 0 <;> cases c == 0 <;> cases d == 0 <;> simp [Op.eqItems,Sem.run_pure]
def hf (i:Nat):Nat:=if i=0 then 0 else if i<4 then 1 else if i<16 then 2 else if i<64 then 3 else 4
theorem ah_ (i:Nat) (w:World) (hi:i<256):C_ 216 #[pQ i] w (sB (hf i) w):=by
 unfold pQ;have m:=H_ (fun o:Obj=>(aI (w) w).alloc (aQ _) o);have k:=H_ (fun h:¬i / 4 / 4 / 4 % 4=0=>show hf i=4 by unfold hf;rw [if_neg O_,if_neg O_,if_neg O_,if_neg O_]);have j:=H_ (fun (h:i / 4 / 4 / 4 % 4=0) (h':¬i / 4 / 4 % 4=0)=>show hf i=3 by unfold hf;rw [if_neg O_,if_neg O_,if_neg O_,if_pos O_]);have g:=H_ (fun (h:i / 4 / 4 / 4 % 4=0) (h':i / 4 / 4 % 4=0) (h'':¬i / 4 % 4=0)=>show hf i=2 by unfold hf;rw [if_neg O_,if_neg O_,if_pos O_]);have f:=H_ (fun (h:i / 4 / 4 / 4 % 4=0) (h':i / 4 / 4 % 4=0) (h'':i / 4 % 4=0) (h3:¬i % 4=0)=>show hf i=1 by unfold hf;rw [if_neg O_,if_pos O_]);have d:=H_ (fun (h:i / 4 / 4 / 4 % 4=0) (h':i / 4 / 4 % 4=0) (h'':i / 4 % 4=0) (h3:i % 4=0)=>show hf i=0 by unfold hf;rw [if_pos O_]);generalize i / 4 / 4 / 4 % 4=q at *;generalize i / 4 / 4 % 4=n at *;generalize i / 4 % 4=l at *;generalize i % 4=c at *;generalize hf i=y at *
 by_cases h3:q=0
 ·subst h3
  by_cases h2:n=0
  ·subst h2
   by_cases h1:l=0
   ·subst h1
    by_cases h0:c=0
    ·subst h0;obtain rfl:=d.out rfl rfl rfl rfl;clear k j g f d;have p:=fun w=>mJ 0 0 0 0 w;go_enter func216,ntmps216;go_wp2;refine wp_loop_rounds 5 ?_;rw [rounds_succ];go_wp2;rw [rounds_succ];go_wp2;rw [rounds_succ];go_wp2;rw [rounds_succ];go_wp2;rw [rounds_succ];go_wp2;go_ret;exact ⟨rfl,m.out _⟩
    ·obtain rfl:=f.out rfl rfl rfl h0;clear k j g f d;have b:((c:Int) == 0)=false:=beq_eq_false_iff_ne.2 O_;have a:¬(c:Int)=0:=O_
     have p:=fun w=>mJ 0 0 0 (c:Int) w;go_enter func216,ntmps216;go_wp2;refine wp_loop_rounds 5 ?_;rw [rounds_succ];go_wp2;rw [rounds_succ];go_wp2;rw [rounds_succ];go_wp2;rw [rounds_succ];go_wp2;go_ret;exact ⟨rfl,m.out _⟩
   ·obtain rfl:=g.out rfl rfl h1;clear k j g f d;have b:((l:Int) == 0)=false:=beq_eq_false_iff_ne.2 O_;have a:¬(l:Int)=0:=O_
    have p:=fun w=>mJ 0 0 (l:Int) (c:Int) w;go_enter func216,ntmps216;go_wp2;refine wp_loop_rounds 5 ?_;rw [rounds_succ];go_wp2;rw [rounds_succ];go_wp2;rw [rounds_succ];go_wp2;go_ret;exact ⟨rfl,m.out _⟩
  ·obtain rfl:=j.out rfl h2;clear k j g f d;have b:((n:Int) == 0)=false:=beq_eq_false_iff_ne.2 O_;have a:¬(n:Int)=0:=O_
   have p:=fun w=>mJ 0 (n:Int) (l:Int) (c:Int) w;go_enter func216,ntmps216;go_wp2;refine wp_loop_rounds 5 ?_;rw [rounds_succ];go_wp2;rw [rounds_succ];go_wp2;go_ret;exact ⟨rfl,m.out _⟩
 ·obtain rfl:=k.out h3;clear k j g f d;have b:((q:Int) == 0)=false:=beq_eq_false_iff_ne.2 O_;have a:¬(q:Int)=0:=O_
  have p:=fun w=>mJ (q:Int) (n:Int) (l:Int) (c:Int) w;go_enter func216,ntmps216;go_wp2;refine wp_loop_rounds 5 ?_;rw [rounds_succ];go_wp2;go_ret;exact ⟨rfl,m.out _⟩
theorem eE_ (i:Int) (w:World):C_ 182 #[I_ i] w fun e w'=>e = .returned (.bool (decide (0<=i/\i<=255)))/\w=w':=by
 by_cases h0:0<=i
 ·by_cases h1:i<=255
  ·rw [decide_eq_true ⟨h0,h1⟩];go_enter func182,ntmps182;go_wp2;go_ret;exact ⟨rfl,rfl⟩
  ·rw [dF O_];go_enter func182,ntmps182;go_wp2;go_ret;exact ⟨rfl,rfl⟩
 ·rw [dF O_];go_enter func182,ntmps182;go_wp2;go_ret;exact ⟨rfl,rfl⟩
end
section
abbrev oD (h:Int) (A:Option Addr) (n cap:Nat) (v m:Int):Value:= .agg #[I_ h,S_ A n cap,I_ v,I_ m]
theorem iP_ (h:Nat) (A:Option Addr) (n cap:Nat) (v m:Int) (w:World) (hh:h<=4):C_ 194 #[oD h A n cap v m] w (sB ((4 ^ h:Nat):Int) w):=by
 have a:=H_ (fun o:Obj=>(aI (w) w).alloc (aQ _) o)
 match h,hh with
 | 0,_=>
  go_enter func194,ntmps194;go_wp2;go_ret;exact ⟨rfl,a.out _⟩
 | 1,_=>
  go_enter func194,ntmps194;go_wp2;go_ret;exact ⟨rfl,a.out _⟩
 | 2,_=>
  go_enter func194,ntmps194;go_wp2;go_ret;exact ⟨rfl,a.out _⟩
 | 3,_=>
  go_enter func194,ntmps194;go_wp2;go_ret;exact ⟨rfl,a.out _⟩
 | 4,_=>
  go_enter func194,ntmps194;go_wp2;go_ret;exact ⟨rfl,a.out _⟩
 | h+5,hh=>omega
def dH (m:Int):Bool:=decide (m=1\/m=2\/m=4)
theorem ix_ (m:Int) (w:World):C_ 192 #[I_ m] w fun e w'=>e = .returned (.bool (dH m))/\w=w':=by
  by_cases h1:m=1
  ·subst h1;go_enter func192,ntmps192;go_wp2;go_ret;exact ⟨rfl,rfl⟩
  ·have c:(m == 1)=false:=beq_eq_false_iff_ne.2 h1
   by_cases h2:m=2
   ·subst h2;go_enter func192,ntmps192;go_wp2;go_ret;exact ⟨rfl,rfl⟩
   ·have d:(m == 2)=false:=beq_eq_false_iff_ne.2 h2
    by_cases a:m=4
    ·subst a;go_enter func192,ntmps192;go_wp2;go_ret;exact ⟨rfl,rfl⟩
    ·have f:(m == 4)=false:=beq_eq_false_iff_ne.2 a;have b:=H_ (show dH m=false from dF O_);go_enter func192,ntmps192;go_wp2;go_ret;exact ⟨A_ b.symm,rfl⟩
theorem jU_ (m:Int) (w:World):C_ 226 #[I_ m] w fun e w'=>e = .returned (.bool (dH m))/\w=w':=by
  by_cases h1:m=1
  ·subst h1;go_enter func226,ntmps226;go_wp2;go_ret;exact ⟨rfl,rfl⟩
  ·have c:(m == 1)=false:=beq_eq_false_iff_ne.2 h1
   by_cases h2:m=2
   ·subst h2;go_enter func226,ntmps226;go_wp2;go_ret;exact ⟨rfl,rfl⟩
   ·have d:(m == 2)=false:=beq_eq_false_iff_ne.2 h2
    by_cases a:m=4
    ·subst a;go_enter func226,ntmps226;go_wp2;go_ret;exact ⟨rfl,rfl⟩
    ·have f:(m == 4)=false:=beq_eq_false_iff_ne.2 a;have b:=H_ (show dH m=false from dF O_);go_enter func226,ntmps226;go_wp2;go_ret;exact ⟨A_ b.symm,rfl⟩
theorem gQ (h:Nat) (w:World) (hh:h<=4):C_ 205 #[I_ h] w fun e w'=>e = .returned (I_ ((4 ^ h:Nat):Int))/\w=w':=by
 go_enter func205,ntmps205;go_wp2
 go_loopw [3,4] (fun s3 s4 wx=>∃k:Nat,k<=h/\s4 = I_ k/\s3 = I_ ((4 ^ k:Nat):Int)/\w=wx) (fun _ s4 _=>h - (intOf s4).toNat)
 case atStart=>exact ⟨0,O_,rfl,rfl,by first | rfl | trivial⟩
 case round=>
  obtain ⟨k,g,rfl,rfl,rfl⟩:=hrel;have c:=H_ (show ((4 ^ (k+1):Nat):Int)=((4 ^ k:Nat):Int)*4 by rw [Nat.pow_succ];omega);have b:4 ^ k<=4 ^ 4:=Nat.pow_le_pow_right O_ O_;obtain ⟨p,a⟩:∃p,4 ^ k=p:=⟨_,rfl⟩;rw [a] at c b ⊢;have d:=H_ a;clear a
  by_cases f:k<h
  ·have i:(k:Int)<(h:Int):=O_
   have j:=fA (x:=(p:Int)*4) O_;go_wp2;go_roundw
   case rel=>exact ⟨k+1,O_,by go_num,by rw [c.out],by first | rfl | trivial⟩
   case measure=>exact bH
  ·obtain rfl:k=h:=O_
   go_wp2;go_ret
   exact ⟨by rw [d.out];rfl,rfl⟩
theorem rT (i:Nat) (w:World) (hi:i<256):C_ 203 #[I_ i] w fun e w'=>e = .returned (I_ (hf i))/\w=w':=by
 have g:=gQ 0;have j:=gQ 1;have l:=gQ 2;have m:=gQ 3;have n:=gQ 4;have d:(i<1/\hf i=0)\/(1<=i/\i<4/\hf i=1)\/(4<=i/\i<16/\hf i=2)\/(16<=i/\i<64/\hf i=3)\/(64<=i/\hf i=4):=by unfold hf;(repeat' split) <;> omega
 go_enter func203,ntmps203;go_wp2
 go_loopw [3] (fun s3 wx=>∃k:Nat,k<=hf i/\s3 = I_ k/\w=wx) (fun s3 _=>hf i - (intOf s3).toNat)
 case atStart=>exact ⟨0,O_,rfl,by first | rfl | trivial⟩
 case round=>
  obtain ⟨k,q,rfl,rfl⟩:=hrel;have c:k<=4:=O_
  have b:=gQ k w c;have a:(k<hf i->4 ^ k<=i)/\(k=hf i->i<4 ^ k):=by
   match k,c with
   | 0,_=>omega
   | 1,_=>omega
   | 2,_=>omega
   | 3,_=>omega
   | 4,_=>omega
   | k+5,h=>omega
  generalize 4 ^ k=p at b a;clear g j l m n d
  by_cases f:k<hf i
  ·have o:(p:Int)<=(i:Int):=by have:=a.1 f;omega
   clear a
   go_wp2_with (go_at_call 205;(with_reducible refine CM b ?_);rintro e w1 ⟨rfl,rfl⟩)
   go_roundw
   case rel=>exact ⟨k+1,O_,by go_num,by first | rfl | trivial⟩
   case measure=>exact bH
  ·obtain rfl:k=hf i:=O_
   have o:¬(p:Int)<=(i:Int):=by have:=a.2 rfl;omega
   clear a
   go_wp2_with (go_at_call 205;(with_reducible refine CM b ?_);rintro e w1 ⟨rfl,rfl⟩)
   go_ret;exact ⟨rfl,rfl⟩
theorem bl_ (h:t.kids[i]?=some k) (hi:1<=i) (he:k.emB=false):gS t=true:=by
 unfold gS eB;rw [List.any_eq_true];refine ⟨k,fF (i:=i - 1) ?_,by rw [he];rfl⟩;rw [List.getElem?_drop,show 1+(i - 1)=i by omega];exact h
theorem c2_ {t:T} (h:∀i k,1<=i->t.kids[i]?=some k->k.emB=true):gS t=false:=by
 unfold gS eB;rw [List.any_eq_false];intro k hk;obtain ⟨i,hi⟩:=List.getElem?_of_mem hk;rw [List.getElem?_drop] at hi;rw [h _ k O_ hi];simp
theorem ex_ (t:T) (cap:Nat) (hm:t.kids.length<=maxLen) (hcap:t.kids.length<=cap) (hk:NK w S A t.kids):C_ 214 #[lG A t.kids.length cap t.val t.marks] w (cP (gS t) w):=by
 unfold maxLen at hm;have s:=H_ ((aI (w) w).alloc (aQ _) (.cells #[S_ A t.kids.length cap,I_ t.val,I_ t.marks] 56));have c:=H_ (g_ w (.cells #[S_ A t.kids.length cap,I_ t.val,I_ t.marks] 56));have O:=H_ (fun w' (hb:q_ w w')=>hk.step hb);have K:=H_ (fun i k (h:t.kids[i]?=some k)=>bl_ h);have M:=H_ (c2_ (t:=t));clear hk;generalize t.marks=m at c s ⊢;generalize t.val=v at c s ⊢;generalize gS t=y at K M ⊢;generalize t.kids=l at *;obtain ⟨C,d⟩:=aZ w.heap.size;rw [<-d] at c;have u:=H_ d;clear d;go_enter func214,ntmps214
 go_upto_region 0 with fail
 go_cut [1] (fun s1 wx=>s1 = P_ C/\aW wx C #[S_ A l.length cap,I_ v,I_ m] 56/\q_ w wx)
 case first=>
  go_wp2;go_meet
  case rel=>exact ⟨by rw [u.out],c.out,s.out⟩
 case rest=>
  clear c s;obtain ⟨rfl,r,q⟩:=hcut;have c:=H_ r;have n:=H_ q;clear r q;go_wp2
  go_loopw [3] (fun s3 wx=>∃i:Nat,1<=i/\(i<=l.length\/i=1)/\s3 = I_ i/\(∀j k,1<=j->j<i->l[j]?=some k->k.emB=true)/\aW wx C #[S_ A l.length cap,I_ v,I_ m] 56/\q_ w wx) (fun s3 _=>l.length - (intOf s3).toNat)
  case atStart=>exact ⟨1,O_,.inr rfl,rfl,fun j k h1 h2=>by omega,c.out,n.out⟩
  case round=>
   clear c n;obtain ⟨i,E,Q,rfl,g,r,q⟩:=hrel;obtain ⟨c,n,J⟩:=eT r q g;clear r q g;obtain ⟨x0,x1,x2⟩:=cL c.out
   by_cases I:i<l.length
   ·have p:=O _ n;obtain ⟨b,o,k,A',cap',rfl,_,P,N,D,H,F,G⟩:=p.at_ I;obtain ⟨c0,c1,c2⟩:=D;have L:=H_ N;have a:=fun w=>fK A' k.kids.length cap' k.val k.marks w;rw [show rP k.kids.length k.val k.marks=k.emB from rfl] at a;have V:(0:Int)<=(i:Int):=O_
    have U:(i:Int)<(l.length:Int):=O_
    have W:(i:Int)<(cap:Int):=O_
    have X:(i:Int)<=(cap:Int):=O_
    generalize k.kids.length=kn at a c0 H F;generalize k.marks=Y at a c2;generalize k.val=Z at a c1;clear p N G
    cases hek:k.emB with
    | false=>
     have B:=H_ (K i k L E hek);rw [hek] at a;clear hek
     go_wp2_with (go_at_call 217;(with_reducible refine CM (a _) ?_);rintro e w1 ⟨rfl,f⟩)
     go_ret;exact ⟨A_ B.symm,d_ n f⟩
    | true=>
     have z:=H_ hek;rw [hek] at a;clear hek
     go_wp2_with (go_at_call 217;(with_reducible refine CM (a _) ?_);rintro e w1 ⟨rfl,f⟩)
     go_roundw
     case rel=>
      refine ⟨i+1,O_,.inl O_,by go_num,fun j x h1 h2 h3=>?_,i_ c.out f,d_ n.out f⟩
      by_cases R:j=i
      ·subst R;have:=L.out;rw [this] at h3;injection h3 with h3
       rw [<-h3];exact z
      ·exact J.out j x h1 O_ h3
     case measure=>exact bH
   ·have B:=H_ (M fun j k h1 h2=>J j k h1 (by have:=bK h2;omega) h2);have U:¬(i:Int)<(l.length:Int):=O_
    go_wp2;go_ret
    exact ⟨A_ B.symm,n⟩
end
section
structure cF_ where
 r:Array Obj
 d:Nat
instance:Inhabited cF_:=⟨⟨#[],0⟩⟩
def ext (W:World) (z:cF_):World:={W with heap:=W.heap ++ z.r,drawn:=z.d}
theorem mV (W:World) (z:cF_) (b:Nat) (h:b<W):(ext W z).heap[b]?=W.heap[b]?:=by simp [ext,Array.getElem?_append,h]
theorem aG (W:World):∀z b o,b<W.heap.size->(ext W z).cell? ⟨b,o,none⟩=W.cell? ⟨b,o,none⟩:=by
 intro z b o h;simp [World.cell?,mV W z b h]
theorem xZ (h:q_ W w'):∃z,w'=ext W z:=by
 refine ⟨⟨w'.heap.extract (W) (w'),w'.drawn⟩,?_⟩;have e:w'.heap=W.heap ++ w'.heap.extract (W) w'.heap.size:=by
  apply Array.ext_getElem?;intro i
  by_cases a:i<W
  ·rw [h.block i a,Array.getElem?_append,if_pos a]
  ·rw [Array.getElem?_append,if_neg a,Array.getElem?_extract]
   by_cases b:i<w'
   ·rw [if_pos O_,show W.heap.size+(i - W.heap.size)=i from by omega]
   ·rw [if_neg O_,Array.getElem?_eq_none O_]
 unfold ext;rw [<-e,<-h.os,<-h.tape,<-h.output]
theorem n_ (W:World) (z:cF_):q_ W (ext W z):=
 ⟨rfl,rfl,rfl,by simp [ext],fun k hk=>mV W z k hk⟩
theorem aB {f:FuncId} {z:cF_} {v:Value}
  (h:Calls P f args (ext W z) fun e w'=>e = .returned v/\Below (ext W z).heap.size (ext W z) w') :
  Calls P f args (ext W z) fun e w''=>e = .returned v/\∃z',w''=ext W z':=
 h.mono fun _ _ ⟨he,hb⟩=>⟨he,xZ (d_ (n_ W z) hb)⟩
theorem ek_ {f:FuncId} {z:cF_} {v:Value}
  (h:Calls P f args (ext W z) fun e w'=>e = .returned v/\ext W z=w') :
  Calls P f args (ext W z) fun e w''=>e = .returned v/\∃z',w''=ext W z':=
 h.mono fun _ _ ⟨he,hb⟩=>⟨he,z,hb.symm⟩
theorem cZ_ (W:World):∃z,{W with drawn:=W.drawn+1}=ext W z:=⟨⟨#[],W.drawn+1⟩,by simp [ext]⟩
theorem y_ {id:Nat} {Q:Exit->Act->World->Prop} {a:Act} {l:List Oper} (hm:P.follows .mixedOrders=true) (hB:Region.lexB .any l.toArray=true)
  (h:wpQuiet P l.toArray (fun w'=>∃z,w'=ext W z) (fun a'=>∀w',(∃z,w'=ext W z)->Q .normal a' w') l a):(Code.region id l.toArray true).wp P Q a W:=
 wp_region_quiet (C:=fun w'=>∃z,w'=ext W z) hm hB (cZ_ W) (by simpa using h)
end
section
theorem qG (hI:Int) (t:T) (cap:Nat) (hm:t.kids.length<=maxLen) (hcap:t.kids.length<=cap) (hk:NK w S A t.kids) :
  C_ 181 #[oD hI A t.kids.length cap t.val t.marks] w (cP (dI hI t) w):=by
 have j:=H_ ((aI (w) w).alloc (aQ _) (.cells #[I_ hI,S_ A t.kids.length cap,I_ t.val,I_ t.marks] 58))
 by_cases h0:0<=hI
 ·by_cases o:hI<=4
  ·obtain ⟨h,rfl⟩:=sG h0;have i:=fun w' (hb:q_ w w')=>g2_ h t A cap S w' O_ hcap (hk.step hb);have g:=fun w' (hb:q_ w w')=>ex_ t cap hm hcap (hk.step hb);have d:=H_ (show dI h t=(bO h t&&(decide ((h:Int)=0)||gS t)) by unfold dI;rw [dT (show 0<=(h:Int)/\(h:Int)<=4 by omega),Int.toNat_natCast];rfl)
   cases hrt:bO h t with
   | false=>
    rw [hrt] at d i;clear hrt;go_enter func181,ntmps181
    go_wp2_with (first | (go_at_call 213;(with_reducible refine CM (i _ (B_.alloc (aQ _) _)) ?_);rintro e w1 ⟨rfl,a⟩;have c:=H_ (i_ (g_ w _) a);obtain ⟨x0,k,l,m⟩:=iH c.out;have b:=H_ (d_ (b_ (aI (w) w) _) a);clear a) | (go_at_call 214;(with_reducible refine CM (g _ b.out) ?_);rintro e w2 ⟨rfl,f⟩))
    go_ret;exact ⟨A_ (by rw [d.out];rfl),b.out⟩
   | true=>
    rw [hrt] at d i;clear hrt
    rcases h with _ | h
    ·go_enter func181,ntmps181
     go_wp2_with (first | (go_at_call 213;(with_reducible refine CM (i _ (B_.alloc (aQ _) _)) ?_);rintro e w1 ⟨rfl,a⟩;have c:=H_ (i_ (g_ w _) a);obtain ⟨x0,k,l,m⟩:=iH c.out;have b:=H_ (d_ (b_ (aI (w) w) _) a);clear a) | (go_at_call 214;(with_reducible refine CM (g _ b.out) ?_);rintro e w2 ⟨rfl,f⟩))
     go_ret;exact ⟨A_ (by rw [d.out];simp),b.out⟩
    ·rw [show ((h+1:Nat):Int)=(h:Int)+1 by omega] at i d ⊢;have p:((h:Int)+1 == 0)=false:=beq_eq_false_iff_ne.2 O_;have n:=H_ (show decide ((h:Int)+1=0)=false from dF O_);go_enter func181,ntmps181
     go_wp2_with (first | (go_at_call 213;(with_reducible refine CM (i _ (B_.alloc (aQ _) _)) ?_);rintro e w1 ⟨rfl,a⟩;have c:=H_ (i_ (g_ w _) a);obtain ⟨x0,k,l,m⟩:=iH c.out;have b:=H_ (d_ (b_ (aI (w) w) _) a);clear a) | (go_at_call 214;(with_reducible refine CM (g _ b.out) ?_);rintro e w2 ⟨rfl,f⟩))
     go_ret;exact ⟨A_ (by rw [d.out,n.out];rfl),d_ b.out f⟩
  ·have d:=H_ (show dI hI t=false by unfold dI;rw [dF O_];rfl);go_enter func181,ntmps181;go_wp2;go_ret;exact ⟨A_ d.symm,j⟩
 ·have d:=H_ (show dI hI t=false by unfold dI;rw [dF O_];rfl);go_enter func181,ntmps181;go_wp2;go_ret;exact ⟨A_ d.symm,j⟩
theorem ai_ {i h:Nat} (hi:i<256) (hh:h<=4):hf i<=h↔i<4 ^ h:=by
 unfold hf
 match h,hh with
 | 0,_=>(repeat' split) <;> omega
 | 1,_=>(repeat' split) <;> omega
 | 2,_=>(repeat' split) <;> omega
 | 3,_=>(repeat' split) <;> omega
 | 4,_=>(repeat' split) <;> omega
 | h+5,hh=>omega
def bas (i h:Nat):Nat:=i / 4 ^ h*4 ^ h
theorem ia_ (i h:Nat):bas i h+i % 4 ^ h=i:=by unfold bas;rw [Nat.mul_comm];exact Nat.div_add_mod i (4 ^ h)
theorem dW_ (i h:Nat):bas i (h+1)+i / 4 ^ h % 4*4 ^ h=bas i h:=by
 unfold bas;rw [Nat.pow_succ,<-Nat.div_div_eq_div_mul];have:=Nat.div_add_mod (i / 4 ^ h) 4;generalize i / 4 ^ h=q at this ⊢;rw [show q / 4*(4 ^ h*4)=q / 4*4*4 ^ h by rw [Nat.mul_assoc,Nat.mul_comm (4 ^ h) 4],<-Nat.add_mul]
 congr 1
 omega
theorem dX_ (i:Nat):bas i 0=i:=by simp [bas]
theorem f4_ (hi:i<4 ^ h):bas i h=0:=by unfold bas;rw [Nat.div_eq_of_lt hi,Nat.zero_mul]
def eZ (c:Cn) (i h:Nat):T:=f_ h (sh c (bas i h))
theorem rJ (c:Cn) (i:Nat):eZ c i 0 = .mk [] (c i).1 (c i).2:=by
 unfold eZ;rw [dX_];simp [f_,sh]
theorem fp_ {c:Cn} (he:(eZ c i (h+1)).emB=false):(eZ c i (h+1)).kids.length=4/\(eZ c i (h+1)).kids[i / 4 ^ h % 4]?=some (eZ c i h):=by
 unfold eZ at he ⊢;rw [cH] at he;rw [bE,he,if_neg z_];refine ⟨Q_ _ _,?_⟩
 show (N_ h _)[_]?=_
 rw [dN (Nat.mod_lt _ O_),hN_,dW_]
theorem ha_ {c:Cn} (he:(eZ c i h).emB=true):c i=(0,0)/\eZ c i h = .nil:=by
 unfold eZ at he ⊢;have hn:=he;rw [cH] at hn;refine ⟨?_,dL hn⟩;have:=aU.1 hn (i % 4 ^ h) (Nat.mod_lt _ (Nat.pow_pos O_));simp only[sh] at this;rw [ia_] at this;exact this
theorem vB {c:Cn} (hi:i<4 ^ h):eZ c i h=f_ h c:=by unfold eZ;rw [f4_ hi,qB]
theorem co_ {w:World} {b i h:Nat} (hi:i<256) (hb:w.heap[b]?=some (.cells #[I_ ((i / 4 / 4 / 4 % 4:Nat):Int),I_ ((i / 4 / 4 % 4:Nat):Int),I_ ((i / 4 % 4:Nat):Int),I_ ((i % 4:Nat):Int)] 249 (0,0))) (h4:h<4) :
  w.cell? ⟨b,4 - (h+1),none⟩=some (I_ ((i / 4 ^ h % 4:Nat):Int)):=by
 rw [a_ hb]
 match h,h4 with
 | 0,_=>simp
 | 1,_=>simp
 | 2,_=>simp [Nat.div_div_eq_div_mul]
 | 3,_=>simp [Nat.div_div_eq_div_mul]
theorem V_:(prog.info? 56).map (·.size)=some 3:=by kernel_rfl
theorem cZ {fn:Func} {p:Tmp} (h:fn.results=#[.cell p 56]) {tmps:Array Value} {t:TypeId} {a b c:Value} {fr:Nat × Nat}
  (hp:tmps.getD p undef = P_ g) (hg:w.heap[g]?=some (.cells #[a,b,c] t fr)):(results fn tmps).run prog w = .ok (.agg #[a,b,c]) w:=
 results_cell_row h tmps w g t _ fr _ hp hg underlying56 rfl V_
theorem j_ {B g:Nat} (hb:Below B w0 w) (hBg:B<=g) (cs:Array Value):Below B w0 (w.setRow g cs):=
 hb.trans ⟨rfl,rfl,rfl,by simp [World.setRow],fun k hk=>setRow_other w g k cs O_⟩
theorem aN {cap:Nat}:(#[Value.slice A n cap,I_ v,I_ m]:Array Value).all (·.oneCell')=true:=by simp [Value.oneCell']
theorem en_ {c:Cn} (cap:Nat) (i:Nat) (hi:i<256) (ht:X_ h c) (hcap:(f_ h c).kids.length<=cap) (hk:NK w S A (f_ h c).kids) :
  C_ 183 #[oD h A (f_ h c).kids.length cap (f_ h c).val (f_ h c).marks,I_ i] w fun e w'=>∃A' cap',e = .returned (lG A' 0 cap' (c i).1 (c i).2)/\q_ w w':=by
 have h4:=ht.1;have hr:=fun w=>cv_ i w hi;have hh:=fun w=>ah_ i w hi;have a7:=H_ (ai_ hi h4);have a6:=H_ (fun (I:¬hf i<=h)=>ht.2.1 i (by have:=(ai_ hi h4).2;omega));have a1:=H_ (fun w b h hb h4=>co_ (w:=w) (b:=b) (h:=h) hi hb h4);have af:=H_ (fun w' (hb:q_ w w')=>hk.step hb);obtain ⟨n,hn⟩:∃n,(f_ h c).kids.length=n:=⟨_,rfl⟩;obtain ⟨v,hv⟩:∃v,(f_ h c).val=v:=⟨_,rfl⟩;obtain ⟨m,hm⟩:∃m,(f_ h c).marks=m:=⟨_,rfl⟩;rw [hn] at hcap;rw [hn,hv,hm];obtain ⟨Hn,Hv,Hm⟩:=eT hn hv hm;clear hn hv hm hk ht;have HB:=H_ (((aI (w) w).alloc (aQ _) (.cells #[I_ h,S_ A n cap,I_ v,I_ m] 58)).alloc z_ (.cells #[S_ none 0 0,I_ 0,I_ 0] 56));have D:=H_ (m_ (g_ w (.cells #[I_ h,S_ A n cap,I_ v,I_ m] 58)) (.cells #[S_ none 0 0,I_ 0,I_ 0] 56));have g:=H_ (l_ (w.alloc (.cells #[I_ h,S_ A n cap,I_ v,I_ m] 58)) (.cells #[S_ none 0 0,I_ 0,I_ 0] 56) (w+1) z_);obtain ⟨s,a2⟩:=aZ w.heap.size;rw [<-a2] at D g;have y:=H_ a2;clear a2;unfold pQ at hr hh;go_enter func183,ntmps183
 go_upto_region 0 with fail
 go_cut [2,4] (fun s2 s4 wx=>s2 = P_ s/\s4 = P_ (s+1)/\aW wx s #[I_ h,S_ A n cap,I_ v,I_ m] 58/\aW wx (s+1) #[S_ none 0 0,I_ 0,I_ 0] 56/\q_ w wx)
 case first=>
  go_wp2;go_meet
  case rel=>exact ⟨by rw [y.out],by rw [y.out],D.out,g.out,HB.out⟩
 case rest=>
  obtain ⟨rfl,rfl,G,H,F⟩:=hcut;clear D g HB;obtain ⟨D,g,u⟩:=eT G H F;clear G H F
  go_upto_region 1 with fail
  go_cut [5] (fun s5 wx=>∃b5,s5 = P_ b5/\aW wx b5 #[I_ ((i / 4 / 4 / 4 % 4:Nat):Int),I_ ((i / 4 / 4 % 4:Nat):Int),I_ ((i / 4 % 4:Nat):Int),I_ ((i % 4:Nat):Int)] 249/\aW wx s #[I_ h,S_ A n cap,I_ v,I_ m] 58/\aW wx (s+1) #[S_ none 0 0,I_ 0,I_ 0] 56/\q_ w wx)
  case first=>
   go_wp2_with (go_at_call 215;(with_reducible refine CM (hr _) ?_);rintro e w1 ⟨rfl,r⟩)
   go_meet
   case rel=>exact ⟨_,rfl,heap_alloc_new _ _,m_ (i_ D r) _,m_ (i_ g r) _,b_ (d_ u r) _⟩
  case rest=>
   clear D g u hr;obtain ⟨b5,rfl,C,G,H,F⟩:=hcut;obtain ⟨W,ag⟩:=aZ wc;subst ag;obtain ⟨D,g,u,Q⟩:=sP G H F C;have lX:=p_ G;have lP:=p_ C;have x0:=a_ G 0;have p0:=a_ C 0;have p1:=a_ C 1;have p2:=a_ C 2;have p3:=a_ C 3;simp only[zl] at x0 p0 p1 p2 p3;have xe:=aG W;clear G H F C
   go_upto_region 2 with fail
   go_cut [14] (fun s14 wx=>s14 = .bool (decide (h<hf i))/\∃z,wx=ext W z)
   case first=>
    refine y_ s_ s_ ?_
    (refine wpQuiet_step (fun K q=>?_);go_simp;(with_reducible refine q _ ?_);clear q K)
    (refine wpQuiet_step (fun K q=>?_);go_simp;apply Exists.intro;refine ⟨fun _=>?_,q _ ?_⟩;(exact aB (hh _));clear q K)
    (refine wpQuiet_step (fun K q=>?_);go_simp;(with_reducible refine q _ ?_);clear q K)
    (refine wpQuiet_step (fun K q=>?_);go_simp;(with_reducible refine q _ ?_);clear q K)
    (refine wpQuiet_step (fun K q=>?_);go_simp;(with_reducible refine q _ ?_);clear q K)
    refine wpQuiet_nil ?_;rintro w' ⟨z,rfl⟩;go_wp2;go_meet
    case rel=>exact ⟨rfl,z,rfl⟩
   case rest=>
    obtain ⟨rfl,z,rfl⟩:=hcut;have a5:=n_ W z;obtain ⟨N,l,t,f⟩:=iC D g Q u a5;clear D g Q u x0 p0 p1 p2 p3 lX lP xe;generalize ext W z=U at a5 N l t f ⊢;clear a5 hh;obtain ⟨x0,X,Y,x3⟩:=iH N.out
    by_cases I:hf i<=h
    ·have hd:decide (h<hf i)=false:=dF O_;have J:=H_ (a7.out.1 I);clear I;rw [hd]
     go_upto_region 4 with fail
     go_cut [6] (fun s6 wx=>∃b6,s6 = P_ b6/\s+1<b6/\b5<b6/\aW wx b6 #[S_ A n cap,I_ v,I_ m] 56/\aW wx b5 #[I_ ((i / 4 / 4 / 4 % 4:Nat):Int),I_ ((i / 4 / 4 % 4:Nat):Int),I_ ((i / 4 % 4:Nat):Int),I_ ((i % 4:Nat):Int)] 249/\aW wx s #[I_ h,S_ A n cap,I_ v,I_ m] 58/\aW wx (s+1) #[S_ none 0 0,I_ 0,I_ 0] 56/\q_ w wx)
     case first=>
      have lY:=p_ l;have lP:=p_ t;go_wp2;go_meet
      case rel=>exact ⟨_,rfl,lY,lP,heap_alloc_new _ _,m_ t _,m_ N _,m_ l _,b_ f _⟩
     case rest=>
      clear N l t f x0 X Y x3 hd;obtain ⟨b6,rfl,l6,l5,hN,C,G,H,F⟩:=hcut;obtain ⟨x0,X,Y,x3⟩:=iH G;obtain ⟨B,D,g,Q,u⟩:=h5_ hN G H C F;clear hN C G H F;go_wp2;clear x0 X Y x3
      go_loopw [7] (fun s7 wx=>∃(k:Nat) (A':Option Addr) (cap':Nat),k<=h/\s7 = I_ k/\aW wx b6 #[S_ A' (eZ c i k).kids.length cap',I_ (eZ c i k).val,I_ (eZ c i k).marks] 56/\(eZ c i k).kids.length<=cap'/\NK w S A' (eZ c i k).kids/\aW wx b5 #[I_ ((i / 4 / 4 / 4 % 4:Nat):Int),I_ ((i / 4 / 4 % 4:Nat):Int),I_ ((i / 4 % 4:Nat):Int),I_ ((i % 4:Nat):Int)] 249/\aW wx (s+1) #[S_ none 0 0,I_ 0,I_ 0] 56/\q_ w wx) (fun s7 _=>(intOf s7).toNat)
      case atStart=>exact ⟨h,A,cap,aQ _,rfl,by rw [vB J.out,Hn.out,Hv.out,Hm.out];exact B.out,by rw [vB J.out,Hn.out];exact hcap,by rw [vB J.out];exact af _ B_,Q,g,u⟩
      case round=>
       clear B D g Q u a6 a7 Hn Hv Hm hcap J;obtain ⟨k,A',cap',ai,rfl,hN,hcap,O,C,H,F⟩:=hrel;have a:=fun w=>fK A' (eZ c i k).kids.length cap' (eZ c i k).val (eZ c i k).marks w;rw [show rP (eZ c i k).kids.length (eZ c i k).val (eZ c i k).marks=(eZ c i k).emB from rfl] at a;obtain ⟨B,g,Q,u⟩:=sP hN H C F;clear hN C H F;have lW:=u.size
       rcases k with _ | k
       ·have e1:(eZ c i 0).kids.length=0:=by rw [rJ];rfl
        have e2:(eZ c i 0).val=(c i).1:=by rw [rJ];rfl
        have e3:(eZ c i 0).marks=(c i).2:=by rw [rJ];rfl
        rw [e1,e2,e3] at B;clear e1 e2 e3 a O hcap;obtain ⟨x0,X,Y⟩:=cL B.out
        go_wp2_with (refine cV rfl 56 (.tmp 4) (.tmp 37) rfl rfl (s+1) #[S_ A' 0 cap',I_ (c i).1,I_ (c i).2] rfl rfl 56 _ (g) V_ rfl (aN) ?_)
        show bodyPost prog f183 _ _ _ _
        refine bodyPost_ret (cZ rfl rfl (setRow_heap _ _ _ _ _ _ g)) rfl ⟨A',cap',rfl,?_⟩;exact j_ u.out (by rw [y.out];omega) _
       ·have hz:((k:Int)+1 == 0)=false:=beq_eq_false_iff_ne.2 O_;have aj:(0:Int)<(k:Int)+1:=O_
        cases hem:(eZ c i (k+1)).emB with
        | true=>
         have ⟨hc,hnil⟩:=ha_ hem;rw [hem] at a;rw [hnil] at B a;have HC:=H_ hc;clear hnil hcap O hc hem;have e1:T.nil.kids.length=0:=rfl;have e2:T.nil.val=0:=rfl;have e3:T.nil.marks=0:=rfl;rw [e1,e2,e3] at B a;clear e1 e2 e3;obtain ⟨x0,X,Y⟩:=cL B.out
         go_wp2_with (first
          | (go_at_call 217;(with_reducible refine CM (a _) ?_);rintro e w1 ⟨rfl,r⟩;obtain ⟨L,E,M⟩:=bN B g u r;obtain ⟨z0,z1,z2⟩:=cL L.out)
          | (refine cV rfl 56 (.tmp 4) (.tmp 37) rfl rfl (s+1) #[S_ A' 0 cap',I_ 0,I_ 0] rfl rfl 56 _ (E) V_ rfl (aN) ?_))
         show bodyPost prog f183 _ _ _ _
         refine bodyPost_ret (cZ rfl rfl (setRow_heap _ _ _ _ _ _ E.out)) rfl ⟨A',cap',by rw [HC.out],?_⟩;exact j_ M.out (by rw [y.out];omega) _
        | false=>
         have ⟨hl4,hkid⟩:=fp_ hem;rw [hem] at a;rw [hl4] at B a hcap;have ac:i / 4 ^ k % 4<4:=Nat.mod_lt _ O_;obtain ⟨b,o,kk,A2,R,rfl,_,a4,P,ab,ah,ad,V⟩:=O.at_ (show i / 4 ^ k % 4<_ by rw [hl4];exact ac);rw [hkid] at P;injection P with P
         subst P;have a8:=H_ ab;have a9:=H_ V;have a0:=H_ (fun w' hb=>a1.out w' b5 k hb O_);have q1:i64.wrap (4 - ((k:Int)+1))=((4 - (k+1):Nat):Int):=by rw [fA O_];omega
         have q2:((4 - (k+1):Nat):Int)<4:=O_
         have q3:(0:Int)<=((4 - (k+1):Nat):Int):=O_
         have q4:=fA (x:=(k:Int)) O_;have ae:=H_ ad;clear hkid hem O ab V ah ad hl4;generalize 4 - (k+1)=j at a0 q1 q2 q3;obtain ⟨d,hd⟩:∃d,i / 4 ^ k % 4=d:=⟨_,rfl⟩;rw [hd] at a0 ac a8;have d1:(d:Int)<4:=O_
         have d2:(d:Int)<(cap':Int):=O_
         have d3:(0:Int)<=(d:Int):=O_
         clear hd;obtain ⟨x0,X,Y⟩:=cL B.out
         go_upto_region 8 with (go_at_call 217;(with_reducible refine CM (a _) ?_);rintro e w1 ⟨rfl,r⟩;obtain ⟨L,E,aa,M⟩:=iC B g Q u r)
         clear B g Q u x0 X Y r a;refine wp_region_still_tail 8 s_ s_ ?_;simp only[vK]
         change wpStill _ _ (World.drew _) (fun a'=>wpList _ _ _ _ a' (World.drew _)) _ _
         generalize hG:World.drew _=W2;have a3:=(aI (w1) w1).drew;rw [hG] at a3;obtain ⟨Z,l,t,f⟩:=iC L E aa M a3;clear L E aa M hG a3;obtain ⟨x0,X,Y⟩:=cL Z.out;have pa:=a0 W2 t;obtain ⟨c0,c1,c2⟩:=a8.out;have c0:=(f.cell (p:=⟨b,_,none⟩) a4).trans c0;have c1:=(f.cell (p:=⟨b,_,none⟩) a4).trans c1;have c2:=(f.cell (p:=⟨b,_,none⟩) a4).trans c2
         iterate 8 (refine wpStill_step (fun K q=>?_);go_simp;(with_reducible refine q _ ?_);clear q K)
         refine wpStill_nil ?_
         go_wp2_with (refine cV rfl 56 (.tmp 6) (.tmp 36) rfl rfl (b6) #[S_ A2 (eZ c i k).kids.length R,I_ (eZ c i k).val,I_ (eZ c i k).marks] rfl rfl 56 _ (Z) V_ rfl (aN) ?_)
         go_roundw
         case rel=>exact ⟨k,A2,R,O_,by go_num,setRow_heap _ _ _ _ _ _ Z.out,ae.out,a9.out,(setRow_other _ _ _ _ O_).trans t.out,(setRow_other _ _ _ _ O_).trans l.out,j_ f.out (by have:=y.out;omega) _⟩
         case measure=>simp [intOf]
    ·have hd:decide (h<hf i)=true:=dT O_;have HC:=H_ (a6 I);clear I;rw [hd]
     go_wp2_with (refine cV rfl 56 (.tmp 4) (.tmp 15) rfl rfl (s+1) #[S_ none 0 0,I_ 0,I_ 0] rfl rfl 56 _ (l) V_ rfl (aN) ?_)
     show bodyPost prog f183 _ _ _ _
     refine bodyPost_ret (cZ rfl rfl (setRow_heap _ _ _ _ _ _ l.out)) rfl ⟨none,0,by rw [HC.out],?_⟩;exact j_ f.out (by rw [y.out];omega) _
end
section
def vP (A:Option Addr) (cap:Nat) (ks:List T):Value:=if eB ks then lG A 4 cap 0 (kS ks) else lG none 0 0 0 0
theorem uJ (cap:Nat) (S:Nat->Prop) (h4:ks.length=4) (hcap:4<=cap) (hk:NK w S A ks) :
  C_ 224 #[S_ A 4 cap] w (jx_ (vP A cap ks) w):=by
 have P:=H_ (fun w' (hb:q_ w w')=>hk.step hb);have Q:=H_ h4;have R:=H_ (show ks.take 4=ks by rw [<-h4];exact List.take_length);have N:=H_ (((aI (w) w).alloc (aQ _) (.cells #[S_ none 0 0,I_ 0,I_ 0] 56)).alloc z_ (.cells #[S_ A 4 cap,I_ 0,I_ 0] 56));have I:=H_ (m_ (g_ w (.cells #[S_ none 0 0,I_ 0,I_ 0] 56)) (.cells #[S_ A 4 cap,I_ 0,I_ 0] 56));have G:=H_ (l_ (w.alloc (.cells #[S_ none 0 0,I_ 0,I_ 0] 56)) (.cells #[S_ A 4 cap,I_ 0,I_ 0] 56) (w+1) z_);obtain ⟨m,r⟩:=aZ w.heap.size;obtain ⟨t,s⟩:=aZ (m+1);rw [<-r] at I G;rw [<-s] at G;have a:=H_ r;have n:=H_ s;clear r s hk h4;go_enter func224,ntmps224
 go_upto_region 1 with fail
 go_cut [2,3] (fun s2 s3 wx=>s2 = P_ m/\s3 = P_ t/\aW wx t #[S_ A 4 cap,I_ 0,I_ 0] 56/\aW wx m #[S_ none 0 0,I_ 0,I_ 0] 56/\q_ w wx)
 case first=>
  go_wp2;go_meet
  case rel=>exact ⟨by rw [a.out],by rw [n.out,a.out],G.out,I.out,N.out⟩
 case rest=>
  clear I G N;obtain ⟨rfl,rfl,z,C,D⟩:=hcut;obtain ⟨d,g,l⟩:=eT z C D;clear z C D;go_wp2
  go_loopw [4,11] (fun s4 s11 wx=>∃i:Nat,i<=4/\s11 = I_ i/\s4 = .bool (eB (ks.take i))/\aW wx t #[S_ A 4 cap,I_ 0,I_ (kS (ks.take i))] 56/\aW wx m #[S_ none 0 0,I_ 0,I_ 0] 56/\q_ w wx) (fun _ s11 _=>4 - (intOf s11).toNat)
  case atStart=>exact ⟨0,O_,rfl,rfl,d.out,g.out,l.out⟩
  case round=>
   clear d g l;obtain ⟨i,V,rfl,rfl,z,C,D⟩:=hrel;obtain ⟨d,g,l⟩:=eT z C D;clear z C D
   by_cases M:i<4
   ·have B:=P _ l;obtain ⟨b,o,k,A',cap',rfl,_,U,K,J,F,E,L⟩:=B.at_ (show i<ks.length by rw [Q.out];exact M);obtain ⟨c0,c1,c2⟩:=J;have f:=H_ (pO K);have j:=H_ (pB K);have c:=fun w=>fK A' k.kids.length cap' k.val k.marks w;rw [show rP k.kids.length k.val k.marks=k.emB from rfl] at c;have i0:(0:Int)<=(i:Int):=O_
    have i1:(i:Int)<4:=O_
    have i2:(i:Int)<(cap:Int):=O_
    have i3:(i:Int)<=(cap:Int):=O_
    generalize k.kids.length=kn at c c0 F E;generalize k.marks=km at c c2 f;generalize k.val=kv at c c1;clear B K L F E;generalize kS (ks.take i)=om at d f;obtain ⟨x0,X,Y⟩:=cL d.out;have Z:=t_ d 2;have l3:=p_ d;have l2:=p_ g;have O:¬t=wr.heap.size:=O_
    have W:=l.size;have u:=H_ (fun o v=>m_ (R_ (i:=2) d v) o);have x:=H_ (fun o v=>m_ (aM g.out ⟨t,2,none⟩ v (by simp only;have:=n.out;omega)) o);have y:=H_ (fun o v=>b_ (l.setCell (p:=⟨t,2,none⟩) (by simp only;have:=n.out;have:=a.out;omega) v) o)
    cases hsm:eB (ks.take i) with
    | true=>
     rw [hsm] at j;clear hsm;go_wp2;go_roundw
     case rel=>exact ⟨i+1,O_,by go_num,by rw [j.out];rfl,by rw [f.out];exact u _ _,x _ _,y _ _⟩
     case measure=>exact bH
    | false=>
     rw [hsm] at j;clear hsm
     go_wp2_with (go_at_call 217;(with_reducible refine CM (c _) ?_);rintro e w1 ⟨rfl,q⟩)
     go_roundw
     case rel=>exact ⟨i+1,O_,by go_num,by rw [j.out];rfl,by rw [f.out];exact i_ (u _ _) q,i_ (x _ _) q,d_ (y _ _) q⟩
     case measure=>exact bH
   ·obtain rfl:i=4:=O_
    rw [R.out] at d ⊢;obtain ⟨x0,X,Y⟩:=cL d.out
    cases hs:eB ks with
    | true=>
     have H:=H_ (show vP A cap ks=lG A 4 cap 0 (kS ks) by unfold vP;rw [hs];rfl);clear hs
     go_wp2_with (refine cV rfl 56 (.tmp 2) (.tmp 31) rfl rfl (m) #[S_ A 4 cap,I_ 0,I_ (kS ks)] rfl rfl 56 _ (g) V_ rfl (aN) ?_)
     show bodyPost prog f224 _ _ _ _
     refine bodyPost_ret (cZ rfl rfl (setRow_heap _ _ _ _ _ _ g.out)) rfl ⟨by rw [H.out],?_⟩;exact j_ l.out (by rw [a.out];omega) _
    | false=>
     have H:=H_ (show vP A cap ks=lG none 0 0 0 0 by unfold vP;rw [hs];rfl);clear hs
     go_wp2_with (refine cV rfl 56 (.tmp 2) (.tmp 30) rfl rfl (m) #[S_ none 0 0,I_ 0,I_ 0] rfl rfl 56 _ (g) V_ rfl (aN) ?_)
     show bodyPost prog f224 _ _ _ _
     refine bodyPost_ret (cZ rfl rfl (setRow_heap _ _ _ _ _ _ g.out)) rfl ⟨by rw [H.out],?_⟩;exact j_ l.out (by rw [a.out];omega) _
end
section
structure St (W:World) (l:List (Nat × Obj)) (w:World):Prop where
 bk:∀g o,(g,o) ∈ l->w.heap[g]?=some o
 below:q_ W w
theorem St.step (h:St W l w) (hb:q_ w w'):St W l w':=⟨fun g o hm=>i_ (h.bk g o hm) hb,d_ h.below hb⟩
theorem St.alloc (h:St W l w) (o:Obj):St W l (w.alloc o):=h.step (B_.alloc (aQ _) _)
theorem St.push (h:St W l w) (o:Obj) (n:Nat) (hn:w.heap.size=n):St W (l ++ [(n,o)]) (w.alloc o):=⟨fun g o' hm=>by
 rcases List.mem_append.1 hm with hm | hm
 ·exact m_ (h.bk g o' hm) _
 ·simp only[mS_,Prod.mk.injEq] at hm;obtain ⟨rfl,rfl⟩:=hm;exact l_ _ _ _ hn,b_ h.below _⟩
theorem St.nil (w:World):St w [] w:=⟨fun g o hm=>by simp at hm,aI _ _⟩
theorem St.le (h:St W l w):W.heap.size<=w.heap.size:=h.below.size
theorem u_ (g:Nat):∀(vs:List Value) (o:Nat) (w:World) (k:Nat),k≠g->(w.setCells g o vs).heap[k]?=w.heap[k]?
 | [],_,_,_,_=>rfl
 | v :: vs,o,w,k,hk=>by
  rw [World.setCells,u_ g vs (o+1) _ k hk];exact jO w ⟨g,o,none⟩ v k hk
theorem eV (g:Nat):∀(vs:List Value) (o:Nat) (w:World),(w.setCells g o vs).os=w.os/\(w.setCells g o vs).tape=w.tape/\(w.setCells g o vs).output=w.output/\(w.setCells g o vs).heap.size=w.heap.size
 | [],_,_=>⟨rfl,rfl,rfl,rfl⟩
 | v :: vs,o,w=>by
  rw [World.setCells];obtain ⟨h1,h2,h3,h4⟩:=eV g vs (o+1) (w.setCell ⟨g,o,none⟩ v);exact ⟨h1.trans rfl,h2.trans rfl,h3.trans rfl,h4.trans (by simp [World.setCell])⟩
theorem aS {B:Nat} (hb:Below B w0 w) (hBg:B<=g) (o:Nat) (vs:List Value):Below B w0 (w.setCells g o vs):=by
 obtain ⟨h1,h2,h3,h4⟩:=eV g vs o w;exact hb.trans ⟨h1,h2,h3,O_,fun k hk=>u_ g vs o w k O_⟩
theorem St.setCells (h:St W l w) (hg:W<=g) (hn:∀k o,(k,o) ∈ l->k≠g) (o:Nat) (vs:List Value):St W l (w.setCells g o vs):=
 ⟨fun k o' hm=>(u_ g vs o w k (hn k o' hm)).trans (h.bk k o' hm),aS h.below hg o vs⟩
def KR (w:World) (g:Nat) (S:Nat->Prop) (f:Nat->T):Prop:=
 w.there g 0 12/\g<w/\∀i,i<4->∃A cap,NC w g (i*3) A (f i).kids.length cap (f i).val (f i).marks/\(f i).kids.length<=maxLen/\(f i).kids.length<=cap/\NK w S A (f i).kids
theorem KR.step (h:KR w g S f) (hb:q_ w w'):KR w' g S f:=by
 obtain ⟨h1,h2,h3⟩:=h;refine ⟨fun j d=>?_,iS h2 hb.size,fun i c=>?_⟩
 ·have:=h1 j d;exact ⟨by rw [hb.cell (p:=⟨g,_,none⟩) h2];exact this.1,by rw [hb.frozen (p:=⟨g,_,none⟩) h2];exact this.2⟩
 ·obtain ⟨A,cap,c1,c2,a,b⟩:=h3 i c;exact ⟨A,cap,c1.block (hb.block g h2),c2,a,b.step hb⟩
theorem KR.congr {f f':Nat->T} (h:KR w g S f) (hf:∀i,i<4->f i=f' i):KR w g S f':=
 ⟨h.1,h.2.1,fun i hi=>by rw [<-hf i hi];exact h.2.2 i hi⟩
theorem KR.set (h:KR w g S f) (hS:¬S g) (hj:j<4) (A:Option Addr) (cap:Nat) (t:T) (h1:t.kids.length<=maxLen) (h2:t.kids.length<=cap) (hk:NK w S A t.kids) :
  KR (w.setCells g (j*3) [S_ A t.kids.length cap,I_ t.val,I_ t.marks]) g S (fun i=>if i=j then t else f i):=by
 obtain ⟨a1,a2,a3⟩:=h;have p:=(eV g [S_ A t.kids.length cap,I_ t.val,I_ t.marks] (j*3) w).2.2.2;have d:∀{A':Option Addr} {ks:List T},NK w S A' ks->NK (w.setCells g (j*3) [S_ A t.kids.length cap,I_ t.val,I_ t.marks]) S A' ks:=fun hk=>hk.kept O_ fun b n _=>u_ g _ _ w b (fun e=>hS (e ▸ n));refine ⟨World.there_setCells a1 _ _ _,O_,fun i o=>?_⟩
 by_cases c:i=j
 ·subst c;simp only[if_true];have a:=World.rangeAt_setCells_same w g (i*3) [S_ A t.kids.length cap,I_ t.val,I_ t.marks] (fun k hk=>by
   have:=a1 (i*3+k) (by simp at hk;omega);rw [Nat.zero_add] at this;exact this)
  exact ⟨A,cap,⟨a 0 _ rfl,a 1 _ rfl,a 2 _ rfl⟩,h1,h2,d hk⟩
 ·simp only[c,if_false];obtain ⟨A',cap',⟨n0,n1,n2⟩,c2,l,m⟩:=a3 i o;have a:=World.rangeAt_setCells_apart (w:=w) (b':=g) (o':=i*3) (cs:=[S_ A' (f i).kids.length cap',I_ (f i).val,I_ (f i).marks]) (fun k v hv=>by
   match k with
   | 0=>simp at hv;rw [<-hv];exact n0
   | 1=>simp at hv;rw [<-hv];exact n1
   | 2=>simp at hv;rw [<-hv];exact n2
   | k+3=>simp at hv) g (j*3) [S_ A t.kids.length cap,I_ t.val,I_ t.marks] (by simp;omega)
  exact ⟨A',cap',⟨a 0 _ rfl,a 1 _ rfl,a 2 _ rfl⟩,c2,l,d m⟩
theorem KR.nk {S S':Nat->Prop} (h:KR w g S f) (hg:S' g) (hS:∀b,S b->S' b):NK w S' (some ⟨g,0,none⟩) ((List.range 4).map f):=by
 obtain ⟨a1,a2,a3⟩:=h;have d:∀i:Nat,∃x:Option Addr × Nat,i<4->(NC w g (i*3) x.1 (f i).kids.length x.2 (f i).val (f i).marks/\(f i).kids.length<=maxLen/\(f i).kids.length<=x.2/\NK w S x.1 (f i).kids):=fun i=>by
  by_cases a:i<4
  ·obtain ⟨A,cap,h⟩:=a3 i a;exact ⟨(A,cap),fun _=>h⟩
  ·exact ⟨(none,0),fun h=>absurd h a⟩
 have c:∀i k,((List.range 4).map f)[i]?=some k->i<4/\k=f i:=fun i k a=>by
  have hl:=bK a;rw [mL_,List.length_range] at hl;rw [gP_,List.getElem?_range hl] at a;exact ⟨hl,by simpa using a.symm⟩
 refine .mk g 0 _ (fun i=>(Classical.choose (d i)).1) (fun i=>(Classical.choose (d i)).2) hg a2 (fun i k a=>?_) (fun i k a=>?_) (fun i k a=>?_)
 all_goals
  obtain ⟨hl,rfl⟩:=c i k a;obtain ⟨l,m,n,o⟩:=Classical.choose_spec (d i) hl
 ·rw [Nat.zero_add];exact l
 ·exact ⟨m,n⟩
 ·exact o.weak fun b _ j=>hS b j
theorem KR.new (h:w.heap[g]?=some (.cells #[S_ none 0 0,I_ 0,I_ 0,S_ none 0 0,I_ 0,I_ 0,S_ none 0 0,I_ 0,I_ 0,S_ none 0 0,I_ 0,I_ 0] 56 (0,0))):KR w g S (fun _=> .nil):=by
 refine ⟨fun j b=>?_,p_ h,fun i a=>⟨none,0,⟨?_,?_,?_⟩,Nat.zero_le _,Nat.zero_le _,.nil _⟩⟩
 ·rw [Nat.zero_add,a_ h,t_ h];exact ⟨by rw [List.getElem?_toArray,cU (by simpa using b)];rfl,rfl⟩
 all_goals
  rw [a_ h]
  match i,a with
  | 0,_=>rfl
  | 1,_=>rfl
  | 2,_=>rfl
  | 3,_=>rfl
  | i+4,a=>omega
theorem KR.at_ (h:KR w g S f) {i:Nat} (hi:i<4):∃A cap,w.cell? ⟨g,i*3,none⟩=some (S_ A (f i).kids.length cap)/\w.cell? ⟨g,i*3+1,none⟩=some (I_ (f i).val)/\w.cell? ⟨g,i*3+2,none⟩=some (I_ (f i).marks)/\(f i).kids.length<=maxLen/\(f i).kids.length<=cap/\NK w S A (f i).kids:=by
 obtain ⟨A,cap,⟨c0,c1,c2⟩,h1,h2,h3⟩:=h.2.2 i hi;exact ⟨A,cap,c0,c1,c2,h1,h2,h3⟩
theorem KR.there (h:KR w g S f) {i:Nat} (hi:i<4):w.there g (i*3) 3:=fun j hj=>by
 have:=h.1 (i*3+j) O_;rw [Nat.zero_add] at this;exact this
theorem bW_ (h:Nat) (c:Cn):(f_ h c).kids.length<=4:=by
 cases h with
 | zero=>simp [f_,T.kids]
 | succ h=>rw [bE];split <;> simp [T.nil,T.kids,Q_]
theorem eA (h:Nat) (c:Cn):(f_ h c).kids.length<=maxLen:=dO (bW_ h c) (by unfold maxLen;omega)
def zH (t:T) (S:Nat->Prop) (w:World) (e:Ending) (w':World):Prop:=∃A cap,e = .returned (lG A t.kids.length cap t.val t.marks)/\t.kids.length<=cap/\NK w' S A t.kids/\q_ w w'
def upd (c:Cn) (i:Nat) (x:Int × Int):Cn:=fun j=>if j=i then x else c j
inductive NL (w:World) (S:Nat->Prop):List T->List Value->Prop
 | nil:NL w S [] []
 | cons (k:T) (ks:List T) (A:Option Addr) (cap:Nat) (xs:List Value) (h1:k.kids.length<=maxLen) (h2:k.kids.length<=cap) (hk:NK w S A k.kids) (h:NL w S ks xs):NL w S (k :: ks) (S_ A k.kids.length cap :: I_ k.val :: I_ k.marks :: xs)
theorem NL.kept {w w':World} {S':Nat->Prop} (h:NL w S ks xs) (hs:w.heap.size<=w'.heap.size) (hb:∀b,S b->b<w.heap.size->w'.heap[b]?=w.heap[b]?) (hS:∀b,b<w.heap.size->S b->S' b):NL w' S' ks xs:=by
 induction h with
 | nil=>exact .nil
 | cons k ks A cap xs h1 h2 hk h ih=>exact .cons k ks A cap xs h1 h2 ((hk.weak (S':=fun b=>S' b/\S b) fun b h1 h2=>⟨hS b h1 h2,h2⟩).kept hs (fun b h1 h2=>hb b h1.2 h2) |>.weak fun b _ h=>h.1) ih
theorem NL.step (h:NL w S ks xs) (hb:q_ w w'):NL w' S ks xs:=h.kept hb.size (fun b _ hlt=>hb.block b hlt) fun _ _ h=>h
theorem NL.snoc (h:NL w S ks xs) (k:T) (A:Option Addr) (cap:Nat) (h1:k.kids.length<=maxLen) (h2:k.kids.length<=cap) (hk:NK w S A k.kids):NL w S (ks ++ [k]) (xs ++ [S_ A k.kids.length cap,I_ k.val,I_ k.marks]):=by
 induction h with
 | nil=>exact .cons k [] A cap [] h1 h2 hk .nil
 | cons k' ks A' cap' xs h1' h2' hk' h ih=>exact .cons k' _ A' cap' _ h1' h2' hk' ih
theorem NL.len (h:NL w S ks xs):xs.length=ks.length*3:=by
 induction h with
 | nil=>rfl
 | cons k ks A cap xs h1 h2 hk h ih=>simp [ih];omega
theorem NL.one (h:NL w S ks xs):∀u ∈ xs,u.oneCell'=true:=by
 induction h with
 | nil=>intro u hu;simp at hu
 | cons k ks A cap xs h1 h2 hk h ih=>
  intro u hu;simp only[qJ] at hu
  rcases hu with rfl | rfl | rfl | hu
  ·rfl
  ·rfl
  ·rfl
  ·exact ih u hu
theorem NL.get (h:NL w S ks xs):∀{i:Nat} {k:T},ks[i]?=some k->∃A cap,xs[i*3]?=some (S_ A k.kids.length cap)/\xs[i*3+1]?=some (I_ k.val)/\xs[i*3+2]?=some (I_ k.marks)/\k.kids.length<=maxLen/\k.kids.length<=cap/\NK w S A k.kids:=by
 induction h with
 | nil=>intro i k a;simp at a
 | cons k' ks A cap xs h1 h2 hk h ih=>
  intro i k a
  cases i with
  | zero=>
   simp at a;subst a;exact ⟨A,cap,z_,z_,z_,h1,h2,hk⟩
  | succ i=>
   obtain ⟨A',cap',b,c,d,r⟩:=ih (i:=i) (k:=k) (by simpa using a);rw [show (i+1)*3=i*3+3 from by omega,show i*3+3+1=i*3+1+3 from by omega,show i*3+3+2=i*3+2+3 from by omega];exact ⟨A',cap',by simpa using b,by simpa using c,by simpa using d,r⟩
def NO (w:World) (base:Nat) (S:Nat->Prop) (u:Value) (ks:List T) (xs:List Value):Prop:=w.ownsRow base 56 3 u ks.length xs/\NL w (fun b=>S b/\u.ownBlock≠some b) ks xs
theorem NO.step (h:NO w base S u ks xs) (hb:q_ w w'):NO w' base S u ks xs:=⟨dA h.1 hb,h.2.step hb⟩
theorem NO.nil (w:World) (base:Nat) (S:Nat->Prop):NO w base S (S_ none 0 0) [] []:=⟨World.ownsRow_nil _ _ _ _,.nil⟩
theorem NO.alloc (h:NO w base S u ks xs) (o:Obj):NO (w.alloc o) base S u ks xs:=h.step (B_.alloc (aQ _) _)
theorem NO.set (h:NO w base S u ks xs) (p:Addr) (v:Value) (h1:¬S p.block) (h2:p.block<base):NO (w.setCell p v) base S u ks xs:=
 ⟨ownsRow_setCell_other h.1 (fun e=>by have:=(h.1.lt _ e).1;omega) v,h.2.kept (by simp [World.setCell]) (fun b hb _=>jO w p v b (fun e=>h1 (e ▸ hb.1))) fun _ _ h=>h⟩
theorem NO.snoc (h:NO w base S u ks xs) {cap':Nat} (k:T) (A:Option Addr) (cap:Nat) (h1:k.kids.length<=maxLen) (h2:k.kids.length<=cap)
  (hk:NK w (fun b=>S b/\u.ownBlock≠some b) A k.kids) (hown:w'.ownsRow base 56 3 (S_ (some ⟨g,0,none⟩) n cap') (ks.length+1) (xs ++ [S_ A k.kids.length cap,I_ k.val,I_ k.marks]))
  (hg:w.grownBy w' u.ownBlock) (hat:u.ownBlock=some g\/g=w.heap.size):NO w' base S (S_ (some ⟨g,0,none⟩) n cap') (ks ++ [k]) (xs ++ [S_ A k.kids.length cap,I_ k.val,I_ k.marks]):=by
 refine ⟨by rw [aL_];exact hown,(h.2.snoc k A cap h1 h2 hk).kept hg.size (fun b c a=>hg.block b a fun e=>c.2 e.symm) fun b a c=>⟨c.1,fun e=>?_⟩⟩;simp only[Value.ownBlock,Option.some.injEq] at e;subst e
 rcases hat with hat | hat
 ·exact c.2 hat
 ·omega
theorem NO.nk {S S':Nat->Prop} (h:NO w base S u ks xs) (hS:∀b,S b->S' b) (hS':∀b,base<=b->S' b):∃A cap,u = S_ A ks.length cap/\ks.length<=cap/\NK w S' A ks:=by
 obtain ⟨c,a⟩:=h;have l:=a.len
 rcases c.2 with ⟨h1,h2⟩ | ⟨g,cap,cur,h1,h2,h3,h4,h5,h6,h7⟩
 ·refine ⟨none,0,by rw [h1,h2],O_,?_⟩;rw [List.length_eq_zero_iff.1 h2];exact .nil _
 ·refine ⟨_,cap,h1,h4,?_⟩;have d:∀i:Nat,∃x:Option Addr × Nat,∀k:T,ks[i]?=some k->(xs[i*3]?=some (S_ x.1 k.kids.length x.2)/\xs[i*3+1]?=some (I_ k.val)/\xs[i*3+2]?=some (I_ k.marks)/\k.kids.length<=maxLen/\k.kids.length<=x.2/\NK w (fun b=>S b/\u.ownBlock≠some b) x.1 k.kids):=fun i=>by
   cases hk:ks[i]? with
   | none=>exact ⟨(none,0),fun k h=>by cases h⟩
   | some k=>
    obtain ⟨A,cap,e⟩:=a.get hk;exact ⟨(A,cap),fun y h=>by injection h with h;subst h;exact e⟩
  have f:∀j,j<xs.length->w.cell? ⟨g,j,none⟩=xs[j]?:=fun j v=>by
   rw [<-h7,List.getElem?_take,if_pos O_];simp [World.cell?,h3]
  refine .mk g 0 ks (fun i=>(Classical.choose (d i)).1) (fun i=>(Classical.choose (d i)).2) (hS' g h2) (p_ h3) (fun (i:Nat) (k:T) hi=>?_) (fun (i:Nat) (k:T) hi=>?_) (fun (i:Nat) (k:T) hi=>?_)
  all_goals
   have t:i<ks.length:=bK hi;obtain ⟨m,n,o,p,q,r⟩:=Classical.choose_spec (d i) k hi
  ·rw [Nat.zero_add];exact ⟨(f _ O_).trans m,(f _ O_).trans n,(f _ O_).trans o⟩
  ·exact ⟨p,q⟩
  ·exact r.weak fun b _ s=>hS b s.1
theorem rD:(prog.info? 56).map (fun i=>(i.zero,i.size,i.bytes))=some (some (.agg #[S_ none 0 0,I_ 0,I_ 0]),3,40):=by kernel_rfl
def SP.nt (S:Nat->Prop) (t:T):SP:=⟨fun v w=>∃A cap,v=lG A t.kids.length cap t.val t.marks/\t.kids.length<=cap/\NK w S A t.kids,fun v w w' hb ⟨A,cap,h1,h2,h3⟩=>⟨A,cap,h1,h2,h3.step hb⟩⟩
def SP.nb (S:Nat->Prop) (t:T):SP:=⟨fun v w=>∃g A cap,v = S_ (some ⟨g,0,none⟩) 1 1/\w.heap[g]?=some (.cells #[S_ A t.kids.length cap,I_ t.val,I_ t.marks] 56 (0,0))/\t.kids.length<=cap/\NK w S A t.kids,fun v w w' hb ⟨g,A,cap,h1,h0,h2,h3⟩=>⟨g,A,cap,h1,i_ h0 hb,h2,h3.step hb⟩⟩
end
end Go.Proofs.YtehfhnbpnaiogaaGreatDoor
