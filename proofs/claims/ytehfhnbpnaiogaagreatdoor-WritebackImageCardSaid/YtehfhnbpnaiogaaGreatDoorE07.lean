/-
  Lemmas and contracts for the laws of this seat, part 7; several texts joined by a program.
-/
import Derived.Test.YtehfhnbpnaiogaaGreatDoorE06
import Derived.Test.YtehfhnbpnaiogaaGreatDoorE00
import Derived.Lib.ConvBytes
import Derived.StillTailTactics
namespace Go.Proofs.YtehfhnbpnaiogaaGreatDoor
set_option linter.unusedVariables false
set_option linter.unusedSimpArgs false
set_option maxRecDepth 100000
set_option maxHeartbeats 16000000
open Go.RowKit Go.Proofs.Tryz IntKind
variable {A:Option Addr} {S:Nat->Prop} {W w w' w0:World} {X base h i k n z:Nat} {a b e f g u:Value} {fn:Func} {fr:Nat × Nat} {l:List Int} {o:Obj} {p q:Tmp} {r tmps:Array Value} {t:TypeId} {α:Type}
section
def xD (a:Int) (n:Nat):List Int:=(List.range n).map (fun i:Nat=>a+(i:Int))
theorem fw_ (a:Int) (n:Nat):xD a (n+1)=xD a n ++ [a+n]:=by unfold xD;rw [List.range_succ,List.map_append];rfl
theorem cA_ (a:Int) (n:Nat):(xD a n).length=n:=by unfold xD;simp
def bp_ (next n:Int):Zn:=⟨next,n,n / 8,n / 4,n / 2,xD next n.toNat⟩
def bC:Int->List Int->List Zn
 | _,[]=>[]
 | next,n :: l=>bp_ next n :: bC (next+n) l
def cQ (l:List Int):Int:=l.foldl (fun a n=>a+n) 0
theorem mX (l:List Int) (a:Int):l.foldl (fun a n=>a+n) a=a+l.foldl (fun a n=>a+n) 0:=by
 induction l generalizing a with
 | nil=>simp
 | cons x l ih=>rw [List.foldl_cons,List.foldl_cons,ih,ih (0+x)];omega
theorem kH (l:List Int) (n:Int):cQ (l ++ [n])=cQ l+n:=by unfold cQ;rw [List.foldl_append];rfl
theorem oS (n:Int):∀(l:List Int) (a:Int),bC a (l ++ [n])=bC a l ++ [bp_ (a+cQ l) n]
 | [],a=>by simp [bC,cQ]
 | x :: l,a=>by
  simp only[List.cons_append,bC];rw [oS n l (a+x)];have:cQ (x :: l)=x+cQ l:=by unfold cQ;rw [List.foldl_cons,mX];omega
  rw [this,Int.add_assoc]
theorem kC:∀(l:List Int) (a:Int),(bC a l).length=l.length
 | [],_=>rfl
 | x :: l,a=>by simp [bC,kC l]
theorem wR:∀(l:List Int),nP (bC 1 l)=1+cQ l:=by
 have c:∀(l:List Int) (a b:Int),(bC a l).foldl (fun n z=>n+z.size) b=b+cQ l:=fun l=>by
  induction l with
  | nil=>intro a b;simp [bC,cQ]
  | cons x l ih=>
   intro a b;simp only[bC,List.foldl_cons];rw [ih];have:cQ (x :: l)=x+cQ l:=by unfold cQ;rw [List.foldl_cons,mX];omega
   rw [this]
   show b+x+cQ l=_
   omega
 intro l;exact c l 1 1
structure tM (l:List Int):Prop where
 pos:0<l.length
 each:∀n ∈ l,1<=n
 all:cQ l<=64
theorem tM.part (h:tM l):∀(k:Nat),k<=l.length->0<=cQ (l.take k)/\cQ (l.take k)<=cQ l/\∀n,l[k]?=some n->cQ (l.take k)+n<=cQ l:=by
 have up:∀(k:Nat),k<=l.length->0<=cQ (l.take k):=fun k=>by
  induction k with
  | zero=>intro _;simp [cQ]
  | succ k ih=>
   intro c;have b:l[k]?=some l[k]:=cU O_;have:=h.each _ (fF b);rw [aR b,kH];have:=ih O_;omega
 have a:∀(j k:Nat),k+j=l.length->cQ (l.take k)<=cQ l:=fun j=>by
  induction j with
  | zero=>intro k c;rw [tL_ O_];exact Int.le_refl _
  | succ j ih=>
   intro k c;have b:l[k]?=some l[k]:=cU O_;have h1:=h.each _ (fF b);have h2:=ih (k+1) O_;rw [aR b,kH] at h2;omega
 intro k c;refine ⟨up k c,a (l.length - k) k O_,fun n d=>?_⟩;have f:=bK d;have:=a (l.length - (k+1)) (k+1) O_;rw [aR d,kH] at this;exact this
theorem tM.len (h:tM l):l.length<=64:=by
 have a:∀(k:Nat),k<=l.length->(k:Int)<=cQ (l.take k):=fun k=>by
  induction k with
  | zero=>intro _;simp [cQ]
  | succ k ih=>
   intro c;have b:l[k]?=some l[k]:=cU O_;have:=h.each _ (fF b);rw [aR b,kH];have:=ih O_;omega
 have h1:=a l.length (aQ _);rw [List.take_length] at h1;have:=h.all;omega
theorem cB_ {a x:Int} (h:x ∈ xD a n):a<=x/\x<a+n:=by
 unfold xD at h;obtain ⟨i,hi,rfl⟩:=List.mem_map.1 h;have:=List.mem_range.1 hi;omega
theorem hi_ {a:Int}:(xD a n).Pairwise (·<·):=by
 unfold xD;rw [List.pairwise_map];exact List.pairwise_lt_range.imp fun {x y} h=>by omega
theorem tM.zones (h:tM l):cC (bC 1 l):=by
 refine ⟨by rw [kC];exact h.pos,fun i z g=>?_⟩;have d:i<l.length:=by have:=bK g;rwa [kC] at this
 have c:l[i]?=some l[i]:=cU d;have b:∀(k:Nat) (l:List Int) (a:Int),(bC a l).take k=bC a (l.take k):=fun k=>by
  induction k with
  | zero=>intro l a;simp [bC]
  | succ k ih=>
   intro l a
   cases l with
   | nil=>simp [bC]
   | cons x l=>simp only[bC,List.take_succ_cons];rw [ih]
 have f:z=bp_ (1+cQ (l.take i)) l[i]:=by
  have h1:(bC 1 l).take (i+1)=(bC 1 l).take i ++ [z]:=aR g;rw [b,b,aR c,oS] at h1;have:=List.append_cancel_left h1;injection this with this _
  exact this.symm
 rw [b,wR];obtain ⟨n,o,j⟩:=h.part i O_;have p:=j _ c;have q:=h.all;have m:=h.each _ (fF c);subst f;exact ⟨rfl,⟨m,by show l[i]<=65 - _;omega⟩,⟨by show 0<=l[i] / 8;omega,by show l[i] / 8<=l[i] / 4;omega,by show l[i] / 4<=l[i] / 2;omega,by show l[i] / 2<=l[i];omega⟩,
  fun x c=>by
   have:=cB_ (show x ∈ xD (1+cQ (l.take i)) (l[i]).toNat from c)
   show 1+cQ (l.take i)<=x/\x<1+cQ (l.take i)+l[i]
   omega,hi_⟩
theorem LO.weak {R:RR α k} {e:TypeId} {S S':Nat->Prop} {v:Value} {L:List α} (h:LO R e w base S v L) (hS:∀b,b<w.heap.size->S b->S' b):LO R e w base S' v L:=by
 obtain ⟨rows,r1,r2⟩:=h;exact ⟨rows,r1,r2.imp fun a r h=>R.wk _ _ _ _ _ (fun b hb h=>⟨hS b hb h.1,h.2⟩) h⟩
theorem LO.old {R:RR α k} {e:TypeId} {v:Value} {L:List α} (h:LO R e w base S v L):LO R e w base (fun b=>S b/\b<w.heap.size) v L:=h.weak fun b hb h=>⟨h,hb⟩
theorem de_ {e:TypeId} {B:Nat} {v:Value} {lo:Nat} (h:LO M_ e w base S v l) (hB:B<base) (hu:∀b,u.ownBlock=some b->b<B):v.ownBlock=none\/∃b,v.ownBlock=some b/\¬(lo<=b/\b<B)/\u.ownBlock≠some b:=by
 cases hv:v.ownBlock with
 | none=>exact .inl rfl
 | some b=>
  have h1:=(h.own hv).1;exact .inr ⟨b,rfl,fun h=>by omega,fun hc=>by have:=hu b hc;omega⟩
theorem iW_ {v:Value} (S:Nat->Prop) (h:LA M_ w S v l) (ok:tM l) (hS:∀b,w.heap.size<=b->S b):C_ 83 #[v] w (hz_ (bC 1 l) 0 S w):=by
 obtain ⟨A,cap,rfl,a6,Q⟩:=h.form;have H:=H_ h;have OK:=H_ ok;have a2:=ok.len;have a3:=ok.pos;have a1:=ok.all;have d0:((l.length:Int) == 0)=false:=beq_eq_false_iff_ne.2 O_;clear h ok;unfold maxLen at Q;go_enter func83,ntmps83;go_wp2
 go_loopw [4,5,6] (fun u a i wx=>∃k:Nat,i = I_ k/\a = I_ (1+cQ (l.take k))/\k<=l.length/\LO pE 155 wx (w) (fun b=>w.heap.size<=b) u (bC 1 (l.take k))/\q_ w wx) (fun _ _ i _=>l.length - (intOf i).toNat)
 case atStart=>exact ⟨0,rfl,rfl,O_,LO.nil _ _ _ _ _,aI _ _⟩
 case round=>
  obtain ⟨k,rfl,rfl,hk,ho,g⟩:=hrel;have p:=H_ g;have q:=H_ ho;obtain ⟨V,hV⟩:=aZ wr;subst hV;clear ho g;obtain ⟨s1,s2,s3⟩:=OK.part k hk
  by_cases R:k<l.length
  ·obtain ⟨n,x⟩:∃n,l[k]?=some n:=⟨_,cU R⟩;obtain ⟨b,o,cap',hv,_,_,g,_,c0⟩:=IL.cell (H.step p.out) x;injection hv with e1 e2 e3
   subst e1;have n1:=OK.each n (fF x);have n2:=s3 n x;have Z:=H_ (show bC 1 (l.take (k+1))=bC 1 (l.take k) ++ [bp_ (1+cQ (l.take k)) n] by rw [aR x,oS]);have Y:=H_ (show 1+cQ (l.take (k+1))=1+cQ (l.take k)+n by rw [aR x,kH];omega);have a9:(bC 1 (l.take k)).length<=64:=by rw [kC,List.length_take];omega
   generalize bC 1 (l.take k)=zs at *;obtain ⟨a,J⟩:=aZ (1+cQ (l.take k));rw [<-J] at Z Y ⊢;have b1:1<=a:=O_
   have b2:a+n<=65:=O_
   have d1:decide (n<1)=false:=dF O_;have d2:decide (64<n)=false:=dF O_;have d3:decide (65<a+n)=false:=dF O_;clear J s1 s2 s3 x e2 e3 n2;go_wp2;have C:=H_ (b_ p.out (.cells #[I_ a,I_ n,I_ (n / 8),I_ (n / 4),I_ (n / 2),S_ none 0 0] 155));have d:=H_ (show ∀b,u4.ownBlock=some b->b<V.heap.size from fun b g=>(q.own g).2);have z:=H_ ((q.old).alloc (.cells #[I_ a,I_ n,I_ (n / 8),I_ (n / 4),I_ (n / 2),S_ none 0 0] 155));have B:=H_ (g_ V (.cells #[I_ a,I_ n,I_ (n / 8),I_ (n / 4),I_ (n / 2),S_ none 0 0] 155));have U:=p.size;have hN:n=(n.toNat:Int):=O_
   obtain ⟨N,t⟩:=aZ n.toNat;rw [<-t] at hN;have L:=H_ t;have a0:N<=64:=O_
   have a4:n<=(N:Int):=O_
   have a5:(N:Int)<=n:=O_
   clear t hN
   go_loopw [9] (fun f wx=>∃(m:Nat) (X:Value),f = I_ (a+m)/\m<=N/\q_ w wx/\aW wx (V) #[I_ a,I_ n,I_ (n / 8),I_ (n / 4),I_ (n / 2),X] 155/\LO M_ 3 wx (V+1) (fun _=>False) X (xD a m)/\LO pE 155 wx (w) (fun b=>w.heap.size<=b/\b<V.heap.size) u4 zs/\(∀b,u4.ownBlock=some b->b<V.heap.size)) (fun f _=>(a+n - intOf f).toNat)
   case atStart=>exact ⟨0,_,z_,O_,C.out,B.out,LO.nil _ _ _ _ _,z.out,d.out⟩
   case round=>
    clear C z B d c0;obtain ⟨m,X,rfl,hm,g,E,P,hO,D⟩:=hrel;obtain ⟨p,HZ,y,q,d⟩:=h5_ g E P hO D;have a8:=p_ E;have aa:=g.size;obtain ⟨A5,c9,rfl,_,_⟩:=(P.la (S':=gL) (fun _ _ _=>trivial) (fun _ _=>trivial)).form;have f5:=t_ E 5;obtain ⟨p0,p1,p2,p3,p4,p5⟩:=cs6 E;have ab:(xD a m).length<=64:=by rw [cA_];omega
    clear g E P hO D
    by_cases a7:m<N
    ·have t1:decide (a+(m:Int)<a+n)=true:=dT O_;have t2:(a+(m:Int)<a+n):=O_
     have O:=H_ (fw_ a m)
     go_wp2_with (at_builtin;(refine U_ cS rfl (.tmp 53) (.tmp 55) rfl (fun _=>False) rfl (y.alloc _) (by simp;omega) O_ #[I_ (a+m)] rfl (l_ _ _ _ rfl) (a+m) rfl ?_);intro v4 w4 c j F;obtain ⟨K,s,e6,_,_⟩:=(c.la (S':=gL) (fun _ _ _=>trivial) (fun _ _=>trivial)).form;obtain ⟨W,I⟩:=aZ ((xD a m ++ [a+(m:Int)]).length);rw [<-I] at e6;clear I;subst e6;have r:=H_ (dV j (m_ HZ _) (fun h=>by have:=(y.own h).1;omega));have f5:=t_ r 5;clear p0 p1 p2 p3 p4 p5;obtain ⟨p0,p1,p2,p3,p4,p5⟩:=cs6 r.out)
     go_roundw
     case rel=>
      refine ⟨m+1,S_ K W s,by go_num,O_,bA ((b_ p.out _).grown j (b_ p.out _).size (fun b g=>by have:=(y.out.own g).1;omega)) _ _ U,R_ r.out _,?_,?_,d.out⟩
      ·rw [O.out];exact c.kept (v_ w4 ⟨V,5,none⟩ (S_ K W s)) (.inr ⟨V,rfl,fun h=>h.elim,fun h=>by have:=(c.own h).1;omega⟩)
      ·have h4:=(q.alloc (.cells #[I_ (a+m)] 3)).kept j (de_ y.out O_ d.out);exact h4.kept (v_ w4 ⟨V,5,none⟩ (S_ K W s)) (.inr ⟨V,rfl,fun h=>by have:=h.2;omega,fun h=>by have:=d.out _ h;omega⟩)
     case measure=>exact bH
    ·have G:m=N:=O_
     have M:=H_ (show xD a m=xD a n.toNat by rw [G,L.out]);have t1:decide (a+(m:Int)<a+n)=false:=dF O_;have t2:¬(a+(m:Int)<a+n):=O_
     clear G
     go_wp2_with (at_builtin;go_loud (refine U_ fI_ rfl (.tmp 58) (.tmp 60) rfl (fun b=>w.heap.size<=b) rfl ((q.alloc _).weak (fun b _ h=>h.1)) (by simp;omega) O_ #[I_ a,I_ n,I_ (n / 8),I_ (n / 4),I_ (n / 2),S_ A5 (xD a m).length c9] rfl (l_ _ _ _ rfl) (bp_ a n) ⟨_,rfl,by
       show LA M_ _ _ _ (xD a n.toNat)
       rw [<-M.out];exact (y.alloc _).la (fun b _ h=>h.elim) (fun b g=>⟨O_,fun h=>by have:=d.out b h;omega⟩)⟩ ?_);intro v4 w4 c j F)
     go_roundw
     case rel=>exact ⟨k+1,by go_num,by rw [Y.out],O_,by rw [Z.out];exact c,(b_ p.out _).grown j (b_ p.out _).size (fun b g=>(q.own g).1)⟩
     case measure=>exact bH
  ·obtain rfl:k=l.length:=O_
   rw [List.take_length] at *;go_wp2
   go_ret2
   exact ⟨_,rfl,q.la (fun b _ h=>hS b h) hS,p.out⟩
end
section
structure Pg where
 data:ByteArray
 valid:Int
 dirty:Int
abbrev wV (d:ByteArray) (v y:Int):Value:= .agg #[.string d,I_ v,I_ y]
structure jC (p:Pg):Prop where
 len:p.data.size=16
 v:0<=p.valid/\p.valid<=3
 d:0<=p.dirty/\p.dirty<=3
 sub:bits .andNot .i64 p.dirty p.valid=0
theorem dB:(prog.info? 83).map (·.size)=some 3:=by kernel_rfl
theorem nB (d:ByteArray) (v y:Int) (w:World) (ok:jC ⟨d,v,y⟩):C_ 123 #[wV d v y] w (cP true w):=by
 obtain ⟨h1,⟨h2,h3⟩,⟨b,c⟩,a⟩:=ok
 dsimp only at h1 h2 h3 b c a
 have f:((d.size:Int) == 16)=true:=by simp;omega
 have g:(bits .andNot .i64 y v == 0)=true:=by simp [a]
 clear h1 a;go_enter func123,ntmps123;go_wp2;go_ret;exact ⟨rfl,b_ B_ _⟩
theorem fg_ (off n:Int) (w:World) (h1:0<=off) (h2:0<=n) (h3:off<=16) (h4:n<=16 - off):C_ 195 #[I_ off,I_ n] w (nK (.bool true) w):=by
 have d1:decide (n<=16 - off)=true:=dT h4;go_enter func195,ntmps195;go_wp2;go_ret;exact ⟨rfl,rfl⟩
def eO (off n lo:Int):Nat->Int
 | 0=>0
 | j+1=>eO off n lo j+if off<=lo+(j:Int)/\lo+(j:Int)<off+n then 1 else 0
theorem pK (off n lo:Int) (j:Nat):0<=eO off n lo j/\eO off n lo j<=j:=by
 induction j with
 | zero=>simp [eO]
 | succ j ih=>unfold eO;split <;> omega
def jF (off n:Int) (k:Nat):Bool:=decide (0<eO off n (8*k) 8)
def sD (off n:Int) (k:Nat):Bool:=decide (eO off n (8*k) 8=8)
def mO (f:Nat->Bool):Nat->Int
 | 0=>0
 | 1=>if f 0 then 1 else 0
 | _=>(if f 0 then 1 else 0)+if f 1 then 2 else 0
def eL (off n:Int):Int:=mO (jF off n) 2
def vM (off n:Int):Int:=mO (sD off n) 2
theorem tA (f:Nat->Bool) {k:Nat} (hk:k<2):(f k=true->bits .or .i64 (mO f k) ((2 ^ k:Nat):Int)=mO f (k+1))/\(f k=false->mO f k=mO f (k+1)):=by
 match k,hk with
 | 0,_=>
  constructor
  ·intro h;simp only[mO,h,if_true];decide +kernel
  ·intro h;simp [mO,h]
 | 1,_=>
  constructor
  ·intro h
   cases h0:f 0 <;> simp only[mO,h,h0,if_true] <;> decide +kernel
  ·intro h;simp [mO,h]
def jm_ (a b:Int) (w:World) (e:Ending) (w':World):Prop:=e = .returned (.tuple #[I_ a,I_ b])/\w=w'
theorem xC (off n:Int) (w:World) (h1:0<=off) (h2:0<=n) (h3:off<=16) (h4:n<=16 - off):C_ 196 #[I_ off,I_ n] w (jm_ (eL off n) (vM off n) w):=by
 have E:off+n<=16:=O_
 go_enter func196,ntmps196;go_wp2
 go_loop [6,7,8] (fun t c k=>∃m:Nat,m<=2/\k = I_ m/\t = I_ (mO (jF off n) m)/\c = I_ (mO (sD off n) m)) (fun _ _ k=>2 - (intOf k).toNat)
 case atStart=>exact ⟨0,O_,rfl,rfl,rfl⟩
 case round=>
  obtain ⟨m,H,rfl,rfl,rfl⟩:=hrel;obtain rfl | rfl | rfl:m=0\/m=1\/m=2:=O_
  ·skip
   have s:=tA (jF off n) (k:=0) O_;have r:=tA (sD off n) (k:=0) O_;have o:=H_ s;have d:=H_ r;obtain ⟨t,x⟩:=aZ (mO (jF off n) 0);obtain ⟨c,hc⟩:=aZ (mO (sD off n) 0);rw [<-x,<-hc];rw [<-x] at o;rw [<-hc] at d;clear s r x hc;go_wp2
   go_loop [9,10] (fun A i=>∃j:Nat,j<=8/\i = I_ ((0:Int)+(j:Int))/\A = I_ (eO off n (0:Int) j)) (fun _ i=>((0:Int)+8 - intOf i).toNat)
   case atStart=>exact ⟨0,O_,rfl,rfl⟩
   case round=>
    obtain ⟨j,D,rfl,rfl⟩:=hrel;obtain ⟨F,G⟩:=pK off n (0:Int) j;have u:=H_ (show eO off n (0:Int) (j+1)=eO off n (0:Int) j+if off<=(0:Int)+(j:Int)/\(0:Int)+(j:Int)<off+n then 1 else 0 from rfl)
    by_cases v:j<8
    ·generalize eO off n (0:Int) j=q at *;have C:(0:Int)+(j:Int)<(0:Int)+8:=O_
     by_cases a1:off<=(0:Int)+(j:Int)
     ·by_cases a2:(0:Int)+(j:Int)<off+n
      ·have b:=H_ (show eO off n (0:Int) (j+1)=q+1 by rw [u.out,if_pos ⟨a1,a2⟩]);go_wp2
       go_round
       case rel=>exact ⟨j+1,O_,by go_num,by rw [b.out]⟩
       case measure=>exact bH
      ·have b:=H_ (show eO off n (0:Int) (j+1)=q by rw [u.out,if_neg (fun h=>a2 h.2)];omega);go_wp2
       go_round
       case rel=>exact ⟨j+1,O_,by go_num,by rw [b.out]⟩
       case measure=>exact bH
     ·have b:=H_ (show eO off n (0:Int) (j+1)=q by rw [u.out,if_neg (fun h=>a1 h.1)];omega);go_wp2
      go_round
      case rel=>exact ⟨j+1,O_,by go_num,by rw [b.out]⟩
      case measure=>exact bH
    ·obtain rfl:j=8:=O_
     have p:=H_ (show jF off n 0=decide (0<eO off n (0:Int) 8) from rfl);have l:=H_ (show sD off n 0=decide (eO off n (0:Int) 8=8) from rfl);generalize eO off n (0:Int) 8=q at *;clear u v
     by_cases y:0<q
     ·have f:=H_ (o.out.1 (by rw [p.out];exact dT y))
      by_cases g:q=8
      ·have a:=H_ (d.out.1 (by rw [l.out];exact dT g));have z:(q == 8)=true:=by simp [g]
       have B:=H_ g;clear g;go_wp2
       go_round
       case rel=>exact ⟨0+1,O_,by go_num,by rw [<-f.out];rfl,by rw [<-a.out];rfl⟩
       case measure=>simp [intOf]
      ·have a:=H_ (d.out.2 (by rw [l.out];exact dF g));have z:(q == 8)=false:=by simp [g]
       go_wp2
       go_round
       case rel=>exact ⟨0+1,O_,by go_num,by rw [<-f.out];rfl,by rw [<-a.out]⟩
       case measure=>simp [intOf]
     ·have f:=H_ (o.out.2 (by rw [p.out];exact dF y));have g:¬q=8:=O_
      have a:=H_ (d.out.2 (by rw [l.out];exact dF g));have z:(q == 8)=false:=by simp [g]
      go_wp2
      go_round
      case rel=>exact ⟨0+1,O_,by go_num,by rw [<-f.out],by rw [<-a.out]⟩
      case measure=>simp [intOf]
  ·skip
   have s:=tA (jF off n) (k:=1) O_;have r:=tA (sD off n) (k:=1) O_;have o:=H_ s;have d:=H_ r;obtain ⟨t,x⟩:=aZ (mO (jF off n) 1);obtain ⟨c,hc⟩:=aZ (mO (sD off n) 1);rw [<-x,<-hc];rw [<-x] at o;rw [<-hc] at d;clear s r x hc;go_wp2
   go_loop [9,10] (fun A i=>∃j:Nat,j<=8/\i = I_ ((8:Int)+(j:Int))/\A = I_ (eO off n (8:Int) j)) (fun _ i=>((8:Int)+8 - intOf i).toNat)
   case atStart=>exact ⟨0,O_,rfl,rfl⟩
   case round=>
    obtain ⟨j,D,rfl,rfl⟩:=hrel;obtain ⟨F,G⟩:=pK off n (8:Int) j;have u:=H_ (show eO off n (8:Int) (j+1)=eO off n (8:Int) j+if off<=(8:Int)+(j:Int)/\(8:Int)+(j:Int)<off+n then 1 else 0 from rfl)
    by_cases v:j<8
    ·generalize eO off n (8:Int) j=q at *;have C:(8:Int)+(j:Int)<(8:Int)+8:=O_
     by_cases a1:off<=(8:Int)+(j:Int)
     ·by_cases a2:(8:Int)+(j:Int)<off+n
      ·have b:=H_ (show eO off n (8:Int) (j+1)=q+1 by rw [u.out,if_pos ⟨a1,a2⟩]);go_wp2
       go_round
       case rel=>exact ⟨j+1,O_,by go_num,by rw [b.out]⟩
       case measure=>exact bH
      ·have b:=H_ (show eO off n (8:Int) (j+1)=q by rw [u.out,if_neg (fun h=>a2 h.2)];omega);go_wp2
       go_round
       case rel=>exact ⟨j+1,O_,by go_num,by rw [b.out]⟩
       case measure=>exact bH
     ·have b:=H_ (show eO off n (8:Int) (j+1)=q by rw [u.out,if_neg (fun h=>a1 h.1)];omega);go_wp2
      go_round
      case rel=>exact ⟨j+1,O_,by go_num,by rw [b.out]⟩
      case measure=>exact bH
    ·obtain rfl:j=8:=O_
     have p:=H_ (show jF off n 1=decide (0<eO off n (8:Int) 8) from rfl);have l:=H_ (show sD off n 1=decide (eO off n (8:Int) 8=8) from rfl);generalize eO off n (8:Int) 8=q at *;clear u v
     by_cases y:0<q
     ·have f:=H_ (o.out.1 (by rw [p.out];exact dT y))
      by_cases g:q=8
      ·have a:=H_ (d.out.1 (by rw [l.out];exact dT g));have z:(q == 8)=true:=by simp [g]
       have B:=H_ g;clear g;go_wp2
       go_round
       case rel=>exact ⟨1+1,O_,by go_num,by rw [<-f.out];rfl,by rw [<-a.out];rfl⟩
       case measure=>simp [intOf]
      ·have a:=H_ (d.out.2 (by rw [l.out];exact dF g));have z:(q == 8)=false:=by simp [g]
       go_wp2
       go_round
       case rel=>exact ⟨1+1,O_,by go_num,by rw [<-f.out];rfl,by rw [<-a.out]⟩
       case measure=>simp [intOf]
     ·have f:=H_ (o.out.2 (by rw [p.out];exact dF y));have g:¬q=8:=O_
      have a:=H_ (d.out.2 (by rw [l.out];exact dF g));have z:(q == 8)=false:=by simp [g]
      go_wp2
      go_round
      case rel=>exact ⟨1+1,O_,by go_num,by rw [<-f.out],by rw [<-a.out]⟩
      case measure=>simp [intOf]
  ·go_wp2
   go_ret2
   exact ⟨rfl,rfl⟩
end
section
def zG (p:Pg) (err:Int) (w:World) (e:Ending) (w':World):Prop:=e = .returned (.tuple #[wV p.data p.valid p.dirty,I_ err])/\q_ w w'
def jp_ (a b:Int) (w:World) (e:Ending) (w':World):Prop:=e = .returned (.tuple #[I_ a,I_ b])/\q_ w w'
theorem pR (h:fn.results=#[.cell p 83,.tmp q]) {g:Nat} {c:Value}
  (hp:tmps.getD p undef = P_ g) (hq:tmps.getD q undef=u) (hg:w.heap[g]?=some (.cells #[a,b,c] t fr)):(results fn tmps).run prog w = .ok (.tuple #[.agg #[a,b,c],u]) w:=
 dm_ h tmps t fr u hp hq hg underlying83 rfl dB
theorem eX {d:ByteArray} {v y:Int}:(#[Value.string d,I_ v,I_ y]:Array Value).all (·.oneCell')=true:=by simp [Value.oneCell']
def bR (p:Pg) (s:Int):Pg:={p with dirty:=bits .andNot .i64 p.dirty s}
def aK (p:Pg) (s:Int):Pg:={p with dirty:=bits .or .i64 p.dirty (bits .and .i64 s p.valid)}
theorem iQ_ (d:ByteArray) (v y s:Int) (w:World) (ok:jC ⟨d,v,y⟩) (hs:0<=s/\s<=3):C_ 69 #[wV d v y,I_ s] w (zG (aK ⟨d,v,y⟩ s) 0 w):=by
 have g:=fun w'=>nB d v y w' ok;have k:=H_ (m_ (g_ w (.cells #[.string d,I_ v,I_ y] 83)) (.cells #[.string ByteArray.empty,I_ 0,I_ 0] 83));have i:=H_ (l_ (w.alloc (.cells #[.string d,I_ v,I_ y] 83)) (.cells #[.string ByteArray.empty,I_ 0,I_ 0] 83) (w+1) z_);have j:=H_ (b_ (b_ (aI (w) w) (.cells #[.string d,I_ v,I_ y] 83)) (.cells #[.string ByteArray.empty,I_ 0,I_ 0] 83));have l:decide (s<0)=false:=dF O_;have m:decide (3<s)=false:=dF O_;clear ok;go_enter func69,ntmps69
 go_wp2_with (first
  | (go_at_call 123;(with_reducible refine CM (g _) ?_);rintro e w1 ⟨rfl,c⟩;obtain ⟨a,b,f⟩:=bN k i j c;clear c;obtain ⟨x0,q,r⟩:=cL a.out;have n:=t_ a 0;have o:=t_ a 1;have p:=t_ a 2)
  | (refine cV rfl 83 (.tmp 4) (.tmp 25) rfl rfl (w+1) #[.string d,I_ v,I_ (bits .or .i64 y (bits .and .i64 s v))] rfl rfl 83 _ (aM b.out _ _ z_) dB rfl (eX) ?_))
 show bodyPost prog f69 _ _ _ _
 refine bodyPost_ret (pR rfl rfl rfl (setRow_heap _ _ _ _ _ _ (aM b.out _ _ z_))) rfl ?_;exact ⟨rfl,j_ (bA f.out _ _ (aQ _)) O_ _⟩
def jK (v off n:Int) (wr:Bool):Int:=bits .andNot .i64 (if wr then bits .andNot .i64 (eL off n) (vM off n) else eL off n) v
theorem yE (d:ByteArray) (v y off n:Int) (b:Bool) (w:World) (ok:jC ⟨d,v,y⟩) (h1:0<=off) (h2:0<=n) (h3:off<=16) (h4:n<=16 - off):C_ 152 #[wV d v y,I_ off,I_ n,.bool b] w (jp_ (jK v off n b) 0 w):=by
 have i:=fun w'=>nB d v y w' ok;have j:=fun w'=>fg_ off n w' h1 h2 h3 h4;have k:=fun w'=>xC off n w' h1 h2 h3 h4;have o:=H_ (g_ w (.cells #[.string d,I_ v,I_ y] 83));have m:=H_ (b_ (aI (w) w) (.cells #[.string d,I_ v,I_ y] 83));have l:=H_ (show jK v off n b=bits .andNot .i64 (if b then bits .andNot .i64 (eL off n) (vM off n) else eL off n) v from rfl);generalize eL off n=t at *;generalize vM off n=c at *;clear ok
 cases b
 all_goals
  go_enter func152,ntmps152
  go_wp2_with (first
   | (go_at_call 123;(with_reducible refine CM (i _) ?_);rintro e w1 ⟨rfl,a⟩;obtain ⟨g,f⟩:=gZ o m a;clear a;obtain ⟨x0,p,q⟩:=cL g.out)
   | (go_at_call 195;(with_reducible refine CM (j _) ?_);rintro e w2 ⟨rfl,rfl⟩)
   | (go_at_call 196;(with_reducible refine CM (k _) ?_);rintro e w2 ⟨rfl,rfl⟩))
  go_ret2
  rw [l.out];exact ⟨rfl,f⟩
end
section
def xR (d s:ByteArray) (o:Nat):ByteArray:=d.extract 0 o ++ s ++ d.extract (o+s.size) d.size
def G_ (p:Pg) (o:Nat) (s:ByteArray):Pg:=⟨xR p.data s o,bits .or .i64 p.valid (eL o s.size),bits .or .i64 p.dirty (eL o s.size)⟩
theorem aF_ (d:ByteArray) (v y:Int) (o:Nat) (s:ByteArray) (w:World) (ok:jC ⟨d,v,y⟩) (hr:o+s.size<=16) (hn:jK v o s.size true=0):C_ 153 #[wV d v y,I_ o,.string s] w (zG (G_ ⟨d,v,y⟩ o s) 0 w):=by
 have i:=fun w'=>yE d v y o s.size true w' ok O_ O_ O_ O_;have m:=fun w'=>xC o s.size w' O_ O_ O_ O_;rw [hn] at i;have B:d.size=16:=ok.len;have r:=H_ (m_ (g_ w (.cells #[.string d,I_ v,I_ y] 83)) (.cells #[.string ByteArray.empty,I_ 0,I_ 0] 83));have p:=H_ (l_ (w.alloc (.cells #[.string d,I_ v,I_ y] 83)) (.cells #[.string ByteArray.empty,I_ 0,I_ 0] 83) (w+1) z_);have q:=H_ (b_ (b_ (aI (w) w) (.cells #[.string d,I_ v,I_ y] 83)) (.cells #[.string ByteArray.empty,I_ 0,I_ 0] 83));have n:=H_ (show G_ ⟨d,v,y⟩ o s=⟨xR d s o,bits .or .i64 v (eL o s.size),bits .or .i64 y (eL o s.size)⟩ from rfl);generalize eL o s.size=t at *;generalize vM o s.size=c at *;have a1:o<=d.size:=O_
 have a2:o+s.size<=d.size:=O_
 have n1:¬(9223372036854775807<o+s.size):=O_
 have n3:¬(9223372036854775807<d.size):=O_
 have n2:¬(9223372036854775807<o+s.size+(d.size - (o+s.size))):=O_
 have u:i64.wrap ((o:Int)+(s.size:Int))=(o:Int)+(s.size:Int):=fA O_;have x:(0:Int)<=(o:Int)+(s.size:Int):=O_
 have z:((o:Int)+(s.size:Int)).toNat=o+s.size:=O_
 have A:(o:Int)+(s.size:Int)<=(d.size:Int):=O_
 clear ok hn B;go_enter func153,ntmps153
 go_upto_region 7 with (first
  | (go_at_call 152;(with_reducible refine CM (i _) ?_);rintro e w1 ⟨rfl,g⟩;obtain ⟨f,j,k⟩:=bN r p q g;clear g;obtain ⟨x0,C,D⟩:=cL f.out)
  | (go_at_call 196;(with_reducible refine CM (m _) ?_);rintro e w2 ⟨rfl,rfl⟩))
 go_still_tail 22,s_
 change wpList _ _ _ _ _ w1.drew
 have l:=H_ (i_ (w':=w1.drew) f (aI (w1) w1).drew);have a:=H_ (i_ (w':=w1.drew) j (aI (w1) w1).drew);have b:=H_ (d_ (w1:=w1.drew) k (aI (w1) w1).drew);generalize w1.drew=V at l a b;clear x0 C D u x z A
 go_wp2_with (refine cV rfl 83 (.tmp 6) (.tmp 56) rfl rfl (w+1) #[.string (d.extract 0 o ++ s ++ d.extract (o+s.size) d.size),I_ (bits .or .i64 v t),I_ (bits .or .i64 y t)] rfl rfl 83 _ (a) dB rfl (eX) ?_)
 show bodyPost prog f153 _ _ _ _
 refine bodyPost_ret (pR rfl rfl rfl (setRow_heap _ _ _ _ _ _ a)) rfl ?_;rw [n.out];exact ⟨rfl,j_ b.out O_ _⟩
def uO:Pg:=⟨⟨#[0,0,0,0,0,0,0,0,0,0,0,0,0,0,0,0]⟩,0,0⟩
def uF:Pg:={uO with valid:=3}
def hv_ (p:Pg) (w:World) (e:Ending) (w':World):Prop:=e = .returned (wV p.data p.valid p.dirty)/\q_ w w'
theorem fd_ (h:fn.results=#[.cell p 83]) {g:Nat} {c:Value}
  (hp:tmps.getD p undef = P_ g) (hg:w.heap[g]?=some (.cells #[a,b,c] t fr)):(results fn tmps).run prog w = .ok (.agg #[a,b,c]) w:=
 results_cell_row h tmps w g t _ fr _ hp hg underlying83 rfl dB
theorem nH:(prog.info? 5).map (fun i=>(i.zero,i.size,i.bytes))=some (some (.int .u8 0),1,1):=by kernel_rfl
theorem kW (l:List UInt8) (g c:Nat) (w:World) (hc:∀j (hj:j<l.length),w.cell? ⟨g,j,none⟩=some (.int .u8 (l[j].toNat:Int))) :
  (convert 77 9 (S_ (some ⟨g,0,none⟩) l.length c)).run prog w = .ok (.string ⟨l.toArray⟩) w:=by
 refine run_convert_bytes_back (P:=prog) w 77 9 5 ⟨g,0,none⟩ c l underlying77 underlying5 underlying9 ?_;intro j hj;rw [show (⟨g,0,none⟩:Addr).add j=⟨g,j,none⟩ by rw [Addr.add_mid,Nat.zero_add]];exact hc j hj
theorem rA (n:Nat):(madeCells (Value.int .u8 0).cells (n*1)).toList=List.replicate n (.int .u8 0):=by
 apply List.ext_getElem?;intro i
 by_cases h:i<n
 ·simp [madeCells,h,Value.cells,Nat.mod_one]
 ·simp [madeCells,h,Value.cells]
theorem qS {g:Nat} {e:TypeId} (h:w.ownsRow base e 1 (S_ (some ⟨g,0,none⟩) n n) n (madeCells (Value.int .u8 0).cells (n*1)).toList) (w2:World) (hk:w2.heap[g]?=w.heap[g]?):(convert 77 9 (S_ (some ⟨g,0,none⟩) n n)).run prog w2 = .ok (.string ⟨(List.replicate n 0).toArray⟩) w2:=by
 have:=kW (List.replicate n 0) g n w2 (fun j hj=>by
  rw [rL_] at hj;rw [c_ hk,h.cellAt j O_,rA];simp [hj])
 rw [rL_] at this;exact this
theorem iI_ (w:World):C_ 136 #[] w (hv_ uO w):=by
 have k:=H_ (g_ w (.cells #[.string ByteArray.empty,I_ 0,I_ 0] 83));obtain ⟨o,n,g,i,j⟩:=info_parts nH;go_enter func136,ntmps136
 go_wp2_with (first
  | (refine wpList_make_full (w.alloc (.cells #[.string ByteArray.empty,I_ 0,I_ 0] 83)) rfl (.const (I_ 16)) (.const (I_ 16)) 77 rfl (w) 5 o (.int .u8 0) 1 underlying77 n g i .i64 .i64 16 16 16 rfl rfl rfl rfl (by rw [j];omega) (by unfold maxLen;omega) (b_ (aI (w) w) _).size ?_;intro w4 a d;rw [show (w.alloc (.cells #[.string ByteArray.empty,I_ 0,I_ 0] 83)).heap.size=w.heap.size+1 by simp] at a;have m:=qS a w4 rfl;have c:=H_ (dV d k.out z_);have f:=H_ ((b_ (aI (w) w) (.cells #[.string ByteArray.empty,I_ 0,I_ 0] 83)).grown d (b_ (aI (w) w) _).size (fun b l=>by cases l)))
  | (refine cV rfl 83 (.tmp 0) (.tmp 3) rfl rfl w #[.string ⟨(List.replicate 16 0).toArray⟩,I_ 0,I_ 0] rfl rfl 83 _ (c) dB rfl (eX) ?_))
 show bodyPost prog f136 _ _ _ _
 refine bodyPost_ret (fd_ rfl rfl (setRow_heap _ _ _ _ _ _ c)) rfl ?_;exact ⟨rfl,j_ f.out (aQ _) _⟩
theorem gU_ (w:World):C_ 138 #[] w (hv_ uF w):=by
 have k:=H_ (g_ w (.cells #[.string ByteArray.empty,I_ 0,I_ 0] 83));obtain ⟨o,n,g,i,j⟩:=info_parts nH;go_enter func138,ntmps138
 go_wp2_with (first
  | (refine wpList_make_full (w.alloc (.cells #[.string ByteArray.empty,I_ 0,I_ 0] 83)) rfl (.const (I_ 16)) (.const (I_ 16)) 77 rfl (w) 5 o (.int .u8 0) 1 underlying77 n g i .i64 .i64 16 16 16 rfl rfl rfl rfl (by rw [j];omega) (by unfold maxLen;omega) (b_ (aI (w) w) _).size ?_;intro w4 a d;rw [show (w.alloc (.cells #[.string ByteArray.empty,I_ 0,I_ 0] 83)).heap.size=w.heap.size+1 by simp] at a;have m:=qS a w4 rfl;have c:=H_ (dV d k.out z_);have f:=H_ ((b_ (aI (w) w) (.cells #[.string ByteArray.empty,I_ 0,I_ 0] 83)).grown d (b_ (aI (w) w) _).size (fun b l=>by cases l)))
  | (refine cV rfl 83 (.tmp 0) (.tmp 3) rfl rfl w #[.string ⟨(List.replicate 16 0).toArray⟩,I_ 3,I_ 0] rfl rfl 83 _ (c) dB rfl (eX) ?_))
 show bodyPost prog f138 _ _ _ _
 refine bodyPost_ret (fd_ rfl rfl (setRow_heap _ _ _ _ _ _ c)) rfl ?_;exact ⟨rfl,j_ f.out (aQ _) _⟩
end
section
def U8R:RR UInt8 1:=RR.flat (fun b=>[.int .u8 (b.toNat:Int)]) (fun a=>⟨rfl,fun u hu=>by simp at hu;subst hu;rfl⟩)
theorem zP (w:World) (s:ByteArray):LW U8R (Lib.bytesWorld w 5 s) (fun _=>False) (w) s.data.toList:=by
 have g:=Lib.bytesWorld_at_new w 5 s;have l:(Lib.bytesCells w 5 s).size>=s.data.toList.length:=by simp [Lib.bytesCells]
 refine ⟨fun h=>h,s.data.toList.map (fun b=>[.int .u8 (b.toNat:Int)]),⟨fun j c=>?_,by rw [Lib.bytesWorld_size];omega,cB.shp (R:=U8R) (w:=w) (S:=fun _=>False) (cB.of_map _),fun i r j u a c=>?_⟩,cB.of_map _⟩
 ·have f:j<s.data.toList.length:=by simpa using c
  rw [Nat.zero_add]
  constructor
  ·have:=Lib.bytesWorld_cell w 5 s j (by simpa using f);rw [this];rfl
  ·simp [World.frozen?,g];omega
 ·rw [gP_] at a
  cases hb:s.data.toList[i]? with
  | none=>rw [hb] at a;simp at a
  | some b=>
   rw [hb] at a;have a:[Value.int .u8 (b.toNat:Int)]=r:=by simpa using a
   subst a
   match j with
   | 0=>
    have k:Value.int .u8 (b.toNat:Int)=u:=by simpa using c
    subst k;have d:=bK hb;rw [Nat.mul_one,Nat.add_zero,Lib.bytesWorld_cell w 5 s i (by simpa using d)];have:s.data.toList.getD i 0=b:=by rw [List.getD_eq_getElem?_getD,hb];rfl
    rw [this]
   | j+1=>simp at c
theorem rO (w:World) (e:TypeId) (s:ByteArray):q_ w (Lib.bytesWorld w e s):=by
 refine ⟨?_,?_,?_,by rw [Lib.bytesWorld_size];omega,fun k hk=>Lib.bytesWorld_at_old w e s k hk⟩ <;> rfl
def nN (v dZ:Int) (i:Nat):Bool:=(bits .and .i64 dZ ((2 ^ (i / 8):Nat):Int) != 0)&&(bits .and .i64 v ((2 ^ (i / 8):Nat):Int) == 0)
def fN (d t:ByteArray) (v dZ:Int) (k:Nat):List UInt8:=(List.range 16).map (fun i=>if i<k/\nN v dZ i=true then t.data.toList.getD i 0 else d.data.toList.getD i 0)
theorem cT (d t:ByteArray) (v dZ:Int) (k:Nat):(fN d t v dZ k).length=16:=by unfold fN;simp
theorem iM {d t:ByteArray} {v dZ:Int} (h:i<16):(fN d t v dZ k)[i]?=some (if i<k/\nN v dZ i=true then t.data.toList.getD i 0 else d.data.toList.getD i 0):=by
 unfold fN;rw [gP_,List.getElem?_range h];rfl
theorem bh_ {d t:ByteArray} {v dZ:Int} (hd:d.size=16):fN d t v dZ 0=d.data.toList:=by
 apply List.ext_getElem?;intro i;have hl:d.data.toList.length=16:=by simpa using hd
 by_cases h:i<16
 ·rw [iM h,if_neg O_,List.getD_eq_getElem?_getD,cU O_];rfl
 ·rw [xX (by rw [cT];omega),xX O_]
theorem wH {d t:ByteArray} {v dZ:Int} (h:k<16) (hn:nN v dZ k=true):(fN d t v dZ k).set k (t.data.toList.getD k 0)=fN d t v dZ (k+1):=by
 apply List.ext_getElem?;intro i
 by_cases a:i<16
 ·by_cases b:i=k
  ·subst b;rw [nU (by rw [cT];exact h),iM a,if_pos ⟨O_,hn⟩]
  ·rw [gN_ (fun e=>b e.symm),iM a,iM a]
   congr 2
   by_cases hl:i<k
   ·simp [hl,show i<k+1 by omega]
   ·simp [hl,show ¬i<k+1 by omega]
 ·rw [xX (by rw [lL,cT];omega),xX (by rw [cT];omega)]
theorem kZ {d t:ByteArray} {v dZ:Int} (hn:nN v dZ k=false):fN d t v dZ k=fN d t v dZ (k+1):=by
 apply List.ext_getElem?;intro i
 by_cases a:i<16
 ·rw [iM a,iM a]
  congr 2
  by_cases b:i=k
  ·subst b;simp [hn]
  ·by_cases hl:i<k
   ·simp [hl,show i<k+1 by omega]
   ·simp [hl,show ¬i<k+1 by omega]
 ·rw [xX (by rw [cT];omega),xX (by rw [cT];omega)]
def fM (p:Pg) (dZ:Int) (t:ByteArray):Pg:=⟨⟨(fN p.data t p.valid dZ 16).toArray⟩,bits .or .i64 p.valid dZ,p.dirty⟩
theorem in_ (d:ByteArray) (v y dZ:Int) (t:ByteArray) (w:World) (ok:jC ⟨d,v,y⟩) (hs:0<=dZ/\dZ<=3) (ht:t.size=16):C_ 150 #[wV d v y,I_ dZ,.string t] w (zG (fM ⟨d,v,y⟩ dZ t) 0 w):=by
 have R:=fun w'=>nB d v y w' ok;have Z:d.size=16:=ok.len;have q:=H_ (m_ (g_ w (.cells #[.string d,I_ v,I_ y] 83)) (.cells #[.string ByteArray.empty,I_ 0,I_ 0] 83));have g:=H_ (l_ (w.alloc (.cells #[.string d,I_ v,I_ y] 83)) (.cells #[.string ByteArray.empty,I_ 0,I_ 0] 83) (w+1) z_);have o:=H_ (b_ (b_ (aI (w) w) (.cells #[.string d,I_ v,I_ y] 83)) (.cells #[.string ByteArray.empty,I_ 0,I_ 0] 83));have L:=H_ Z;have HT:=H_ ht;have d1:decide (dZ<0)=false:=dF O_;have d2:decide (3<dZ)=false:=dF O_;have d3:((t.size:Int) != 16)=false:=by simp;omega
 have K:=fun w=>Lib.run_convert_string_bytes (P:=prog) w 9 77 5 d underlying9 underlying77 underlying5;clear ok Z ht;go_enter func150,ntmps150
 go_upto_region 6 with (go_at_call 123;(with_reducible refine CM (R _) ?_);rintro e w1 ⟨rfl,I⟩;obtain ⟨C,u,z⟩:=bN q g o I;clear I;obtain ⟨x0,x1,x2⟩:=cL C.out)
 have m:=H_ (show LW U8R (Lib.bytesWorld w1 5 d) (fun _=>False) (w1) (fN d t v dZ 0) by rw [bh_ L.out];exact zP w1 d);have J:=rO w1 5 d;obtain ⟨D,x,A⟩:=bN C u z J;have hB:=z.size;have M:=p_ u;have a0:d.size<=16:=by have:=L.out;omega
 have a1:16<=d.size:=by have:=L.out;omega
 have a3:16<=t.size:=by have:=HT.out;omega
 clear J K x0 x1 x2 C u z q g o;generalize Lib.bytesWorld w1 5 d=V at m D x A;generalize grownCap w1 d.size 0 5=W;obtain ⟨B,H⟩:=aZ w1.heap.size;rw [<-H] at m hB M ⊢;clear H;go_wp2
 go_loopw [9] (fun i wx=>∃k:Nat,i = I_ k/\k<=16/\LW U8R wx (fun _=>False) B (fN d t v dZ k)/\q_ w wx/\aW wx (w) #[.string d,I_ v,I_ y] 83/\aW wx (w+1) #[.string ByteArray.empty,I_ 0,I_ 0] 83) (fun i _=>16 - (intOf i).toNat)
 case atStart=>exact ⟨0,rfl,O_,m.out,A.out,D.out,x.out⟩
 case round=>
  clear m A D x;obtain ⟨k,rfl,hk,F,Y,N,X⟩:=hrel;obtain ⟨m,o,q,g⟩:=sP F Y N X;obtain ⟨x0,x1,x2⟩:=cL N;clear Y N X
  by_cases c:k<16
  ·have a2:k<d.size:=O_
   have U:k<t.size:=O_
   have f0:=(F.slot (i:=k) (p:=0) (by rw [cT];exact c) O_).2;obtain ⟨c0,Q⟩:=(F.slot (i:=k) (p:=0) (by rw [cT];exact c) O_).1;rw [Nat.mul_one,Nat.add_zero] at f0 Q;have f:=H_ (show t.data.toList.getD k 0=t[k] by
    rw [List.getD_eq_getElem?_getD,cU (by simpa using U)];rfl)
   clear F;obtain ⟨E,O,s⟩:∃E:Nat,(E=0\/E=1)/\k / 8=E:=⟨k / 8,O_,rfl⟩;have S:(k:Int) / 8=(E:Int):=O_
   have G:=H_ (show nN v dZ k=((bits .and .i64 dZ ((2 ^ E:Nat):Int) != 0)&&(bits .and .i64 v ((2 ^ E:Nat):Int) == 0)) by unfold nN;rw [s]);clear s
   rcases O with rfl | rfl
   ·skip
    have b:=H_ (show nN v dZ k=((bits .and .i64 dZ 1 != 0)&&(bits .and .i64 v 1 == 0)) from G)
    cases e1:(bits .and .i64 dZ 1 != 0) with
    | false=>
     have l:=H_ (kZ (d:=d) (t:=t) (show nN v dZ k=false by rw [b.out,e1];rfl));go_wp2;go_roundw
     case rel=>exact ⟨k+1,by go_num,O_,by rw [<-l.out];exact m,o,q,g⟩
     case measure=>exact bH
    | true=>
     cases e2:(bits .and .i64 v 1 == 0) with
     | false=>
      have l:=H_ (kZ (d:=d) (t:=t) (show nN v dZ k=false by rw [b.out,e1,e2];rfl));go_wp2;go_roundw
      case rel=>exact ⟨k+1,by go_num,O_,by rw [<-l.out];exact m,o,q,g⟩
      case measure=>exact bH
     | true=>
      have l:=H_ (wH (d:=d) (t:=t) c (show nN v dZ k=true by rw [b.out,e1,e2];rfl));go_wp2;go_roundw
      case rel=>
       refine ⟨k+1,by go_num,O_,?_,bA o.out _ _ (by show w.heap.size<=B;omega),aM q.out _ _ (by show w.heap.size≠B;omega),aM g.out _ _ (by show w.heap.size+1≠B;omega)⟩;have:=m.setOne (i:=k) (p:=0) (a:=(fN d t v dZ k)[k]'(by rw [cT];exact c)) (a':=t.data.toList.getD k 0) (v:= .int .u8 ((t.data.toList.getD k 0).toNat:Int)) (cU _) O_ rfl (fun r n=>by
        have n:r=[.int .u8 _]:=n;subst n
        rfl)
       rw [l.out,Nat.mul_one,Nat.add_zero,f.out] at this;exact this
      case measure=>exact bH
   ·skip
    have b:=H_ (show nN v dZ k=((bits .and .i64 dZ 2 != 0)&&(bits .and .i64 v 2 == 0)) from G)
    cases e1:(bits .and .i64 dZ 2 != 0) with
    | false=>
     have l:=H_ (kZ (d:=d) (t:=t) (show nN v dZ k=false by rw [b.out,e1];rfl));go_wp2;go_roundw
     case rel=>exact ⟨k+1,by go_num,O_,by rw [<-l.out];exact m,o,q,g⟩
     case measure=>exact bH
    | true=>
     cases e2:(bits .and .i64 v 2 == 0) with
     | false=>
      have l:=H_ (kZ (d:=d) (t:=t) (show nN v dZ k=false by rw [b.out,e1,e2];rfl));go_wp2;go_roundw
      case rel=>exact ⟨k+1,by go_num,O_,by rw [<-l.out];exact m,o,q,g⟩
      case measure=>exact bH
     | true=>
      have l:=H_ (wH (d:=d) (t:=t) c (show nN v dZ k=true by rw [b.out,e1,e2];rfl));go_wp2;go_roundw
      case rel=>
       refine ⟨k+1,by go_num,O_,?_,bA o.out _ _ (by show w.heap.size<=B;omega),aM q.out _ _ (by show w.heap.size≠B;omega),aM g.out _ _ (by show w.heap.size+1≠B;omega)⟩;have:=m.setOne (i:=k) (p:=0) (a:=(fN d t v dZ k)[k]'(by rw [cT];exact c)) (a':=t.data.toList.getD k 0) (v:= .int .u8 ((t.data.toList.getD k 0).toNat:Int)) (cU _) O_ rfl (fun r n=>by
        have n:r=[.int .u8 _]:=n;subst n
        rfl)
       rw [l.out,Nat.mul_one,Nat.add_zero,f.out] at this;exact this
      case measure=>exact bH
  ·obtain rfl:k=16:=O_
   have K:(convert 77 9 (S_ (some ⟨B,0,none⟩) d.size W)).run prog wr = .ok (.string ⟨(fN d t v dZ 16).toArray⟩) wr:=by
    have:=kW (fN d t v dZ 16) B W wr (fun j hj=>by
     obtain ⟨r,n,hc⟩:=F.at_ (cU hj);have n:r=[.int .u8 _]:=n;subst n;have:=hc 0 _ rfl;rw [Nat.mul_one,Nat.add_zero] at this;exact this)
    rw [cT] at this;rw [L.out];exact this
   clear F
   go_wp2_with (refine cV rfl 83 (.tmp 6) (.tmp 64) rfl rfl (w+1) #[.string ⟨(fN d t v dZ 16).toArray⟩,I_ (bits .or .i64 v dZ),I_ y] rfl rfl 83 _ (g) dB rfl (eX) ?_)
   show bodyPost prog f150 _ _ _ _
   refine bodyPost_ret (pR rfl rfl rfl (setRow_heap _ _ _ _ _ _ g)) rfl ?_;exact ⟨rfl,j_ o.out O_ _⟩
end
section
abbrev erV (c e:Int):Value:= .agg #[I_ c,I_ e]
def xH (c e:Int):Prop:=0<=c/\c<=1000000/\(c=0↔e=0)
theorem sN:(prog.info? 60).map (·.size)=some 2:=by kernel_rfl
def kF (c e err:Int):Int × Int × Int:=if c=1000000 then (c,e,3) else (c+1,err,0)
def jk_ (r:Int × Int × Int) (w:World) (e:Ending) (w':World):Prop:=e = .returned (.tuple #[erV r.1 r.2.1,I_ r.2.2])/\q_ w w'
theorem bf_ {a b:Int}:(#[Value.int i64 a,I_ b]:Array Value).all (·.oneCell')=true:=by simp [Value.oneCell']
theorem b2_ (h:fn.results=#[.cell p 60,.tmp q]) {g:Nat}
  (hp:tmps.getD p undef = P_ g) (hq:tmps.getD q undef=u) (hg:w.heap[g]?=some (.cells #[a,b] t fr)):(results fn tmps).run prog w = .ok (.tuple #[.agg #[a,b],u]) w:=
 dm_ h tmps t fr u hp hq hg underlying60 rfl sN
theorem g6_ (w:World):C_ 146 #[I_ 128] w (nK (I_ 7) w):=by
 go_enter func146,ntmps146;go_wp2;go_ret;exact ⟨rfl,rfl⟩
end
section
structure Fr where
 file:Int
 page:Int
 pg:Pg
 tenant:Int
 holds:Int
 reading:Int
 writing:Int
def Fr.row (x:Fr):List Value:=[I_ x.file,I_ x.page,.string x.pg.data,I_ x.pg.valid,I_ x.pg.dirty,I_ x.tenant,I_ x.holds,I_ x.reading,I_ x.writing]
def rM:RR Fr 9:=RR.flat Fr.row (fun a=>⟨rfl,fun u hu=>by
 simp only[Fr.row,qJ,List.not_mem_nil,or_false] at hu
 rcases hu with rfl | rfl | rfl | rfl | rfl | rfl | rfl | rfl | rfl <;> rfl⟩)
theorem gl_:(prog.info? 85).map (fun i=>(i.zero,i.size,i.bytes))=some (some (.agg (pC 0 0 ByteArray.empty 0 0 0 0 0 0)),9,80):=by kernel_rfl
theorem eq_:rY prog 24 85 9:=by
 obtain ⟨i,h1,h2,h3,h4⟩:=info_parts gl_;exact ⟨i,_,80,underlying24,h1,h2,h3,h4,rfl,O_,O_⟩
structure Fl where
 dev:Int
 slot:Int
 c:Cn
 size:Int
 blocks:Int
 ecnt:Int
 eerr:Int
 sseq:Int
 ssize:Int
 sblocks:Int
 which:Int
 seq:Int
def Fl.rowT (f:Fl) (h:Nat) (A:Option Addr) (cap:Nat):List Value:=[I_ f.dev,I_ f.slot,I_ h,S_ A (f_ h f.c).kids.length cap,I_ (f_ h f.c).val,I_ (f_ h f.c).marks,I_ f.size,I_ f.blocks,I_ f.ecnt,I_ f.eerr,I_ f.sseq,I_ f.ssize,I_ f.sblocks,I_ f.which,I_ f.seq]
def FlP (w:World) (S:Nat->Prop) (f:Fl) (r:List Value):Prop:=∃(h:Nat) (A:Option Addr) (cap:Nat),aX f.c/\X_ h f.c/\(f_ h f.c).kids.length<=cap/\NK w S A (f_ h f.c).kids/\r=f.rowT h A cap
def jG:RR Fl 15 where
 p:=FlP
 st w w' S a r hk h:=by obtain ⟨n,A,cap,h1,h2,h3,h4,h5⟩:=h;exact ⟨n,A,cap,h1,h2,h3,h4.kept hk.1 hk.2,h5⟩
 wk w S S' a r hS h:=by obtain ⟨n,A,cap,h1,h2,h3,h4,h5⟩:=h;exact ⟨n,A,cap,h1,h2,h3,h4.weak hS,h5⟩
 sh w S a r h:=by
  obtain ⟨n,A,cap,h1,h2,h3,h4,rfl⟩:=h;refine ⟨rfl,fun u hu=>?_⟩;simp only[Fl.rowT,qJ,List.not_mem_nil,or_false] at hu
  rcases hu with rfl | rfl | rfl | rfl | rfl | rfl | rfl | rfl | rfl | rfl | rfl | rfl | rfl | rfl | rfl <;> rfl
theorem gk_:(prog.info? 64).map (fun i=>(i.zero,i.size,i.bytes))=some (some (.agg #[I_ 0,I_ 0,I_ 0,S_ none 0 0,I_ 0,I_ 0,I_ 0,I_ 0,I_ 0,I_ 0,I_ 0,I_ 0,I_ 0,I_ 0,I_ 0]),15,136):=by kernel_rfl
theorem eo_:rY prog 23 64 15:=by
 obtain ⟨i,h1,h2,h3,h4⟩:=info_parts gk_;exact ⟨i,_,136,underlying23,h1,h2,h3,h4,rfl,O_,O_⟩
theorem cf_:(prog.info? 119).map (fun i=>(i.zero,i.size,i.bytes))=some (some (.agg #[S_ none 0 0,S_ none 0 0,S_ none 0 0]),3,72):=by kernel_rfl
theorem hI_:rY prog 27 119 3:=by
 obtain ⟨i,h1,h2,h3,h4⟩:=info_parts cf_;exact ⟨i,_,72,underlying27,h1,h2,h3,h4,rfl,O_,O_⟩
structure Ck where
 files:List Fl
 frames:List Fr
 zones:List Zn
 groups:List Gr
 lists:List Lr
 clocks:List Int
 ptes:List Pt
abbrev cI (a b c d e f g:Value):Value:= .agg #[a,b,c,d,e,f,g]
structure x_ (w:World) (S:Nat->Prop) (a b c d e f g:Value) (C:Ck):Prop where
 files:LA jG w S a C.files
 frames:LA rM w S b C.frames
 zones:LA pE w S c C.zones
 groups:LA qN w S d C.groups
 lists:LA sJ w S e C.lists
 clocks:LA M_ w S f C.clocks
 ptes:LA sA w S g C.ptes
theorem x_.kept {w w':World} {c d:Value} {C:Ck} (h:x_ w S a b c d e f g C) (hk:r_ S w w'):x_ w' S a b c d e f g C:=
 ⟨h.files.kept hk,h.frames.kept hk,h.zones.kept hk,h.groups.kept hk,h.lists.kept hk,h.clocks.kept hk,h.ptes.kept hk⟩
theorem x_.step {c d:Value} {C:Ck} (h:x_ w S a b c d e f g C) (hb:q_ w w'):x_ w' S a b c d e f g C:=h.kept (r_.of_below hb)
theorem x_.weak {S S':Nat->Prop} {c d:Value} {C:Ck} (h:x_ w S a b c d e f g C) (hS:∀z,z<w.heap.size->S z->S' z):x_ w S' a b c d e f g C:=
 ⟨h.files.weak hS,h.frames.weak hS,h.zones.weak hS,h.groups.weak hS,h.lists.weak hS,h.clocks.weak hS,h.ptes.weak hS⟩
theorem fI:(prog.info? 30).map (·.size)=some 7:=by kernel_rfl
structure ja_ (C:Ck):Prop where
 files:C.files.length<=100
 frames:C.frames.length<=100
 groups:C.groups.length<=100
 lists:C.lists.length<=100
 clocks:C.clocks.length<=100
structure ki_ (w:World) (B:Nat) (S:Nat->Prop) (a b d e f:Value) (C:Ck) (n1 n2 n3 n4:Nat):Prop where
 files:LO jG 64 w B S a C.files
 frames:LO rM 85 w n1 S b C.frames
 groups:LO qN 72 w n2 S d C.groups
 lists:LO sJ 119 w n3 S e C.lists
 clocks:LO M_ 3 w n4 S f C.clocks
 le1:B<=n1
 le2:n1<=n2
 le3:n2<=n3
 le4:n3<=n4
 lt1:∀z,a.ownBlock=some z->z<n1
 lt2:∀z,b.ownBlock=some z->z<n2
 lt3:∀z,d.ownBlock=some z->z<n3
 lt4:∀z,e.ownBlock=some z->z<n4
def jj_ (C:Ck) (S:Nat->Prop) (c g:Value) (w:World) (en:Ending) (w':World):Prop:=∃a b d e f n1 n2 n3 n4,en = .returned (cI a b c d e f g)/\ki_ w' (w) S a b d e f C n1 n2 n3 n4/\q_ w w'
theorem LA.cap {R:RR α k} {v:Value} {L:List α} (h:LA R w S v L):∃A n cap,v = S_ A n cap:=by obtain ⟨A,cap,e,_⟩:=h.form;exact ⟨A,_,cap,e⟩
theorem LO.cap {R:RR α k} {e:TypeId} {v:Value} {L:List α} (h:LO R e w base S v L):∃A n cap,v = S_ A n cap:=(h.la (S':=gL) (fun _ _ _=>trivial) (fun _ _=>trivial)).cap
end
section
abbrev oF (x:Fr):Obj:= .cells #[.int .i64 x.file,.int .i64 x.page,.string x.pg.data,.int .i64 x.pg.valid,.int .i64 x.pg.dirty,.int .i64 x.tenant,.int .i64 x.holds,.int .i64 x.reading,.int .i64 x.writing] 85 (0,0)
theorem x_.caps {S:Nat→Prop} {c d:Value} {C:Ck} (h:x_ w S a b c d e f g C):∃A1 m1 c1 A2 m2 c2 A3 m3 c3 A4 m4 c4 A5 m5 c5 A6 m6 c6 A7 m7 c7,a = .slice A1 m1 c1∧b = .slice A2 m2 c2∧c = .slice A3 m3 c3∧d = .slice A4 m4 c4∧e = .slice A5 m5 c5∧f = .slice A6 m6 c6∧g = .slice A7 m7 c7:=by
 obtain ⟨A1,m1,c1,rfl⟩:=h.files.cap
 obtain ⟨A2,m2,c2,rfl⟩:=h.frames.cap
 obtain ⟨A3,m3,c3,rfl⟩:=h.zones.cap
 obtain ⟨A4,m4,c4,rfl⟩:=h.groups.cap
 obtain ⟨A5,m5,c5,rfl⟩:=h.lists.cap
 obtain ⟨A6,m6,c6,rfl⟩:=h.clocks.cap
 obtain ⟨A7,m7,c7,rfl⟩:=h.ptes.cap
 exact ⟨_,_,_,_,_,_,_,_,_,_,_,_,_,_,_,_,_,_,_,_,_,rfl,rfl,rfl,rfl,rfl,rfl,rfl⟩
theorem x_.caps5 {S:Nat→Prop} {c d:Value} {C:Ck} (h:x_ w S a b c d e f g C):∃A3 m3 c3 A4 m4 c4 A5 m5 c5 A6 m6 c6 A7 m7 c7,c = .slice A3 m3 c3∧d = .slice A4 m4 c4∧e = .slice A5 m5 c5∧f = .slice A6 m6 c6∧g = .slice A7 m7 c7:=by
 obtain ⟨_,_,_,_,_,_,A3,m3,c3,A4,m4,c4,A5,m5,c5,A6,m6,c6,A7,m7,c7,_,_,h3,h4,h5,h6,h7⟩:=h.caps
 exact ⟨_,_,_,_,_,_,_,_,_,_,_,_,_,_,_,h3,h4,h5,h6,h7⟩
abbrev fG (j:Int) (x:Fr):Array Value:=#[.int .i64 j,.int .i64 x.page,.string x.pg.data,.int .i64 x.pg.valid,.int .i64 x.pg.dirty,.int .i64 x.tenant,.int .i64 x.holds,.int .i64 x.reading,.int .i64 x.writing]
theorem zc {b o t ct:Nat} {x:Fl} (h:w'.heap[b]?=w.heap[b]?) (hc:∀(j:Nat) (u:Value),(x.rowT t A ct)[j]?=some u→w.cell? ⟨b,o+j,none⟩=some u):w'.cell? ⟨b,o,none⟩=some (.int .i64 x.dev)∧w'.cell? ⟨b,o+1,none⟩=some (.int .i64 x.slot)∧w'.cell? ⟨b,o+2,none⟩=some (.int .i64 t)∧w'.cell? ⟨b,o+3,none⟩=some (.slice A (f_ t x.c).kids.length ct)∧w'.cell? ⟨b,o+4,none⟩=some (.int .i64 (f_ t x.c).val)∧w'.cell? ⟨b,o+5,none⟩=some (.int .i64 (f_ t x.c).marks)∧w'.cell? ⟨b,o+6,none⟩=some (.int .i64 x.size)∧w'.cell? ⟨b,o+7,none⟩=some (.int .i64 x.blocks)∧w'.cell? ⟨b,o+8,none⟩=some (.int .i64 x.ecnt)∧w'.cell? ⟨b,o+9,none⟩=some (.int .i64 x.eerr)∧w'.cell? ⟨b,o+10,none⟩=some (.int .i64 x.sseq)∧w'.cell? ⟨b,o+11,none⟩=some (.int .i64 x.ssize)∧w'.cell? ⟨b,o+12,none⟩=some (.int .i64 x.sblocks)∧w'.cell? ⟨b,o+13,none⟩=some (.int .i64 x.which)∧w'.cell? ⟨b,o+14,none⟩=some (.int .i64 x.seq):=
 ⟨(c_ h).trans (hc 0 _ rfl),(c_ h).trans (hc 1 _ rfl),(c_ h).trans (hc 2 _ rfl),(c_ h).trans (hc 3 _ rfl),(c_ h).trans (hc 4 _ rfl),(c_ h).trans (hc 5 _ rfl),(c_ h).trans (hc 6 _ rfl),(c_ h).trans (hc 7 _ rfl),(c_ h).trans (hc 8 _ rfl),(c_ h).trans (hc 9 _ rfl),(c_ h).trans (hc 10 _ rfl),(c_ h).trans (hc 11 _ rfl),(c_ h).trans (hc 12 _ rfl),(c_ h).trans (hc 13 _ rfl),(c_ h).trans (hc 14 _ rfl)⟩
theorem scs {b:Nat} {v:Value} {cs:List Value} (h:w.setCell ⟨b,i,none⟩ v=W) (hb:Hid (w.heap[b]?=some (.cells cs.toArray t (0,0)))):Hid (W.heap[b]?=some (.cells (cs.set i v).toArray t (0,0))):=by
 subst h
 have:=R_ (i:=i) hb.out v
 rw [List.setIfInBounds_toArray] at this
 exact Lib.hid this
theorem scx {b:Nat} {v:Value} (h:w.setCell ⟨b,i,none⟩ v=W) (hz:Hid (w.heap[z]?=some o)) (hn:z≠b:=by omega):Hid (W.heap[z]?=some o):=by subst h;exact Lib.hid ((Below.heap_setCell w ⟨b,i,none⟩ v z hn).trans hz.out)
theorem scl {b:Nat} {v:Value} (h:w.setCell ⟨b,i,none⟩ v=W) (hb:Hid (Below w0.heap.size w0 w)) (hn:w0.heap.size≤b:=by omega):Hid (Below w0.heap.size w0 W):=by subst h;exact Lib.hid (Below.setCell hb.out hn v)
theorem srs {b:Nat} {old:Array Value} (h:w.setRow b r=W) (hb:Hid (w.heap[b]?=some (.cells old t (0,0)))):Hid (W.heap[b]?=some (.cells r t (0,0))):=by subst h;exact Lib.hid (setRow_heap _ _ _ _ _ _ hb.out)
theorem srx {b:Nat} (h:w.setRow b r=W) (hz:Hid (w.heap[z]?=some o)) (hn:z≠b:=by omega):Hid (W.heap[z]?=some o):=by subst h;exact Lib.hid ((setRow_other w b z r hn).trans hz.out)
theorem srl {b:Nat} (h:w.setRow b r=W) (hb:Hid (Below w0.heap.size w0 w)) (hn:w0.heap.size≤b:=by omega):Hid (Below w0.heap.size w0 W):=by subst h;exact Lib.hid (j_ hb.out hn r)
theorem smx {b:Nat} {r:List Value} (h:w.setCells b i r=W) (hz:Hid (w.heap[z]?=some o)) (hn:z≠b:=by omega):Hid (W.heap[z]?=some o):=by subst h;exact Lib.hid ((u_ b r i w z hn).trans hz.out)
theorem sml {b:Nat} {r:List Value} (h:w.setCells b i r=W) (hb:Hid (Below w0.heap.size w0 w)) (hn:w0.heap.size≤b:=by omega):Hid (Below w0.heap.size w0 W):=by subst h;exact Lib.hid (aS hb.out hn i r)
end
section
theorem LA.oldB {R:RR α k} {v:Value} {L:List α} (h:LA R w S v L) (hb:Below (w) w w'):LA R w' (fun z=>S z/\z<w.heap.size) v L:=h.old.step hb
theorem LO.keepX {R:RR α k} {e:TypeId} {v:Value} {L:List α} (h:LO R e w base (fun z=>S z/\z<X) v L) (hX:X<base) (p:Nat) (u:Value):LO R e (w.setCell ⟨X,p,none⟩ u) base (fun z=>S z/\z<X) v L:=
 h.kept (v_ w ⟨X,p,none⟩ u) (.inr ⟨X,rfl,fun h=>by have:=h.2;omega,fun hv=>by have:=(h.own hv).1;omega⟩)
theorem LO.keepR {R:RR α k} {e:TypeId} {Y:Nat} {v:Value} {L:List α} (h:LO R e w base (fun z=>S z/\z<X) v L) (hX:Y<base) (hY:X<=Y) (cs:Array Value):LO R e (w.setRow Y cs) base (fun z=>S z/\z<X) v L:=
 h.kept (gE w Y cs) (.inr ⟨Y,rfl,fun h=>by have:=h.2;omega,fun hv=>by have:=(h.own hv).1;omega⟩)
theorem tR {B C D E F G:Option Addr} {a b c d e f g a' b' c' d' e' f' g':Nat}:(#[Value.slice A a a',.slice B b b',.slice C c c',.slice D d d',.slice E e e',.slice F f f',.slice G g g']:Array Value).all (·.oneCell')=true:=by simp [Value.oneCell']
theorem mB (h:fn.results=#[.cell p 30]) {g:Nat} {x0 x1 x2 x3 x4 x5 x6:Value}
  (hp:tmps.getD p undef = P_ g) (hg:w.heap[g]?=some (.cells #[x0,x1,x2,x3,x4,x5,x6] t fr)):(results fn tmps).run prog w = .ok (cI x0 x1 x2 x3 x4 x5 x6) w:=
 results_cell_row h tmps w g t _ fr _ hp hg underlying30 rfl fI
theorem if_ {C:Ck} {c d:Value} (h:x_ w S a b c d e f g C) (hl:ja_ C):Calls prog 21 #[cI a b c d e f g] w (jj_ C (fun z=>S z/\z<w.heap.size) c g w):=by
 obtain ⟨A1,m1,c1,A2,m2,c2,A3,m3,c3,A4,m4,c4,A5,m5,c5,A6,m6,c6,A7,m7,c7,rfl,rfl,rfl,rfl,rfl,rfl,rfl⟩:=x_.caps h;have H:=H_ h;have HL:=H_ hl;have a0:=H_ (m_ (g_ w (.cells (E_ A1 m1 c1 A2 m2 c2 A3 m3 c3 A4 m4 c4 A5 m5 c5 A6 m6 c6 A7 m7 c7) 30)) (cG));have ad:=H_ (l_ (w.alloc (.cells (E_ A1 m1 c1 A2 m2 c2 A3 m3 c3 A4 m4 c4 A5 m5 c5 A6 m6 c6 A7 m7 c7) 30)) (cG) (w+1) z_);have P:=H_ (b_ (b_ (aI (w) w) (.cells (E_ A1 m1 c1 A2 m2 c2 A3 m3 c3 A4 m4 c4 A5 m5 c5 A6 m6 c6 A7 m7 c7) 30)) (cG));have z0:w.heap.size+1<((w.alloc (.cells (E_ A1 m1 c1 A2 m2 c2 A3 m3 c3 A4 m4 c4 A5 m5 c5 A6 m6 c6 A7 m7 c7) 30)).alloc (cG)).heap.size:=p_ ad;clear h hl;go_enter func21,ntmps21
 go_upto_region 1 with fail
 generalize (w.alloc _).alloc _=W0 at a0 ad P z0;obtain ⟨x0,V,W,X,Y,Z,x6⟩:=aF a0.out;have f0:=t_ a0 0
 go_wp2_with (first
  | (at_builtin;(refine cN jG eo_ rfl _ (.tmp 4) rfl rfl (.slice A1 m1 c1) (fun z=>S z/\z<w.heap.size) C.files rfl (H.files.oldB P) (by have:=HL.files;omega) ?_);intro v1 w1 o a1;obtain ⟨t,F,y,rfl⟩:=o.cap;have i:=dV a1 a0.out z_;have k:=P.grown a1 P.size (fun b hb=>by cases hb);have l:=a1.size;have ao:=H_ (show (w1.setCell ⟨w,0,none⟩ (.slice t F y)).heap[w.heap.size]?=some (.cells (E_ t F y A2 m2 c2 A3 m3 c3 A4 m4 c4 A5 m5 c5 A6 m6 c6 A7 m7 c7) 30 (0,0)) from R_ i _);have aj:=H_ (aM (dV a1 ad.out z_) ⟨w,0,none⟩ (.slice t F y) z_);have af:=H_ (bA k ⟨w,0,none⟩ (.slice t F y) (aQ _));have L:=H_ (o.keepX O_ 0 (.slice t F y));have z1:w.heap.size+1<(w1.setCell ⟨w,0,none⟩ (.slice t F y)).heap.size:=p_ aj;have au:=H_ (show (W0).heap.size<=(w1.setCell ⟨w,0,none⟩ (.slice t F y)).heap.size by have j:=l;simp only[World.setCell,Array.size_modify] at j ⊢;exact j);clear x0 V W X Y Z x6;obtain ⟨x0,V,W,X,Y,Z,x6⟩:=aF i;have f1:=t_ i 0;clear o)
  | (at_builtin;(refine cN rM eq_ rfl _ (.tmp 8) rfl rfl (.slice A2 m2 c2) (fun z=>S z/\z<w.heap.size) C.frames rfl (H.frames.oldB af) (by have:=HL.frames;omega) ?_);intro v2 w2 p R;obtain ⟨u,G,A,rfl⟩:=p.cap;have i:=dV R ao.out z_;have k:=af.grown R af.size (fun b hb=>by cases hb);have l:=R.size;have ap:=H_ (show (w2.setCell ⟨w,1,none⟩ (.slice u G A)).heap[w.heap.size]?=some (.cells (E_ t F y u G A A3 m3 c3 A4 m4 c4 A5 m5 c5 A6 m6 c6 A7 m7 c7) 30 (0,0)) from R_ i _);have ak:=H_ (aM (dV R aj.out z_) ⟨w,1,none⟩ (.slice u G A) z_);have ag:=H_ (bA k ⟨w,1,none⟩ (.slice u G A) (aQ _));have M:=H_ (p.keepX O_ 1 (.slice u G A));have a2:=H_ ((L.kept R (.inl rfl)).keepX O_ 1 (.slice u G A));have z2:w.heap.size+1<(w2.setCell ⟨w,1,none⟩ (.slice u G A)).heap.size:=p_ ak;have av:=H_ (show (w1.setCell ⟨w,0,none⟩ (.slice t F y)).heap.size<=(w2.setCell ⟨w,1,none⟩ (.slice u G A)).heap.size by have j:=l;simp only[World.setCell,Array.size_modify] at j ⊢;exact j);clear x0 V W X Y Z x6;obtain ⟨x0,V,W,X,Y,Z,x6⟩:=aF i;have f2:=t_ i 1;clear p)
  | (at_builtin;(refine cN qN b5_ rfl _ (.tmp 12) rfl rfl (.slice A4 m4 c4) (fun z=>S z/\z<w.heap.size) C.groups rfl (H.groups.oldB ag) (by have:=HL.groups;omega) ?_);intro v3 w3 q E;obtain ⟨v,I,B,rfl⟩:=q.cap;have i:=dV E ap.out z_;have k:=ag.grown E ag.size (fun b hb=>by cases hb);have l:=E.size;have aq:=H_ (show (w3.setCell ⟨w,3,none⟩ (.slice v I B)).heap[w.heap.size]?=some (.cells (E_ t F y u G A A3 m3 c3 v I B A5 m5 c5 A6 m6 c6 A7 m7 c7) 30 (0,0)) from R_ i _);have al:=H_ (aM (dV E ak.out z_) ⟨w,3,none⟩ (.slice v I B) z_);have ah:=H_ (bA k ⟨w,3,none⟩ (.slice v I B) (aQ _));have N:=H_ (q.keepX O_ 3 (.slice v I B));have a3:=H_ ((a2.kept E (.inl rfl)).keepX O_ 3 (.slice v I B));have a6:=H_ ((M.kept E (.inl rfl)).keepX O_ 3 (.slice v I B));have z3:w.heap.size+1<(w3.setCell ⟨w,3,none⟩ (.slice v I B)).heap.size:=p_ al;have aw:=H_ (show (w2.setCell ⟨w,1,none⟩ (.slice u G A)).heap.size<=(w3.setCell ⟨w,3,none⟩ (.slice v I B)).heap.size by have j:=l;simp only[World.setCell,Array.size_modify] at j ⊢;exact j);clear x0 V W X Y Z x6;obtain ⟨x0,V,W,X,Y,Z,x6⟩:=aF i;have f3:=t_ i 3;clear q)
  | (at_builtin;(refine cN sJ hI_ rfl _ (.tmp 16) rfl rfl (.slice A5 m5 c5) (fun z=>S z/\z<w.heap.size) C.lists rfl (H.lists.oldB ah) (by have:=HL.lists;omega) ?_);intro v4 w4 r n;obtain ⟨x,J,D,rfl⟩:=r.cap;have i:=dV n aq.out z_;have k:=ah.grown n ah.size (fun b hb=>by cases hb);have l:=n.size;have ar:=H_ (show (w4.setCell ⟨w,4,none⟩ (.slice x J D)).heap[w.heap.size]?=some (.cells (E_ t F y u G A A3 m3 c3 v I B x J D A6 m6 c6 A7 m7 c7) 30 (0,0)) from R_ i _);have am:=H_ (aM (dV n al.out z_) ⟨w,4,none⟩ (.slice x J D) z_);have ai:=H_ (bA k ⟨w,4,none⟩ (.slice x J D) (aQ _));have O:=H_ (r.keepX O_ 4 (.slice x J D));have a4:=H_ ((a3.kept n (.inl rfl)).keepX O_ 4 (.slice x J D));have a7:=H_ ((a6.kept n (.inl rfl)).keepX O_ 4 (.slice x J D));have a9:=H_ ((N.kept n (.inl rfl)).keepX O_ 4 (.slice x J D));have z4:w.heap.size+1<(w4.setCell ⟨w,4,none⟩ (.slice x J D)).heap.size:=p_ am;have ax:=H_ (show (w3.setCell ⟨w,3,none⟩ (.slice v I B)).heap.size<=(w4.setCell ⟨w,4,none⟩ (.slice x J D)).heap.size by have j:=l;simp only[World.setCell,Array.size_modify] at j ⊢;exact j);clear x0 V W X Y Z x6;obtain ⟨x0,V,W,X,Y,Z,x6⟩:=aF i;have f4:=t_ i 4;clear r)
  | (at_builtin;(refine cN M_ cS rfl _ (.tmp 20) rfl rfl (.slice A6 m6 c6) (fun z=>S z/\z<w.heap.size) C.clocks rfl (H.clocks.oldB ai) (by have:=HL.clocks;omega) ?_);intro v5 w5 s m;obtain ⟨K,U,Q,rfl⟩:=s.cap;have i:=dV m ar.out z_;have k:=ai.grown m ai.size (fun b hb=>by cases hb);have l:=m.size;have ay:=H_ (show (w5.setCell ⟨w,5,none⟩ (.slice K U Q)).heap[w.heap.size]?=some (.cells (E_ t F y u G A A3 m3 c3 v I B x J D K U Q A7 m7 c7) 30 (0,0)) from R_ i _);have ae:=H_ (aM (dV m am.out z_) ⟨w,5,none⟩ (.slice K U Q) z_);have an:=H_ (bA k ⟨w,5,none⟩ (.slice K U Q) (aQ _));have ac:=H_ (s.keepX O_ 5 (.slice K U Q));have a5:=H_ ((a4.kept m (.inl rfl)).keepX O_ 5 (.slice K U Q));have a8:=H_ ((a7.kept m (.inl rfl)).keepX O_ 5 (.slice K U Q));have aa:=H_ ((a9.kept m (.inl rfl)).keepX O_ 5 (.slice K U Q));have ab:=H_ ((O.kept m (.inl rfl)).keepX O_ 5 (.slice K U Q));have z5:w.heap.size+1<(w5.setCell ⟨w,5,none⟩ (.slice K U Q)).heap.size:=p_ ae;have az:=H_ (show (w4.setCell ⟨w,4,none⟩ (.slice x J D)).heap.size<=(w5.setCell ⟨w,5,none⟩ (.slice K U Q)).heap.size by have j:=l;simp only[World.setCell,Array.size_modify] at j ⊢;exact j);clear x0 V W X Y Z x6;obtain ⟨x0,V,W,X,Y,Z,x6⟩:=aF i;have f5:=t_ i 5;clear s)
  | (refine aJ rfl (.tmp 2) (.tmp 23) rfl rfl rfl rfl ae rfl ?_))
 show bodyPost prog f21 _ _ _ _
 refine bodyPost_ret (mB rfl rfl (setRow_heap _ _ _ _ _ _ ae)) rfl ?_;have g1:=au.out;have g2:=av.out;have g3:=aw.out;have g4:=ax.out;have g0:=P.size;refine ⟨_,_,_,_,_,(w1.setCell ⟨w,0,none⟩ (.slice t F y)).heap.size,(w2.setCell ⟨w,1,none⟩ (.slice u G A)).heap.size,(w3.setCell ⟨w,3,none⟩ (.slice v I B)).heap.size,(w4.setCell ⟨w,4,none⟩ (.slice x J D)).heap.size,rfl,?_,j_ an.out O_ _⟩;exact ⟨(a5.keepR z0 O_ _).base_le g0,a8.keepR z1 O_ _,aa.keepR z2 O_ _,ab.keepR z3 O_ _,ac.keepR z4 O_ _,O_,g2,g3,g4,fun z hz=>(L.own hz).2,fun z hz=>(M.own hz).2,fun z hz=>(N.own hz).2,fun z hz=>(O.own hz).2⟩
end
section
theorem gF {C:Ck} (i:Nat) {c d:Value} (h:x_ w S a b c d e f g C) (hi:i<C.files.length):C_ 92 #[cI a b c d e f g,I_ i] w (cP true w):=by
 obtain ⟨A,cap,rfl,_,_⟩:=h.files.form;have i0:(0:Int)<=(i:Int):=O_
 have i1:(i:Int)<(C.files.length:Int):=O_
 clear h;go_enter func92,ntmps92;go_wp2;go_ret;exact ⟨rfl,b_ B_ _⟩
theorem mA (off n:Int) (w:World) (h1:0<=off) (h2:0<=n) (h3:off<=128) (h4:n<=128 - off):C_ 93 #[I_ off,I_ n] w (nK (.bool true) w):=by
 have d1:decide (n<=128 - off)=true:=dT h4;go_enter func93,ntmps93;go_wp2;go_ret;exact ⟨rfl,rfl⟩
theorem FrA.cells {cap:Nat} {L:List Fr} (h:LA rM w S (S_ A n cap) L) {i:Nat} {x:Fr} (hi:L[i]?=some x):∃b o,A=some ⟨b,o,none⟩/\b<w.heap.size/\
  w.cell? ⟨b,o+i*9,none⟩=some (I_ x.file)/\w.cell? ⟨b,o+i*9+1,none⟩=some (I_ x.page)/\w.cell? ⟨b,o+i*9+2,none⟩=some (.string x.pg.data)/\w.cell? ⟨b,o+i*9+3,none⟩=some (I_ x.pg.valid)/\w.cell? ⟨b,o+i*9+4,none⟩=some (I_ x.pg.dirty)/\
  w.cell? ⟨b,o+i*9+5,none⟩=some (I_ x.tenant)/\w.cell? ⟨b,o+i*9+6,none⟩=some (I_ x.holds)/\w.cell? ⟨b,o+i*9+7,none⟩=some (I_ x.reading)/\w.cell? ⟨b,o+i*9+8,none⟩=some (I_ x.writing):=by
 obtain ⟨b,o,cap',r,hv,c1,c2,c,d,a,hc⟩:=h.at_ hi;injection hv with e1 _ _
 have a:r=x.row:=a;subst a;exact ⟨b,o,e1,c,hc 0 _ rfl,hc 1 _ rfl,hc 2 _ rfl,hc 3 _ rfl,hc 4 _ rfl,hc 5 _ rfl,hc 6 _ rfl,hc 7 _ rfl,hc 8 _ rfl⟩
theorem FlA.cells {cap:Nat} {L:List Fl} (h:LA jG w S (S_ A n cap) L) {i:Nat} {x:Fl} (hi:L[i]?=some x):∃b o t B ct,A=some ⟨b,o,none⟩/\b<w.heap.size/\aX x.c/\X_ t x.c/\(f_ t x.c).kids.length<=ct/\NK w S B (f_ t x.c).kids/\
  ∀(j:Nat) (u:Value),(x.rowT t B ct)[j]?=some u->w.cell? ⟨b,o+i*15+j,none⟩=some u:=by
 obtain ⟨b,o,cap',r,hv,c1,c2,hb,hS,hp,hc⟩:=h.at_ hi;injection hv with e1 _ _
 obtain ⟨t,B,ct,h1,h2,h3,h4,rfl⟩:=hp;exact ⟨b,o,t,B,ct,e1,hb,h1,h2,h3,h4,hc⟩
def aS_ (x:Fr):Bool:=x.file != -1
theorem yR {C:Ck} (i:Nat) (x:Fr) {c d:Value} (h:x_ w S a b c d e f g C) (hi:C.frames[i]?=some x) (hl:C.frames.length<=100):C_ 37 #[cI a b c d e f g,I_ ((i:Int)+1)] w (cP (aS_ x) w):=by
 obtain ⟨A,cap,rfl,t,u⟩:=h.frames.form;obtain ⟨bb,o,rfl,l,c0,_⟩:=FrA.cells h.frames hi;have j:=bK hi;have k:=H_ (show aS_ x=(x.file != -1) from rfl);have n:(1:Int)<=(i:Int)+1:=O_
 have p:(i:Int)+1<=(C.frames.length:Int):=O_
 have q:i<C.frames.length:=j;have r:(i:Int)<(C.frames.length:Int):=O_
 have s:(i:Int)+1<=100:=O_
 obtain ⟨m,rest⟩:=aZ x.file;rw [<-rest] at c0 k;clear h hi rest;go_enter func37,ntmps37;go_wp2;go_ret;exact ⟨by rw [k.out];rfl,b_ B_ _⟩
theorem gm_ {c:Cn} (ht:X_ h c) (i:Int):D_ c i=(kR (aH 0 (4 ^ h) c) i).1:=by
 have a:4 ^ h<=256:=show 4 ^ h<=4 ^ 4 from Nat.pow_le_pow_right O_ ht.1;rw [as_ ht.2.1];unfold D_ gG
 by_cases h0:0<=i
 ·by_cases h1:i<=255
  ·simp [h0,h1]
  ·have:c i.toNat=(0,0):=ht.2.1 _ O_;simp [h0,h1,this]
 ·simp [h0]
theorem cq_ {c:Cn} (cap:Nat) (i:Int) (hl:aX c) (ht:X_ h c) (hcap:(f_ h c).kids.length<=cap) (hk:NK w S A (f_ h c).kids) :
  C_ 127 #[oD h A (f_ h c).kids.length cap (f_ h c).val (f_ h c).marks,I_ i] w (sB (D_ c i) w):=by
 have hE:hT_ (oD h A (f_ h c).kids.length cap (f_ h c).val (f_ h c).marks) (aH 0 (4 ^ h) c) w:=fun w' hb=>iX cap hl ht hcap (hk.step hb);rw [gm_ ht];exact iK_ _ _ _ _ _ _ _ w hE i
def wG (v:Int):Value:=if v<=0 then .tuple #[I_ 0,.bool false] else .tuple #[I_ v,.bool true]
def eR (v:Int) (w:World) (e:Ending) (w':World):Prop:=e = .returned (wG v)/\q_ w w'
theorem gR {C:Ck} (i:Nat) (x:Fl) (p:Int) {c d:Value} (h:x_ w S a b c d e f g C) (hi:C.files[i]?=some x):C_ 59 #[cI a b c d e f g,I_ i,I_ p] w (eR (D_ x.c p) w):=by
 have z:=bK hi;have y:=fun w' (hb:q_ w w')=>gF i (h.step hb) z;obtain ⟨A,cap,rfl,q1,q2⟩:=h.files.form;obtain ⟨bb,o,t,B,N,rfl,v,H,I,J,K,hc⟩:=FlA.cells h.files hi;have n:=fun w' (hb:q_ w w')=>cq_ N p H I J (K.step hb);have y2:w.cell? ⟨bb,o+i*15+2,none⟩=some (I_ t):=hc 2 _ rfl;have E:=hc 3 _ rfl;have F:w.cell? ⟨bb,o+i*15+4,none⟩=some (I_ (f_ t x.c).val):=hc 4 _ rfl;have G:w.cell? ⟨bb,o+i*15+5,none⟩=some (I_ (f_ t x.c).marks):=hc 5 _ rfl;have L:=H_ (fun X=>b_ (aI (w) w) X);have W:(0:Int)<=(i:Int):=O_
 have Y:(i:Int)<(C.files.length:Int):=O_
 generalize (f_ t x.c).kids.length=kn at *;generalize (f_ t x.c).val=kv at *;generalize (f_ t x.c).marks=Z at *;obtain ⟨r,q⟩:=aZ (D_ x.c p);rw [<-q] at n ⊢;clear hc h hi q H I J K;have M:=H_ (g_ w (.cells #[S_ (some ⟨bb,o,none⟩) C.files.length cap,b,c,d,e,f,g] 30));go_enter func59,ntmps59
 go_upto_region 3 with (go_at_call 92;(with_reducible refine CM (y _ fD) ?_);rintro e w1 ⟨rfl,m⟩)
 have j:=H_ (d_ (L.out _) m);have u:=lJ M m;obtain ⟨x0,O,P,Q,R,U,V⟩:=aF u.out;clear O P Q R U V;have D:=kt4 (j.block _ v) y2 E F G;clear y2 E F G;obtain ⟨y2,E,F,G⟩:=D;clear m
 by_cases hv:r<=0
 ·have s:=H_ (show wG r = .tuple #[I_ 0,.bool false] from if_pos hv)
  go_wp2_with (go_at_call 127;(with_reducible refine CM (n _ j.out) ?_);rintro e w2 ⟨rfl,k⟩;have l:=lU j k;clear k)
  go_ret2
  exact ⟨by rw [s.out];rfl,l⟩
 ·have s:=H_ (show wG r = .tuple #[I_ r,.bool true] from if_neg hv)
  go_wp2_with (go_at_call 127;(with_reducible refine CM (n _ j.out) ?_);rintro e w2 ⟨rfl,k⟩;have l:=lU j k;clear k)
  go_ret2
  exact ⟨by rw [s.out];rfl,l⟩
def Fr.v (x:Fr):Value:= .agg (fG x.file x)
def ak_ (x:Fr):Bool:=decide (x.holds=0)&&(decide (x.reading=0)&&decide (x.writing=0))
theorem ir_ (x:Fr) (w:World):C_ 155 #[x.v] w (cP (ak_ x) w):=by
 have a:=H_ (fun X=>b_ (aI (w) w) X);obtain ⟨i,j,⟨d,v,y⟩,t,c,f,g⟩:=x;have b:=H_ (show ak_ ⟨i,j,⟨d,v,y⟩,t,c,f,g⟩=(decide (c=0)&&(decide (f=0)&&decide (g=0))) from rfl)
 dsimp only[Fr.v]
 go_enter func155,ntmps155
 by_cases h1:c=0
 ·by_cases h2:f=0
  ·by_cases h3:g=0
   all_goals
    go_wp2;go_ret
    exact ⟨by rw [b.out];simp [h1,h2,h3],a.out _⟩
  ·go_wp2;go_ret
   exact ⟨by rw [b.out];simp [h1,h2],a.out _⟩
 ·go_wp2;go_ret
  exact ⟨by rw [b.out];simp [h1],a.out _⟩
end
section
def bD (pg off n:Int):Int × Int:=(max off (pg*16) - pg*16,min (off+n) ((pg+1)*16) - max off (pg*16))
theorem yG (pg off n:Int) (w:World) (h1:0<=pg/\pg<=100) (h2:0<=off/\off<=1000) (h3:0<=n/\n<=1000):C_ 151 #[I_ pg,I_ off,I_ n] w (nK (.tuple #[I_ (bD pg off n).1,I_ (bD pg off n).2]) w):=by
 obtain ⟨a1,a2⟩:=h1;obtain ⟨b,c⟩:=h2;obtain ⟨c1,c2⟩:=h3;have a:=H_ (show bD pg off n=(max off (pg*16) - pg*16,min (off+n) ((pg+1)*16) - max off (pg*16)) from rfl);go_enter func151,ntmps151
 by_cases h:off<pg*16
 ·by_cases h':off+n<=(pg+1)*16
  ·go_wp2
   go_ret2
   refine ⟨?_,rfl⟩;rw [a.out,Int.max_eq_right O_,Int.min_eq_left O_,Int.sub_self]
   rfl
  ·go_wp2
   go_ret2
   refine ⟨?_,rfl⟩;rw [a.out,Int.max_eq_right O_,Int.min_eq_right O_,Int.sub_self]
   rfl
 ·by_cases h':off+n<=(pg+1)*16
  ·go_wp2
   go_ret2
   refine ⟨?_,rfl⟩;rw [a.out,Int.max_eq_left O_,Int.min_eq_left O_]
   rfl
  ·go_wp2
   go_ret2
   refine ⟨?_,rfl⟩;rw [a.out,Int.max_eq_left O_,Int.min_eq_right O_]
   rfl
def zA (a k:Nat):List Int:=(List.range k).map fun (j:Nat)=>(((a+j:Nat):Nat):Int)
theorem aC_ (a k:Nat):zA a (k+1)=zA a k ++ [(((a+k:Nat):Nat):Int)]:=by simp [zA,List.range_succ]
theorem sX (a k:Nat):(zA a k).length=k:=by simp [zA]
def W_ (off n:Nat):List Int:=zA (off / 16) ((off+n+15) / 16 - off / 16)
theorem sW (off n:Nat) (S:Nat->Prop) (w:World) (h1:1<=n) (h2:off+n<=128) (hS:∀b,w.heap.size<=b->S b):C_ 88 #[I_ off,I_ n] w (pG (W_ off n) S w):=by
 have r:=fun w'=>mA (off:Int) (n:Int) w' O_ O_ O_ O_;have H:¬((n:Int)<1):=O_
 have y:((off:Int):Int).tdiv 16=((off / 16:Nat):Int):=by rw [tv_ O_];rfl
 have z:(off:Int) / 16=((off / 16:Nat):Int):=by rfl
 obtain ⟨a,q,C,D⟩:∃a:Nat,off / 16=a/\a*16<=off/\off<a*16+16:=⟨off / 16,rfl,O_,O_⟩;have B:=H_ (show W_ off n=zA a ((off+n+15) / 16 - a) by rw [<-q];rfl);rw [q] at y z;clear q;go_enter func88,ntmps88
 go_upto_region 5 with (go_at_call 93;(with_reducible refine CM (r _) ?_);rintro e w1 ⟨rfl,rfl⟩)
 clear y z
 go_loopw [5,6] (fun u i wx=>∃k:Nat,i = I_ ((a+k:Nat):Nat)/\k<=9/\(k=0\/(a+k)*16<off+n+16)/\LO M_ 3 wx (w) S u (zA a k)/\q_ w wx) (fun _ i _=>100 - (intOf i).toNat)
 case atStart=>exact ⟨0,rfl,O_,.inl rfl,LO.nil _ _ _ _ _,aI _ _⟩
 case round=>
  obtain ⟨k,rfl,G,v,x,o⟩:=hrel;have p:=H_ x;have m:=H_ o;clear x o
  by_cases l:(a+k)*16<off+n
  ·have g:=H_ (aC_ a k);obtain ⟨j,f⟩:=aZ (a+k);rw [<-f] at g l ⊢;have c:=H_ f;have E:j<=8:=O_
   have F:((j:Int)*16)<(off:Int)+(n:Int):=O_
   clear f
   go_wp2_with (at_builtin;(refine U_ cS rfl (.tmp 25) (.tmp 27) rfl S rfl (p.alloc _) (by have:=m.size;simp;omega) (by rw [sX];omega) #[I_ (j:Int)] rfl (l_ _ _ _ rfl) (j:Int) rfl ?_);intro v4 w4 d s t)
   go_roundw
   case rel=>exact ⟨k+1,by have:=c.out;go_num,by have:=c.out;omega,by have:=c.out;omega,by rw [g.out];exact d,(b_ m.out _).grown s (b_ m.out _).size (fun b o=>(p.own o).1)⟩
   case measure=>exact bH
  ·have A:=H_ (show W_ off n=zA a k by rw [B.out];congr 1;omega);obtain ⟨j,f⟩:=aZ (a+k);rw [<-f] at l ⊢;have F:¬((j:Int)*16)<(off:Int)+(n:Int):=O_
   have E:j<=20:=O_
   clear f;go_wp2;go_ret;exact ⟨_,rfl,by rw [A.out];exact p.la (fun _ _ h=>h) hS,m.out⟩
end
section
def Fl.v (f:Fl) (h:Nat) (A:Option Addr) (cap:Nat):Value:= .agg (f.rowT h A cap).toArray
def aC (f:Fl) (p:Nat):Bool:=bits .and .i64 f.blocks (wrap64 (2 ^ p)) == 0
theorem sQ (f:Fl) (h:Nat) (A:Option Addr) (cap:Nat) (p:Nat) (hp:p<8) (w:World):C_ 137 #[f.v h A cap,I_ p] w (cP (aC f p) w):=by
 have a:=H_ (fun X=>b_ (aI (w) w) X);have b:=H_ (show aC f p=(bits .and .i64 f.blocks (wrap64 (2 ^ p)) == 0) from rfl);simp only[Fl.v,Fl.rowT,List.toArray];generalize f.blocks=bk at *;go_enter func137,ntmps137
 go_upto_region 1 with fail
 go_region
 go_wp2;go_ret
 exact ⟨by rw [b.out];rfl,(a.out _).drew⟩
end
section
theorem jS_ {k:Int} (hk:dH k=true):yY k:=by
 have:k=1\/k=2\/k=4:=by simpa [dH] using hk
 rcases this with rfl | rfl | rfl <;> exact ⟨bX,bX⟩
theorem eS_ {a k:Int} (ha:yY a) (hk:yY k):yY (nO a k):=by
 obtain ⟨x,rfl⟩:=mZ ha;obtain ⟨y,rfl⟩:=mZ hk;have:∀x y:Fin 8,0<=nO (x.val:Int) (y.val:Int)/\nO (x.val:Int) (y.val:Int)<=7:=by decide
 exact this x y
theorem mG {c:Cn} (hl:aX c) (i m:Int):aX (dJ c i m).1:=by
 unfold dJ
 by_cases h:(iN c i m).2=0
 ·rw [if_pos h];obtain ⟨h1,h2,h3,_⟩:=b3_ h;have a:=cl_ (qZ (hl i.toNat)) (jS_ h2);exact hl.upd (x:=((c i.toNat).1,uP (c i.toNat).2 m)) (.inr ⟨fun e=>by have e:(c i.toNat).1=0:=e;omega,a.1,a.2,.inl h3⟩) _
 ·rw [if_neg h];exact iT
theorem jP {c:Cn} (hl:aX c) (i m:Int):aX (aV c i m).1:=by
 unfold aV
 by_cases h:(iN c i m).2=0
 ·rw [if_pos h];obtain ⟨h1,h2,h3,_⟩:=b3_ h;have a:=eS_ (qZ (hl i.toNat)) (jS_ h2);exact hl.upd (x:=((c i.toNat).1,nO (c i.toNat).2 m)) (.inr ⟨fun e=>by have e:(c i.toNat).1=0:=e;omega,a.1,a.2,.inl h3⟩) _
 ·rw [if_neg h];exact iT
theorem oZ {c:Cn} (hl:aX c) {i v:Int}:aX (Z_ c i v).1:=by
 unfold Z_
 cases gG i with
 | true=>
  refine hl.upd ?_ _
  by_cases hv:v=0
  ·exact .inl (by rw [hv])
  ·exact .inr ⟨hv,Int.le_refl _,by show (0:Int)<=7;decide,.inr rfl⟩
 | false=>exact iT
def aT (c:Cn) (pg:Int) (dirty writing:Bool):Cn:=
 let a:=if dirty then (dJ c pg 1).1 else (aV c pg 1).1
 if writing then (dJ a pg 2).1 else (aV a pg 2).1
theorem wK {a b:Int} (h:0<a) (e:a=b):0<b:=e ▸ h
theorem cJ {c:Cn} {i m:Int} (hi:gG i=true) (hm:dH m=true) (hv:0<(c i.toNat).1):(iN c i m).2=0:=by
 unfold iN;rw [if_pos hi,if_pos hm,if_neg O_]
theorem gI {c:Cn} {i m:Int} (hi:gG i=true) (hm:dH m=true) (hv:0<(c i.toNat).1) (j:Nat):((dJ c i m).1 j).1=(c j).1:=by
 unfold dJ;rw [if_pos (cJ hi hm hv)]
 show (upd c i.toNat _ j).1=_
 unfold upd
 split
 ·rename_i h;rw [h]
 ·rfl
theorem dS {c:Cn} {i m:Int} (hi:gG i=true) (hm:dH m=true) (hv:0<(c i.toNat).1) (j:Nat):((aV c i m).1 j).1=(c j).1:=by
 unfold aV;rw [if_pos (cJ hi hm hv)]
 show (upd c i.toNat _ j).1=_
 unfold upd
 split
 ·rename_i h;rw [h]
 ·rfl
theorem kB {c:Cn} {pg:Int} (hi:gG pg=true) (hv:0<(c pg.toNat).1) (d w:Bool) (j:Nat):((aT c pg d w) j).1=(c j).1:=by
 have a:dH 1=true:=rfl;have b:dH 2=true:=rfl
 cases d <;> cases w
 ·exact (dS hi b (wK hv (dS hi a hv _).symm) j).trans (dS hi a hv j)
 ·exact (gI hi b (wK hv (dS hi a hv _).symm) j).trans (dS hi a hv j)
 ·exact (dS hi b (wK hv (gI hi a hv _).symm) j).trans (gI hi a hv j)
 ·exact (gI hi b (wK hv (gI hi a hv _).symm) j).trans (gI hi a hv j)
theorem dG {c:Cn} {pg:Int} (hi:gG pg=true) (hv:0<(c pg.toNat).1) (d w:Bool) (p:Int):D_ (aT c pg d w) p=D_ c p:=by
 unfold D_;rw [kB hi hv]
end
section
def kK (h:Nat) (A:Option Addr) (cap:Nat) (c:Cn):List Value:=[I_ h,S_ A (f_ h c).kids.length cap,I_ (f_ h c).val,I_ (f_ h c).marks]
theorem LW.tree {g:Nat} {L:List Fl} (h:LW jG w S g L) {j:Nat} {y:Fl} (hj:L[j]?=some y) {h':Nat} {A':Option Addr} {cap':Nat} {c':Cn} (hl:aX c') (ht:X_ h' c') (hc:(f_ h' c').kids.length<=cap') (hk:NK w S A' (f_ h' c').kids) :
  LW jG (w.setCells g (j*15+2) (kK h' A' cap' c')) S g (L.set j {y with c:=c'}):=by
 refine LW.setPart h hj (by show 2+4<=15;omega) ?_ (fun r b=>?_)
 ·intro u a;simp only[kK,qJ,List.not_mem_nil,or_false] at a
  rcases a with rfl | rfl | rfl | rfl <;> rfl
 ·obtain ⟨t,B,d,f,i,k,l,rfl⟩:=b;exact ⟨h',A',cap',hl,ht,hc,hk,rfl⟩
theorem Fr.one (x:Fr):∀u ∈ x.row,u.oneCell'=true:=by
 intro u hu;simp only[Fr.row,qJ,List.not_mem_nil,or_false] at hu
 rcases hu with rfl | rfl | rfl | rfl | rfl | rfl | rfl | rfl | rfl <;> rfl
theorem LW.frame {g:Nat} {L:List Fr} (h:LW rM w S g L) (hi:i<L.length) (x:Fr):LW rM (w.setCells g (i*9) x.row) S g (L.set i x):=h.set hi rfl
theorem LW.frame_at {g:Nat} {L:List Fr} (h:LW rM w S g L) {x:Fr} (hi:L[i]?=some x):∀(j:Nat) (u:Value),x.row[j]?=some u->w.cell? ⟨g,i*9+j,none⟩=some u:=by
 obtain ⟨r,hr,hc⟩:=h.at_ hi;have hr:r=x.row:=hr;subst hr;exact hc
def eW (L:List Fl) (j:Nat) (y:Fl) (x:Fr):List Fl:=L.set j {y with c:=aT y.c x.page (x.pg.dirty != 0) (x.writing != 0)}
theorem oR (L:List Fl) (j:Nat) (y:Fl) (x:Fr):(eW L j y x).length=L.length:=by simp [eW]
end
end Go.Proofs.YtehfhnbpnaiogaaGreatDoor
