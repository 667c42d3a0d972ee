/-
  Lemmas and contracts for the laws of this seat, part 7; several texts joined by a program.
-/
import Derived.Test.YtehfhnbpnaiogaaGreatDoorD06
import Derived.Test.YtehfhnbpnaiogaaGreatDoorD00
import Derived.Lib.ConvBytes
import Derived.StillTailTactics
namespace Go.Proofs.YtehfhnbpnaiogaaGreatDoor
set_option linter.unusedVariables false
set_option linter.unusedSimpArgs false
set_option maxRecDepth 100000
set_option maxHeartbeats 16000000
open Go.RowKit Go.Proofs.Tryz IntKind
variable {A:Option Addr} {L:List Zn} {S:Nat->Prop} {W w w' w0:World} {X base i k n z:Nat} {a b f g u:Value} {e t:TypeId} {fn:Func} {fr:Nat × Nat} {l:List Int} {o:Obj} {p q:Tmp} {r tmps:Array Value} {α:Type}
section
def iM_ (L:List Zn) (S:Nat->Prop) (w:World) (e:Ending) (w':World):Prop:=∃v,e = .returned v/\LA pD w' S v L/\s_ w w'
abbrev znV (a b c d e:Int) (v:Value):Value:= .agg #[I_ a,I_ b,I_ c,I_ d,I_ e,v]
theorem cd_ (L:List Zn) (i:Nat) (a b c d f:Int) (u:Value) (l:List Int) (v:Value) (S:Nat->Prop) (w:World) (h:LA pD w S v L) (hi:i<L.length) (hu:LA Y_ w S u l) (hl:L.length<=100) (hS:∀b,w.heap.size<=b->S b) :
  C_ 186 #[v,I_ i,znV a b c d f u] w (iM_ (L.set i ⟨a,b,c,d,f,l⟩) S w):=by
 obtain ⟨A,cap,rfl,E,F⟩:=h.form;obtain ⟨A',cap',rfl,I,eJ⟩:=hu.form;obtain ⟨H,B,x⟩:=eI h hu hS;have s:=H_ (i_ w (.cells #[I_ a,I_ b,I_ c,I_ d,I_ f,S_ A' l.length cap'] 155));have r:=H_ (a_ (aP (w) w) (.cells #[I_ a,I_ b,I_ c,I_ d,I_ f,S_ A' l.length cap'] 155));have N:(0:Int)<=(i:Int):=O_
 have O:(i:Int)<(L.length:Int):=O_
 clear h hu hS;go_enter func186,ntmps186
 go_wp2_with (first
  | (at_builtin;refine cH pD fj_ rfl _ _ rfl rfl _ (fun z=>S z/\z<w.heap.size) L rfl (H.old.alloc _) O_ ?_;intro v4 w4 g j;obtain ⟨G,D,rfl,K,M,X,k⟩:=g.lw O_;have t:=H_ j;have q:=H_ (cJ j s.out A_);have y:=H_ (k.there (i:=i) (p:=0) (n:=6) hi O_);have C:=H_ k;clear g k j;obtain ⟨P,Q,R,U,V,W⟩:=cs6 q.out)
  | (refine nK rfl 155 (.tmp 13) (.tmp 12) rfl G (i*6) #[I_ a,I_ b,I_ c,I_ d,I_ f,S_ A' l.length cap'] rfl rfl y.out gF_ (by simp [Value.oneCell']) ?_))
 go_ret;have o:=r.grown t.out r.size (fun b o=>by cases o)
 have J:w.heap.size<(w.alloc (.cells #[I_ a,I_ b,I_ c,I_ d,I_ f,S_ A' l.length cap'] 155)).heap.size:=n_ s;have m:=C.set (i:=i) (a:=(⟨a,b,c,d,f,l⟩:Zn)) hi (vs:=[I_ a,I_ b,I_ c,I_ d,I_ f,S_ A' l.length cap']) ⟨_,rfl,(B.old.step o).weak (fun z _ h=>⟨h,by have:=h.2;omega⟩)⟩;refine ⟨_,rfl,?_,aY o O_ _ _⟩;have:=m.la (S':=S) (cap:=D) (x.out G O_) (fun z _ h=>h.1.1) (by rw [kL];exact K) M;rw [kL] at this;exact this
def dE_ (z:Zn) (u:Bool):Bool:=decide (z.mn<(z.free.length:Int))||(u&&decide (0<z.free.length))
def kN (L:List Zn) (u:Bool):Nat->Option Nat
 | 0=>none
 | i+1=>match L[i]? with
  | some z=>if dE_ z u then some i else kN L u i
  | none=>none
def cX (L:List Zn) (u:Bool) (p:Nat):List Zn × Int × Int:=
 match kN L u (p+1) with
 | some i=>match L[i]? with
  | some z=>(L.set i {z with free:=z.free.drop 1},z.free.headD 0,0)
  | none=>(L,0,3)
 | none=>(L,0,3)
def iL_ (r:List Zn × Int × Int) (S:Nat->Prop) (w:World) (e:Ending) (w':World):Prop:=∃v,e = .returned (.tuple #[v,I_ r.2.1,I_ r.2.2])/\LA pD w' S v r.1/\s_ w w'
theorem hY_ (p:Nat) (u:Bool) {v:Value} (h:LA pD w S v L) (hp:p<L.length) (ok:cB L) (hS:∀b,w.heap.size<=b->S b) :
  C_ 132 #[v,I_ p,.bool u] w (iL_ (cX L u p) S w):=by
 obtain ⟨A,cap,rfl,a9,Y⟩:=h.form;have Z:=lJ h ok;obtain ⟨H,R,HS⟩:=eI h ok hS;have a6:=ok.len;have i0:(0:Int)<=(p:Int):=O_
 have i1:(p:Int)<(L.length:Int):=O_
 clear h ok hS;unfold maxLen at Y;go_enter func132,ntmps132
 go_wp2_with (go_at_call 99;(with_reducible refine CM Z ?_);rintro e w1 ⟨rfl,G⟩;have D:=H_ G;clear G)
 go_loopw [9] (fun i wx=>∃k:Nat,i = I_ ((k:Int) - 1)/\k<=p+1/\kN L u (p+1)=kN L u k/\s_ w wx) (fun i _=>(intOf i+1).toNat)
 case atStart=>exact ⟨p+1,by go_num,O_,rfl,D.out⟩
 case round=>
  clear D;obtain ⟨k,rfl,hk,K,f⟩:=hrel;have l:=H_ f;have d:=H_ K;clear f K
  cases k with
  | zero=>
   have HQ:=H_ (show cX L u p=(L,0,3) by unfold cX;rw [d.out];rfl);go_wp2
   go_ret3
   rw [HQ.out];exact ⟨_,rfl,H.step l.out,l.out⟩
  | succ i=>
   have hi:i<L.length:=O_
   obtain ⟨z,C⟩:∃z,L[i]?=some z:=⟨_,cY hi⟩;have J:=R.each i z C;have x1:=(R.nx i O_).1;obtain ⟨b,o,A',cap',rfl,a8,j,q1,q2,c0,c1,c2,c3,c4,c5⟩:=ZnA.cells (H.step l.out) C;have g:=J.flen O_;have HZ:=H_ C;have B:=fun v' w' (f:s_ w w') hu=>cd_ L i z.first z.size z.mn z.low z.high v' (z.free.drop 1) _ S w' (H.step f) hi hu O_ (fun b V=>HS.out b (eF f.size V));have r:=H_ (show kN L u (i+1)=if dE_ z u then some i else kN L u i by simp only[kN];rw [C]);have e1:((i+1:Nat):Int) - 1=(i:Int):=O_
   rw [e1];obtain ⟨fi,si,mn,lo,hg,fr⟩:=z
   dsimp only at j q1 q2 c0 c1 c2 c3 c4 c5 g B
   have ac:(i:Int)<(L.length:Int):=O_
   clear C J e1;unfold maxLen at q2
   cases hcan:dE_ ⟨fi,si,mn,lo,hg,fr⟩ u with
   | false=>
    have N:=H_ (show kN L u (p+1)=kN L u i by rw [d.out,r.out,hcan];rfl);have X:decide (mn<(fr.length:Int))=false/\(u&&decide (0<fr.length))=false:=Bool.or_eq_false_iff.1 hcan;obtain ⟨d1,O⟩:=X;clear hcan
    cases u with
    | true=>
     have a0:fr.length=0:=by have:=of_decide_eq_false (show decide (0<fr.length)=false from O);omega
     have d3:decide (0<fr.length)=false:=O;have d4:decide ((0:Int)<(fr.length:Int))=false:=dF O_;clear a0 O;go_wp2;go_roundw
     case rel=>exact ⟨i,by go_num,O_,N.out,a_ l.out _⟩
     case measure=>first | (simp [intOf];done) | (simp [intOf];omega)
    | false=>
     clear O;go_wp2;go_roundw
     case rel=>exact ⟨i,by go_num,O_,N.out,a_ l.out _⟩
     case measure=>first | (simp [intOf];done) | (simp [intOf];omega)
   | true=>
    have q:0<fr.length:=by
     rcases Bool.or_eq_true_iff.1 hcan with h | h
     ·have h:=of_decide_eq_true h;have:=R.out;have C:=this.each i _ HZ;have:=C.wm.1
      dsimp only at h this
      omega
     ·exact of_decide_eq_true ((Bool.and_eq_true_iff.1 h).2)
    have N:=H_ (show cX L u p=(L.set i ⟨fi,si,mn,lo,hg,fr.drop 1⟩,fr.headD 0,0) by unfold cX;rw [d.out,r.out,hcan];simp only[if_true];rw [HZ.out]);obtain ⟨x,c,rfl⟩:∃x c,fr=x :: c:=by cases fr with
     | nil=>simp at q
     | cons x c=>exact ⟨x,c,rfl⟩
    simp only[List.drop_succ_cons,List.drop_zero] at B;obtain ⟨b8,o8,a4,a3,_,_,a7,_,g0⟩:=IL.cell j (i:=0) (x:=x) rfl;injection a3 with e4 e5 e6
    subst e4;clear e5 e6;rw [Nat.add_zero] at g0;obtain ⟨M,U⟩:∃M:Option Addr,(if cap'=1 then some (⟨b8,o8,none⟩:Addr) else some ⟨b8,o8+1,none⟩)=M:=⟨_,rfl⟩;have t:=j.drop (n:=1) A_ M (fun h=>by rw [<-U,if_neg O_]);obtain ⟨m,I⟩:=bL ((x :: c).length);have aa:1<=m:=by rw [I];simp
    have a5:m<=64:=by rw [I];exact g
    have s:decide (mn<(m:Int))=true\/(decide (mn<(m:Int))=false/\u=true):=by
     rw [I]
     rcases Bool.or_eq_true_iff.1 hcan with h | h
     ·exact .inl h
     ·cases hd:decide (mn<((x :: c).length:Int)) with
      | true=>exact .inl rfl
      | false=>exact .inr ⟨rfl,(Bool.and_eq_true_iff.1 h).1⟩
    rw [<-I] at c5 t q1;have P:=H_ t;have g1:(0:Int)<(m:Int):=O_
    have g2:1<=cap':=O_
    have ab:c.length<=64:=by have:=g;simp at this;omega
    have a1:=l.size;have gn:0<m:=O_
    clear j t g q hcan I r d
    rcases s with d1 | ⟨d1,rfl⟩
    all_goals
     go_wp2_with (first
      | (at_builtin;refine cH Y_ cV rfl _ _ rfl rfl (S_ M (m - 1) (cap' - 1)) (fun z=>S z/\z<wr.heap.size) c rfl (P.old.alloc _) O_ ?_;intro v4 w4 a y;obtain ⟨A5,c9,rfl,_,_⟩:=(a.la (S':=iF) (fun _ _ _=>trivial) (fun _ _=>trivial)).form;have F:=H_ (cJ y (i_ wr _) A_);have f5:=t_ F 5;obtain ⟨p0,p1,p2,p3,p4,p5⟩:=cs6 F.out;have E:=H_ (aT ((a_ l.out _).grown y (a_ l.out _).size (fun b f=>by cases f)) ⟨wr,5,none⟩ (S_ A5 c.length c9) a1);have Q:=H_ (((a.la (S':=fun z=>S z/\z≠wr.heap.size) (fun b _ h=>⟨h.1,by have:=h.2;omega⟩) (fun b f=>by simp at f;exact ⟨HS.out b O_,O_⟩)).kept (r_.of_setCell w4 ⟨wr,5,none⟩ (S_ A5 c.length c9) (fun h=>h.2 rfl))).weak (S':=S) (fun _ _ h=>h.1));clear a y)
      | (go_at_call 186;(with_reducible refine CM (B _ _ E.out Q.out) ?_);rintro e w6 ⟨v6,rfl,a2,W⟩))
     go_ret3
     rw [N.out];exact ⟨_,rfl,a2,e_ E.out W⟩
def fI (L:List Zn):Nat:=(L.map (fun z=>z.free.length)).sum
theorem aT_ (L:List Zn) (z:Zn):fI (L ++ [z])=fI L+z.free.length:=by unfold fI;rw [List.map_append,List.sum_append];simp
theorem d1_ {L:List Zn} (h:∀z ∈ L,z.free.length<=64):fI L<=L.length*64:=by
 induction L with
 | nil=>simp [fI]
 | cons z L ih=>
  have h1:=h z (List.mem_cons_self ..);have h2:=ih fun x a=>h x (List.mem_cons_of_mem _ a);unfold fI at h2 ⊢;rw [List.map_cons,List.sum_cons,cL_];omega
theorem gC_ {v:Value} (h:LA pD w S v L) (ok:cB L):C_ 84 #[v] w (sD (fI L) w):=by
 obtain ⟨A,cap,rfl,x,g⟩:=h.form;have j:=lJ h ok;have t:=ok.len;have d:∀k,k<=L.length->fI (L.take k)<=k*64:=fun k m=>by
  have h1:=d1_ (L:=L.take k) (fun z f=>by
   obtain ⟨i,s⟩:=List.getElem?_of_mem (List.mem_of_mem_take f);have:=ok.nx i (Nat.le_of_lt (bI s));exact (ok.each i z s).flen O_)
  rw [List.length_take,Nat.min_eq_left m] at h1;exact h1
 have H:=H_ h;have q:=H_ d;clear h ok d;unfold maxLen at g;go_enter func84,ntmps84
 go_wp2_with (go_at_call 99;(with_reducible refine CM j ?_);rintro e w1 ⟨rfl,c⟩;have a:=H_ c;clear c)
 go_loop [3,4] (fun n i=>∃k:Nat,i = I_ k/\k<=L.length/\n = I_ (fI (L.take k))) (fun _ i=>L.length - (intOf i).toNat)
 case atStart=>exact ⟨0,rfl,O_,rfl⟩
 case round=>
  obtain ⟨k,rfl,m,rfl⟩:=hrel;have h1:=q k m;have h2:(fI (L.take k):Int)<=4096:=O_
  by_cases p:k<L.length
  ·obtain ⟨z,f⟩:∃z,L[k]?=some z:=⟨_,cY p⟩;obtain ⟨b,o,A',cap',rfl,u,l,F,G,c0,c1,c2,y,B,C⟩:=ZnA.cells (H.step a.out) f;have r:=H_ (show fI (L.take (k+1))=fI (L.take k)+z.free.length by rw [bB f,aT_]);have h3:=q.out (k+1) O_;rw [r.out] at h3;have E:(z.free.length:Int)<=4160:=O_
   generalize fI (L.take k)=D at *;clear f l;go_wp2
   go_round
   case rel=>exact ⟨k+1,by go_num,O_,by rw [r.out];go_num⟩
   case measure=>exact bV
  ·obtain rfl:k=L.length:=O_
   rw [List.take_length] at *;go_wp2;go_ret;exact ⟨rfl,a.out⟩
end
section
theorem cB.mono (h:cB L) {k:Nat}:∀(i:Nat),k<=i->i<=L.length->sR (L.take k)<=sR (L.take i)
 | 0,hk,_=>by rw [Nat.le_zero.1 hk];exact Int.le_refl _
 | i+1,hk,hi=>by
  by_cases he:k=i+1
  ·rw [he];exact Int.le_refl _
  ·have h1:=cB.mono (k:=k) h i O_ O_;have hx:L[i]?=some L[i]:=cY O_;have h3:=(h.each i _ hx).sz;rw [bB hx,pR];omega
theorem cB.before (h:cB L) {z z':Zn} (hk:L[k]?=some z) (hi:L[i]?=some z') (hki:k<i):z.first+z.size<=z'.first:=by
 have h1:=h.mono (k:=k+1) i hki (Nat.le_of_lt (bI hi));rw [bB hk,pR] at h1;have h2:=(h.each k z hk).fst;have h3:=(h.each i z' hi).fst;omega
def gV_ (L:List Zn) (err:Int) (S:Nat->Prop) (w:World) (e:Ending) (w':World):Prop:=∃v,e = .returned (.tuple #[v,I_ err])/\LA pD w' S v L/\s_ w w'
theorem ei_ {S S':Nat->Prop} {v:Value} {L:List Int} (h:LO Y_ e w base S v L) (_:∀b,base<=b->True) (hb:∀b,base<=b->S' b):LA Y_ w S' v L:=by
 obtain ⟨rows,w1,w2⟩:=h;have h2:LO Y_ e w base (fun _=>False) v L:=⟨rows,w1,w2⟩;exact h2.la (fun _ _ h=>h.elim) hb
theorem hv_ (i:Nat) (z:Zn) (f:Int) {v:Value} (h:LA pD w S v L) (hi:L[i]?=some z) (hf:z.first<=f/\f<z.first+z.size) (hnf:f ∉ z.free) (ok:cB L) (hS:∀b,w.heap.size<=b->S b) :
  C_ 201 #[v,I_ f] w (gV_ (L.set i {z with free:=dX z.free f}) 0 S w):=by
 obtain ⟨A,cap,rfl,ar,ad⟩:=h.form;have ae:=lJ h ok;have au:=bI hi;obtain ⟨H,OK,HS,HI,a1⟩:=h5_ h ok hS hi hnf;have an:=ok.len;clear h ok hS hi hnf;unfold maxLen at ad;go_enter func201,ntmps201
 go_wp2_with (go_at_call 99;(with_reducible refine CM ae ?_);rintro e w1 ⟨rfl,a3⟩;have Z:=H_ a3;clear a3)
 go_loopw [6] (fun j wx=>∃k:Nat,j = I_ k/\k<=i/\s_ w wx) (fun j _=>L.length - (intOf j).toNat)
 case atStart=>exact ⟨0,rfl,O_,Z.out⟩
 case round=>
  clear Z;obtain ⟨k,rfl,hk,q⟩:=hrel;have Y:=H_ q;clear q;have a5:k<L.length:=O_
  obtain ⟨G,W⟩:∃z,L[k]?=some z:=⟨_,cY a5⟩;have y:=OK.each k G W;obtain ⟨x1,x2⟩:=OK.nx k O_;obtain ⟨b,o,A',cap',rfl,aq,D,q1,q2,c0,c1,c2,c3,c4,c5⟩:=ZnA.cells (H.step Y.out) W;have a4:=y.flen O_;have a7:=y.sz;have M:=y.fst;have av:=y.sz
  by_cases ag:k<i
  ·have ac:=OK.before W HI ag;obtain ⟨g,s,mn,lo,E,fr⟩:=G
   dsimp only at D q1 q2 c0 c1 c2 c3 c4 c5 a4 ac a7 M
   have d1:decide (f<g)=false:=dF O_;have d2:decide (g+s<=f)=true:=dT O_;have b1:-1000<=g:=O_
   have b2:g<=1000:=O_
   have b3:s<=1000:=O_
   unfold maxLen at q2;clear W y D M;go_wp2;go_roundw
   case rel=>exact ⟨k+1,by go_num,O_,a_ Y.out _⟩
   case measure=>exact bV
  ·obtain rfl:k=i:=O_
   obtain rfl:G=z:=bH (W.symm.trans HI.out);have U:=fun v' w' (q:s_ w w') hu=>cd_ L k G.first G.size G.mn G.low G.high v' (dX G.free f) _ S w' (H.step q) a5 hu O_ (fun b ab=>HS.out b (eF q.size ab));obtain ⟨g,s,mn,lo,E,fr⟩:=G
   dsimp only at D q1 q2 c0 c1 c2 c3 c4 c5 a4 a7 M hf a1 U
   have d1:decide (f<g)=false:=dF O_;have d2:decide (g+s<=f)=false:=dF O_;have b1:-1000<=g:=O_
   have b2:g<=1000:=O_
   have b3:s<=1000:=O_
   have a8:=Y.size;unfold maxLen at q2;have a0:=H_ D;obtain ⟨V,hV⟩:=bL wr;subst hV;clear W y D M;go_wp2
   go_loopw [8,9,10] (fun u dv j wx=>∃(m:Nat) (d:Bool),j = I_ m/\dv = .bool d/\m<=fr.length/\kG fr f m d/\LO Y_ 3 wx (V+1) S u (jG fr f m d)/\Below (V+1) (V.alloc (.cells #[I_ g,I_ s,I_ mn,I_ lo,I_ E,S_ A' fr.length cap'] 155)) wx) (fun _ _ j _=>fr.length - (intOf j).toNat)
   case atStart=>exact ⟨0,false,rfl,rfl,O_,kG.zero _ _,LO.nil _ _ _ _ _,aP _ _⟩
   case round=>
    clear c0 c1 c2 c3 c4 c5;obtain ⟨m,d,rfl,rfl,hm,hi,ho,r⟩:=hrel;have C:=H_ ho;have I:=H_ hi;have r:Below (V.alloc (.cells #[I_ g,I_ s,I_ mn,I_ lo,I_ E,S_ A' fr.length cap'] 155)).heap.size (V.alloc (.cells #[I_ g,I_ s,I_ mn,I_ lo,I_ E,S_ A' fr.length cap'] 155)) wr:=by simpa using r
    have n:=H_ r;have hZ:=h_ (i_ V (.cells #[I_ g,I_ s,I_ mn,I_ lo,I_ E,S_ A' fr.length cap'] 155)) r;have HZ:=H_ hZ;have a9:=r.size;rw [show (V.alloc (.cells #[I_ g,I_ s,I_ mn,I_ lo,I_ E,S_ A' fr.length cap'] 155)).heap.size=V.heap.size+1 by simp] at a9;have am:=zO fr f m d;have hF:LA Y_ wr S (S_ A' fr.length cap') fr:=(a0.alloc _).step r;have aa:=H_ (e_ (a_ Y.out _) r);have HF:=H_ hF;obtain ⟨p0,p1,p2,p3,p4,p5⟩:=cs6 hZ;clear ho hi r hZ
    by_cases ah:m<fr.length
    ·obtain ⟨x,hx⟩:∃x,fr[m]?=some x:=⟨_,cY ah⟩;obtain ⟨b9,o9,ak,hv,_,_,ap,_,c0⟩:=IL.cell hF hx;injection hv with e1 e2 e3
     subst e1;have aw:¬x=f:=fun e=>a1 (e ▸ gL hx);have J:=H_ hx;clear e2 e3 hx hF
     cases d with
     | true=>
      have F:=H_ (I.t J)
      go_wp2_with (at_builtin;(refine M_ cV rfl (.tmp 68) (.tmp 74) rfl S rfl (C.alloc _) (by simp;omega) O_ #[I_ x] rfl (l_ _ _ _ rfl) x rfl ?_);intro v4 w4 a l p)
      go_roundw
      case rel=>exact ⟨m+1,true,by go_num,rfl,O_,F.out.1,by rw [F.out.2];exact a,by
       have:=(a_ n.out (.cells #[I_ x] 3)).grown l (a_ n.out _).size (fun b q=>by have:=(C.own q).1;simp;omega)
       simpa using this⟩
      case measure=>exact bV
     | false=>
      by_cases a6:f<x
      ·have F:=H_ (I.now J a6)
       go_wp2_with (first
        | ((at_builtin;(refine M_ cV rfl (.tmp 64) (.tmp 66) rfl S rfl (C.alloc _) (by simp;omega) O_ #[I_ f] rfl (l_ _ _ _ rfl) f rfl ?_);intro v4 w4 a l p);have a2:=H_ a;have c:=(a_ n.out (.cells #[I_ f] 3)).grown l (a_ n.out _).size (fun b q=>by have:=(C.own q).1;simp;omega);have N:=H_ c;have K:=H_ (h_ (i_ V (.cells #[I_ g,I_ s,I_ mn,I_ lo,I_ E,S_ (some ⟨b9,o9,none⟩) fr.length cap'] 155)) c);have s4:=c.size;rw [show (V.alloc (.cells #[I_ g,I_ s,I_ mn,I_ lo,I_ E,S_ (some ⟨b9,o9,none⟩) fr.length cap'] 155)).heap.size=V.heap.size+1 by simp] at s4;obtain ⟨b7,o7,aj,ai,_,_,ao,_,g0⟩:=IL.cell ((a0.alloc (.cells #[I_ g,I_ s,I_ mn,I_ lo,I_ E,S_ (some ⟨b9,o9,none⟩) fr.length cap'] 155)).step c) J.out;injection ai with e1 e2 e3;injection e1 with e1;injection e1 with e4 e5;subst e4 e5;clear e2 e3 c0 p0 p1 p2 p3 p4 p5 a l p c;obtain ⟨p0,p1,p2,p3,p4,p5⟩:=cs6 K.out)
        | (at_builtin;(refine M_ cV rfl (.tmp 68) (.tmp 74) rfl S rfl (a2.alloc _) (by simp;omega) (by simp;omega) #[I_ x] rfl (l_ _ _ _ rfl) x rfl ?_);intro v5 w5 Q af al))
       go_roundw
       case rel=>exact ⟨m+1,true,by go_num,rfl,O_,F.out.1,by rw [F.out.2];exact Q,by
        have:=(a_ N.out (.cells #[I_ x] 3)).grown af (a_ N.out _).size (fun b q=>by have:=(a2.own q).1;simp;omega)
        simpa using this⟩
       case measure=>exact bV
      ·have F:=H_ (I.f J a6)
       go_wp2_with (at_builtin;(refine M_ cV rfl (.tmp 68) (.tmp 74) rfl S rfl (C.alloc _) (by simp;omega) O_ #[I_ x] rfl (l_ _ _ _ rfl) x rfl ?_);intro v4 w4 a l p)
       go_roundw
       case rel=>exact ⟨m+1,false,by go_num,rfl,O_,F.out.1,by rw [F.out.2];exact a,by
        have:=(a_ n.out (.cells #[I_ x] 3)).grown l (a_ n.out _).size (fun b q=>by have:=(C.own q).1;simp;omega)
        simpa using this⟩
       case measure=>exact bV
    ·obtain rfl:m=fr.length:=O_
     cases d with
     | true=>
      rw [kG.endT] at C;obtain ⟨X,c9,rfl,_,_⟩:=(C.la (S':=iF) (fun _ _ _=>trivial) (fun _ _=>trivial)).form;have f5:=t_ HZ 5;have B:=H_ (aT aa.out ⟨V,5,none⟩ (S_ X (dX fr f).length c9) a8);have O:=H_ ((ei_ C.out (fun _ _=>trivial) (S':=fun z=>S z/\z≠V.heap.size) (fun b q=>⟨HS.out b O_,O_⟩)).kept (r_.of_setCell wr ⟨V,5,none⟩ (S_ X (dX fr f).length c9) (fun h=>h.2 rfl)) |>.weak (S':=S) (fun _ _ h=>h.1))
      go_wp2_with (go_at_call 186;(with_reducible refine CM (U _ _ B.out O.out) ?_);rintro e w6 ⟨v6,rfl,R,P⟩)
      go_ret2
      exact ⟨_,rfl,R,e_ B.out P⟩
     | false=>
      have F:=H_ (I.endF)
      go_wp2_with (first
       | ((at_builtin;(refine M_ cV rfl (.tmp 78) (.tmp 80) rfl S rfl (C.alloc _) (by simp;omega) O_ #[I_ f] rfl (l_ _ _ _ rfl) f rfl ?_);intro v4 w4 a l p);rw [F.out] at a;obtain ⟨X,c9,rfl,_,_⟩:=(a.la (S':=iF) (fun _ _ _=>trivial) (fun _ _=>trivial)).form;have c:=(a_ n.out (.cells #[I_ f] 3)).grown l (a_ n.out _).size (fun b q=>by have:=(C.own q).1;simp;omega);have K:=H_ (h_ (i_ V (.cells #[I_ g,I_ s,I_ mn,I_ lo,I_ E,S_ A' fr.length cap'] 155)) c);have s4:=c.size;rw [show (V.alloc (.cells #[I_ g,I_ s,I_ mn,I_ lo,I_ E,S_ A' fr.length cap'] 155)).heap.size=V.heap.size+1 by simp] at s4;have f5:=t_ K 5;clear p0 p1 p2 p3 p4 p5;obtain ⟨p0,p1,p2,p3,p4,p5⟩:=cs6 K.out;have B:=H_ (aT (e_ (a_ Y.out _) c) ⟨V,5,none⟩ (S_ X (dX fr f).length c9) a8);have O:=H_ ((ei_ a (fun _ _=>trivial) (S':=fun z=>S z/\z≠V.heap.size) (fun b q=>⟨HS.out b O_,O_⟩)).kept (r_.of_setCell w4 ⟨V,5,none⟩ (S_ X (dX fr f).length c9) (fun h=>h.2 rfl)) |>.weak (S':=S) (fun _ _ h=>h.1));clear a l p c)
       | (go_at_call 186;(with_reducible refine CM (U _ _ B.out O.out) ?_);rintro e w6 ⟨v6,rfl,R,P⟩))
      go_ret2
      exact ⟨_,rfl,R,e_ B.out P⟩
end
section
def wN (a:Int) (n:Nat):List Int:=(List.range n).map (fun i:Nat=>a+(i:Int))
theorem fb_ (a:Int) (n:Nat):wN a (n+1)=wN a n ++ [a+n]:=by unfold wN;rw [List.range_succ,List.map_append];rfl
theorem cb_ (a:Int) (n:Nat):(wN a n).length=n:=by unfold wN;simp
def cJ_ (next n:Int):Zn:=⟨next,n,n / 8,n / 4,n / 2,wN next n.toNat⟩
def bN:Int->List Int->List Zn
 | _,[]=>[]
 | next,n :: l=>cJ_ next n :: bN (next+n) l
def cT (l:List Int):Int:=l.foldl (fun a n=>a+n) 0
theorem mW (l:List Int) (a:Int):l.foldl (fun a n=>a+n) a=a+l.foldl (fun a n=>a+n) 0:=by
 induction l generalizing a with
 | nil=>simp
 | cons x l ih=>rw [List.foldl_cons,List.foldl_cons,ih,ih (0+x)];omega
theorem kM (l:List Int) (n:Int):cT (l ++ [n])=cT l+n:=by unfold cT;rw [List.foldl_append];rfl
theorem oN (n:Int):∀(l:List Int) (a:Int),bN a (l ++ [n])=bN a l ++ [cJ_ (a+cT l) n]
 | [],a=>by simp [bN,cT]
 | x :: l,a=>by
  simp only[List.cons_append,bN];rw [oN n l (a+x)];have:cT (x :: l)=x+cT l:=by unfold cT;rw [List.foldl_cons,mW];omega
  rw [this,Int.add_assoc]
theorem kH:∀(l:List Int) (a:Int),(bN a l).length=l.length
 | [],_=>rfl
 | x :: l,a=>by simp [bN,kH l]
theorem wE:∀(l:List Int),sR (bN 1 l)=1+cT l:=by
 have c:∀(l:List Int) (a b:Int),(bN a l).foldl (fun n z=>n+z.size) b=b+cT l:=fun l=>by
  induction l with
  | nil=>intro a b;simp [bN,cT]
  | cons x l ih=>
   intro a b;simp only[bN,List.foldl_cons];rw [ih];have:cT (x :: l)=x+cT l:=by unfold cT;rw [List.foldl_cons,mW];omega
   rw [this]
   show b+x+cT l=_
   omega
 intro l;exact c l 1 1
structure tE (l:List Int):Prop where
 pos:0<l.length
 each:∀n ∈ l,1<=n
 all:cT l<=64
theorem tE.part (h:tE l):∀(k:Nat),k<=l.length->0<=cT (l.take k)/\cT (l.take k)<=cT l/\∀n,l[k]?=some n->cT (l.take k)+n<=cT l:=by
 have up:∀(k:Nat),k<=l.length->0<=cT (l.take k):=fun k=>by
  induction k with
  | zero=>intro _;simp [cT]
  | succ k ih=>
   intro c;have b:l[k]?=some l[k]:=cY O_;have:=h.each _ (gL b);rw [bB b,kM];have:=ih O_;omega
 have a:∀(j k:Nat),k+j=l.length->cT (l.take k)<=cT l:=fun j=>by
  induction j with
  | zero=>intro k c;rw [tL_ O_];exact Int.le_refl _
  | succ j ih=>
   intro k c;have b:l[k]?=some l[k]:=cY O_;have h1:=h.each _ (gL b);have h2:=ih (k+1) O_;rw [bB b,kM] at h2;omega
 intro k c;refine ⟨up k c,a (l.length - k) k O_,fun n d=>?_⟩;have f:=bI d;have:=a (l.length - (k+1)) (k+1) O_;rw [bB d,kM] at this;exact this
theorem tE.len (h:tE l):l.length<=64:=by
 have a:∀(k:Nat),k<=l.length->(k:Int)<=cT (l.take k):=fun k=>by
  induction k with
  | zero=>intro _;simp [cT]
  | succ k ih=>
   intro c;have b:l[k]?=some l[k]:=cY O_;have:=h.each _ (gL b);rw [bB b,kM];have:=ih O_;omega
 have h1:=a l.length (bE _);rw [List.take_length] at h1;have:=h.all;omega
theorem cc_ {a x:Int} (h:x ∈ wN a n):a<=x/\x<a+n:=by
 unfold wN at h;obtain ⟨i,hi,rfl⟩:=List.mem_map.1 h;have:=List.mem_range.1 hi;omega
theorem gB_ {a:Int}:(wN a n).Pairwise (·<·):=by
 unfold wN;rw [List.pairwise_map];exact List.pairwise_lt_range.imp fun {x y} h=>by omega
theorem tE.zones (h:tE l):cB (bN 1 l):=by
 refine ⟨by rw [kH];exact h.pos,fun i z g=>?_⟩;have d:i<l.length:=by have:=bI g;rwa [kH] at this
 have c:l[i]?=some l[i]:=cY d;have b:∀(k:Nat) (l:List Int) (a:Int),(bN a l).take k=bN a (l.take k):=fun k=>by
  induction k with
  | zero=>intro l a;simp [bN]
  | succ k ih=>
   intro l a
   cases l with
   | nil=>simp [bN]
   | cons x l=>simp only[bN,List.take_succ_cons];rw [ih]
 have f:z=cJ_ (1+cT (l.take i)) l[i]:=by
  have h1:(bN 1 l).take (i+1)=(bN 1 l).take i ++ [z]:=bB g;rw [b,b,bB c,oN] at h1;have:=List.append_cancel_left h1;injection this with this _
  exact this.symm
 rw [b,wE];obtain ⟨n,o,j⟩:=h.part i O_;have p:=j _ c;have q:=h.all;have m:=h.each _ (gL c);subst f;exact ⟨rfl,⟨m,by show l[i]<=65 - _;omega⟩,⟨by show 0<=l[i] / 8;omega,by show l[i] / 8<=l[i] / 4;omega,by show l[i] / 4<=l[i] / 2;omega,by show l[i] / 2<=l[i];omega⟩,
  fun x c=>by
   have:=cc_ (show x ∈ wN (1+cT (l.take i)) (l[i]).toNat from c)
   show 1+cT (l.take i)<=x/\x<1+cT (l.take i)+l[i]
   omega,gB_⟩
theorem LO.weak {R:RR α k} {S S':Nat->Prop} {v:Value} {L:List α} (h:LO R e w base S v L) (hS:∀b,b<w.heap.size->S b->S' b):LO R e w base S' v L:=by
 obtain ⟨rows,r1,r2⟩:=h;exact ⟨rows,r1,r2.imp fun a r h=>R.wk _ _ _ _ _ (fun b hb h=>⟨hS b hb h.1,h.2⟩) h⟩
theorem LO.old {R:RR α k} {v:Value} {L:List α} (h:LO R e w base S v L):LO R e w base (fun b=>S b/\b<w.heap.size) v L:=h.weak fun b hb h=>⟨h,hb⟩
theorem cR_ {B:Nat} {v:Value} {lo:Nat} (h:LO Y_ e w base S v l) (hB:B<base) (hu:∀b,u.ownBlock=some b->b<B):v.ownBlock=none\/∃b,v.ownBlock=some b/\¬(lo<=b/\b<B)/\u.ownBlock≠some b:=by
 cases hv:v.ownBlock with
 | none=>exact .inl rfl
 | some b=>
  have h1:=(h.own hv).1;exact .inr ⟨b,rfl,fun h=>by omega,fun hc=>by have:=hu b hc;omega⟩
theorem h1_ {v:Value} (S:Nat->Prop) (h:LA Y_ w S v l) (ok:tE l) (hS:∀b,w.heap.size<=b->S b):C_ 83 #[v] w (gV_ (bN 1 l) 0 S w):=by
 obtain ⟨A,cap,rfl,a6,Q⟩:=h.form;have H:=H_ h;have OK:=H_ ok;have a2:=ok.len;have a3:=ok.pos;have a1:=ok.all;have d0:((l.length:Int) == 0)=false:=beq_eq_false_iff_ne.2 O_;clear h ok;unfold maxLen at Q;go_enter func83,ntmps83;go_wp2
 go_loopw [4,5,6] (fun u a i wx=>∃k:Nat,i = I_ k/\a = I_ (1+cT (l.take k))/\k<=l.length/\LO pD 155 wx (w) (fun b=>w.heap.size<=b) u (bN 1 (l.take k))/\s_ w wx) (fun _ _ i _=>l.length - (intOf i).toNat)
 case atStart=>exact ⟨0,rfl,rfl,O_,LO.nil _ _ _ _ _,aP _ _⟩
 case round=>
  obtain ⟨k,rfl,rfl,hk,ho,g⟩:=hrel;have p:=H_ g;have q:=H_ ho;obtain ⟨V,hV⟩:=bL wr;subst hV;clear ho g;obtain ⟨s1,s2,s3⟩:=OK.part k hk
  by_cases R:k<l.length
  ·obtain ⟨n,x⟩:∃n,l[k]?=some n:=⟨_,cY R⟩;obtain ⟨b,o,cap',hv,_,_,g,_,c0⟩:=IL.cell (H.step p.out) x;injection hv with e1 e2 e3
   subst e1;have n1:=OK.each n (gL x);have n2:=s3 n x;have Z:=H_ (show bN 1 (l.take (k+1))=bN 1 (l.take k) ++ [cJ_ (1+cT (l.take k)) n] by rw [bB x,oN]);have Y:=H_ (show 1+cT (l.take (k+1))=1+cT (l.take k)+n by rw [bB x,kM];omega);have a9:(bN 1 (l.take k)).length<=64:=by rw [kH,List.length_take];omega
   generalize bN 1 (l.take k)=zs at *;obtain ⟨a,J⟩:=bL (1+cT (l.take k));rw [<-J] at Z Y ⊢;have b1:1<=a:=O_
   have b2:a+n<=65:=O_
   have d1:decide (n<1)=false:=dF O_;have d2:decide (64<n)=false:=dF O_;have d3:decide (65<a+n)=false:=dF O_;clear J s1 s2 s3 x e2 e3 n2;go_wp2;have C:=H_ (a_ p.out (.cells #[I_ a,I_ n,I_ (n / 8),I_ (n / 4),I_ (n / 2),S_ none 0 0] 155));have d:=H_ (show ∀b,u4.ownBlock=some b->b<V.heap.size from fun b g=>(q.own g).2);have z:=H_ ((q.old).alloc (.cells #[I_ a,I_ n,I_ (n / 8),I_ (n / 4),I_ (n / 2),S_ none 0 0] 155));have B:=H_ (i_ V (.cells #[I_ a,I_ n,I_ (n / 8),I_ (n / 4),I_ (n / 2),S_ none 0 0] 155));have U:=p.size;have hN:n=(n.toNat:Int):=O_
   obtain ⟨N,t⟩:=bL n.toNat;rw [<-t] at hN;have L:=H_ t;have a0:N<=64:=O_
   have a4:n<=(N:Int):=O_
   have a5:(N:Int)<=n:=O_
   clear t hN
   go_loopw [9] (fun f wx=>∃(m:Nat) (X:Value),f = I_ (a+m)/\m<=N/\s_ w wx/\bA wx (V) #[I_ a,I_ n,I_ (n / 8),I_ (n / 4),I_ (n / 2),X] 155/\LO Y_ 3 wx (V+1) (fun _=>False) X (wN a m)/\LO pD 155 wx (w) (fun b=>w.heap.size<=b/\b<V.heap.size) u4 zs/\(∀b,u4.ownBlock=some b->b<V.heap.size)) (fun f _=>(a+n - intOf f).toNat)
   case atStart=>exact ⟨0,_,A_,O_,C.out,B.out,LO.nil _ _ _ _ _,z.out,d.out⟩
   case round=>
    clear C z B d c0;obtain ⟨m,X,rfl,hm,g,E,P,hO,D⟩:=hrel;obtain ⟨p,HZ,y,q,d⟩:=h5_ g E P hO D;have a8:=n_ E;have aa:=g.size;obtain ⟨A5,c9,rfl,_,_⟩:=(P.la (S':=iF) (fun _ _ _=>trivial) (fun _ _=>trivial)).form;have f5:=t_ E 5;obtain ⟨p0,p1,p2,p3,p4,p5⟩:=cs6 E;have ab:(wN a m).length<=64:=by rw [cb_];omega
    clear g E P hO D
    by_cases a7:m<N
    ·have t1:decide (a+(m:Int)<a+n)=true:=dT O_;have t2:(a+(m:Int)<a+n):=O_
     have O:=H_ (fb_ a m)
     go_wp2_with (at_builtin;(refine M_ cV rfl (.tmp 53) (.tmp 55) rfl (fun _=>False) rfl (y.alloc _) (by simp;omega) O_ #[I_ (a+m)] rfl (l_ _ _ _ rfl) (a+m) rfl ?_);intro v4 w4 c j F;obtain ⟨K,s,e6,_,_⟩:=(c.la (S':=iF) (fun _ _ _=>trivial) (fun _ _=>trivial)).form;obtain ⟨W,I⟩:=bL ((wN a m ++ [a+(m:Int)]).length);rw [<-I] at e6;clear I;subst e6;have r:=H_ (cJ j (m_ HZ _) (fun h=>by have:=(y.own h).1;omega));have f5:=t_ r 5;clear p0 p1 p2 p3 p4 p5;obtain ⟨p0,p1,p2,p3,p4,p5⟩:=cs6 r.out)
     go_roundw
     case rel=>
      refine ⟨m+1,S_ K W s,by go_num,O_,aT ((a_ p.out _).grown j (a_ p.out _).size (fun b g=>by have:=(y.out.own g).1;omega)) _ _ U,W_ r.out _,?_,?_,d.out⟩
      ·rw [O.out];exact c.kept (y_ w4 ⟨V,5,none⟩ (S_ K W s)) (.inr ⟨V,rfl,fun h=>h.elim,fun h=>by have:=(c.own h).1;omega⟩)
      ·have h4:=(q.alloc (.cells #[I_ (a+m)] 3)).kept j (cR_ y.out O_ d.out);exact h4.kept (y_ w4 ⟨V,5,none⟩ (S_ K W s)) (.inr ⟨V,rfl,fun h=>by have:=h.2;omega,fun h=>by have:=d.out _ h;omega⟩)
     case measure=>exact bV
    ·have G:m=N:=O_
     have M:=H_ (show wN a m=wN a n.toNat by rw [G,L.out]);have t1:decide (a+(m:Int)<a+n)=false:=dF O_;have t2:¬(a+(m:Int)<a+n):=O_
     clear G
     go_wp2_with (at_builtin;go_loud (refine M_ fj_ rfl (.tmp 58) (.tmp 60) rfl (fun b=>w.heap.size<=b) rfl ((q.alloc _).weak (fun b _ h=>h.1)) (by simp;omega) O_ #[I_ a,I_ n,I_ (n / 8),I_ (n / 4),I_ (n / 2),S_ A5 (wN a m).length c9] rfl (l_ _ _ _ rfl) (cJ_ a n) ⟨_,rfl,by
       show LA Y_ _ _ _ (wN a n.toNat)
       rw [<-M.out];exact (y.alloc _).la (fun b _ h=>h.elim) (fun b g=>⟨O_,fun h=>by have:=d.out b h;omega⟩)⟩ ?_);intro v4 w4 c j F)
     go_roundw
     case rel=>exact ⟨k+1,by go_num,by rw [Y.out],O_,by rw [Z.out];exact c,(a_ p.out _).grown j (a_ p.out _).size (fun b g=>(q.own g).1)⟩
     case measure=>exact bV
  ·obtain rfl:k=l.length:=O_
   rw [List.take_length] at *;go_wp2
   go_ret2
   exact ⟨_,rfl,q.la (fun b _ h=>hS b h) hS,p.out⟩
end
section
structure Pg where
 data:ByteArray
 valid:Int
 dirty:Int
abbrev vD (d:ByteArray) (v y:Int):Value:= .agg #[.string d,I_ v,I_ y]
structure iM (p:Pg):Prop where
 len:p.data.size=16
 v:0<=p.valid/\p.valid<=3
 d:0<=p.dirty/\p.dirty<=3
 sub:bits .andNot .i64 p.dirty p.valid=0
theorem cK:(prog.info? 83).map (·.size)=some 3:=by kernel_rfl
theorem nD (d:ByteArray) (v y:Int) (w:World) (ok:iM ⟨d,v,y⟩):C_ 123 #[vD d v y] w (cG true w):=by
 obtain ⟨h1,⟨h2,h3⟩,⟨b,c⟩,a⟩:=ok
 dsimp only at h1 h2 h3 b c a
 have f:((d.size:Int) == 16)=true:=by simp;omega
 have g:(bits .andNot .i64 y v == 0)=true:=by simp [a]
 clear h1 a;go_enter func123,ntmps123;go_wp2;go_ret;exact ⟨rfl,a_ B_ _⟩
theorem eP_ (off n:Int) (w:World) (h1:0<=off) (h2:0<=n) (h3:off<=16) (h4:n<=16 - off):C_ 195 #[I_ off,I_ n] w (kV (.bool true) w):=by
 have d1:decide (n<=16 - off)=true:=dT h4;go_enter func195,ntmps195;go_wp2;go_ret;exact ⟨rfl,rfl⟩
def fR (off n lo:Int):Nat->Int
 | 0=>0
 | j+1=>fR off n lo j+if off<=lo+(j:Int)/\lo+(j:Int)<off+n then 1 else 0
theorem xC (off n lo:Int) (j:Nat):0<=fR off n lo j/\fR off n lo j<=j:=by
 induction j with
 | zero=>simp [fR]
 | succ j ih=>unfold fR;split <;> omega
def qG (off n:Int) (k:Nat):Bool:=decide (0<fR off n (8*k) 8)
def zC (off n:Int) (k:Nat):Bool:=decide (fR off n (8*k) 8=8)
def mL (f:Nat->Bool):Nat->Int
 | 0=>0
 | 1=>if f 0 then 1 else 0
 | _=>(if f 0 then 1 else 0)+if f 1 then 2 else 0
def iZ (off n:Int):Int:=mL (qG off n) 2
def dN_ (off n:Int):Int:=mL (zC off n) 2
theorem sV (f:Nat->Bool) {k:Nat} (hk:k<2):(f k=true->bits .or .i64 (mL f k) ((2 ^ k:Nat):Int)=mL f (k+1))/\(f k=false->mL f k=mL f (k+1)):=by
 match k,hk with
 | 0,_=>
  constructor
  ·intro h;simp only[mL,h,if_true];decide +kernel
  ·intro h;simp [mL,h]
 | 1,_=>
  constructor
  ·intro h
   cases h0:f 0 <;> simp only[mL,h,h0,if_true] <;> decide +kernel
  ·intro h;simp [mL,h]
def ix_ (a b:Int) (w:World) (e:Ending) (w':World):Prop:=e = .returned (.tuple #[I_ a,I_ b])/\w=w'
theorem wM (off n:Int) (w:World) (h1:0<=off) (h2:0<=n) (h3:off<=16) (h4:n<=16 - off):C_ 196 #[I_ off,I_ n] w (ix_ (iZ off n) (dN_ off n) w):=by
 have E:off+n<=16:=O_
 go_enter func196,ntmps196;go_wp2
 go_loop [6,7,8] (fun t c k=>∃m:Nat,m<=2/\k = I_ m/\t = I_ (mL (qG off n) m)/\c = I_ (mL (zC off n) m)) (fun _ _ k=>2 - (intOf k).toNat)
 case atStart=>exact ⟨0,O_,rfl,rfl,rfl⟩
 case round=>
  obtain ⟨m,H,rfl,rfl,rfl⟩:=hrel;obtain rfl | rfl | rfl:m=0\/m=1\/m=2:=O_
  ·skip
   have s:=sV (qG off n) (k:=0) O_;have r:=sV (zC off n) (k:=0) O_;have o:=H_ s;have d:=H_ r;obtain ⟨t,x⟩:=bL (mL (qG off n) 0);obtain ⟨c,hc⟩:=bL (mL (zC off n) 0);rw [<-x,<-hc];rw [<-x] at o;rw [<-hc] at d;clear s r x hc;go_wp2
   go_loop [9,10] (fun A i=>∃j:Nat,j<=8/\i = I_ ((0:Int)+(j:Int))/\A = I_ (fR off n (0:Int) j)) (fun _ i=>((0:Int)+8 - intOf i).toNat)
   case atStart=>exact ⟨0,O_,rfl,rfl⟩
   case round=>
    obtain ⟨j,D,rfl,rfl⟩:=hrel;obtain ⟨F,G⟩:=xC off n (0:Int) j;have u:=H_ (show fR off n (0:Int) (j+1)=fR off n (0:Int) j+if off<=(0:Int)+(j:Int)/\(0:Int)+(j:Int)<off+n then 1 else 0 from rfl)
    by_cases v:j<8
    ·generalize fR off n (0:Int) j=q at *;have C:(0:Int)+(j:Int)<(0:Int)+8:=O_
     by_cases a1:off<=(0:Int)+(j:Int)
     ·by_cases a2:(0:Int)+(j:Int)<off+n
      ·have b:=H_ (show fR off n (0:Int) (j+1)=q+1 by rw [u.out,if_pos ⟨a1,a2⟩]);go_wp2
       go_round
       case rel=>exact ⟨j+1,O_,by go_num,by rw [b.out]⟩
       case measure=>exact bV
      ·have b:=H_ (show fR off n (0:Int) (j+1)=q by rw [u.out,if_neg (fun h=>a2 h.2)];omega);go_wp2
       go_round
       case rel=>exact ⟨j+1,O_,by go_num,by rw [b.out]⟩
       case measure=>exact bV
     ·have b:=H_ (show fR off n (0:Int) (j+1)=q by rw [u.out,if_neg (fun h=>a1 h.1)];omega);go_wp2
      go_round
      case rel=>exact ⟨j+1,O_,by go_num,by rw [b.out]⟩
      case measure=>exact bV
    ·obtain rfl:j=8:=O_
     have p:=H_ (show qG off n 0=decide (0<fR off n (0:Int) 8) from rfl);have l:=H_ (show zC off n 0=decide (fR off n (0:Int) 8=8) from rfl);generalize fR off n (0:Int) 8=q at *;clear u v
     by_cases y:0<q
     ·have f:=H_ (o.out.1 (by rw [p.out];exact dT y))
      by_cases g:q=8
      ·have a:=H_ (d.out.1 (by rw [l.out];exact dT g));have z:(q == 8)=true:=by simp [g]
       have B:=H_ g;clear g;go_wp2
       go_round
       case rel=>exact ⟨0+1,O_,by go_num,by rw [<-f.out];rfl,by rw [<-a.out];rfl⟩
       case measure=>simp [intOf]
      ·have a:=H_ (d.out.2 (by rw [l.out];exact dF g));have z:(q == 8)=false:=by simp [g]
       go_wp2
       go_round
       case rel=>exact ⟨0+1,O_,by go_num,by rw [<-f.out];rfl,by rw [<-a.out]⟩
       case measure=>simp [intOf]
     ·have f:=H_ (o.out.2 (by rw [p.out];exact dF y));have g:¬q=8:=O_
      have a:=H_ (d.out.2 (by rw [l.out];exact dF g));have z:(q == 8)=false:=by simp [g]
      go_wp2
      go_round
      case rel=>exact ⟨0+1,O_,by go_num,by rw [<-f.out],by rw [<-a.out]⟩
      case measure=>simp [intOf]
  ·skip
   have s:=sV (qG off n) (k:=1) O_;have r:=sV (zC off n) (k:=1) O_;have o:=H_ s;have d:=H_ r;obtain ⟨t,x⟩:=bL (mL (qG off n) 1);obtain ⟨c,hc⟩:=bL (mL (zC off n) 1);rw [<-x,<-hc];rw [<-x] at o;rw [<-hc] at d;clear s r x hc;go_wp2
   go_loop [9,10] (fun A i=>∃j:Nat,j<=8/\i = I_ ((8:Int)+(j:Int))/\A = I_ (fR off n (8:Int) j)) (fun _ i=>((8:Int)+8 - intOf i).toNat)
   case atStart=>exact ⟨0,O_,rfl,rfl⟩
   case round=>
    obtain ⟨j,D,rfl,rfl⟩:=hrel;obtain ⟨F,G⟩:=xC off n (8:Int) j;have u:=H_ (show fR off n (8:Int) (j+1)=fR off n (8:Int) j+if off<=(8:Int)+(j:Int)/\(8:Int)+(j:Int)<off+n then 1 else 0 from rfl)
    by_cases v:j<8
    ·generalize fR off n (8:Int) j=q at *;have C:(8:Int)+(j:Int)<(8:Int)+8:=O_
     by_cases a1:off<=(8:Int)+(j:Int)
     ·by_cases a2:(8:Int)+(j:Int)<off+n
      ·have b:=H_ (show fR off n (8:Int) (j+1)=q+1 by rw [u.out,if_pos ⟨a1,a2⟩]);go_wp2
       go_round
       case rel=>exact ⟨j+1,O_,by go_num,by rw [b.out]⟩
       case measure=>exact bV
      ·have b:=H_ (show fR off n (8:Int) (j+1)=q by rw [u.out,if_neg (fun h=>a2 h.2)];omega);go_wp2
       go_round
       case rel=>exact ⟨j+1,O_,by go_num,by rw [b.out]⟩
       case measure=>exact bV
     ·have b:=H_ (show fR off n (8:Int) (j+1)=q by rw [u.out,if_neg (fun h=>a1 h.1)];omega);go_wp2
      go_round
      case rel=>exact ⟨j+1,O_,by go_num,by rw [b.out]⟩
      case measure=>exact bV
    ·obtain rfl:j=8:=O_
     have p:=H_ (show qG off n 1=decide (0<fR off n (8:Int) 8) from rfl);have l:=H_ (show zC off n 1=decide (fR off n (8:Int) 8=8) from rfl);generalize fR off n (8:Int) 8=q at *;clear u v
     by_cases y:0<q
     ·have f:=H_ (o.out.1 (by rw [p.out];exact dT y))
      by_cases g:q=8
      ·have a:=H_ (d.out.1 (by rw [l.out];exact dT g));have z:(q == 8)=true:=by simp [g]
       have B:=H_ g;clear g;go_wp2
       go_round
       case rel=>exact ⟨1+1,O_,by go_num,by rw [<-f.out];rfl,by rw [<-a.out];rfl⟩
       case measure=>simp [intOf]
      ·have a:=H_ (d.out.2 (by rw [l.out];exact dF g));have z:(q == 8)=false:=by simp [g]
       go_wp2
       go_round
       case rel=>exact ⟨1+1,O_,by go_num,by rw [<-f.out];rfl,by rw [<-a.out]⟩
       case measure=>simp [intOf]
     ·have f:=H_ (o.out.2 (by rw [p.out];exact dF y));have g:¬q=8:=O_
      have a:=H_ (d.out.2 (by rw [l.out];exact dF g));have z:(q == 8)=false:=by simp [g]
      go_wp2
      go_round
      case rel=>exact ⟨1+1,O_,by go_num,by rw [<-f.out],by rw [<-a.out]⟩
      case measure=>simp [intOf]
  ·go_wp2
   go_ret2
   exact ⟨rfl,rfl⟩
end
section
def vK (p:Pg) (err:Int) (w:World) (e:Ending) (w':World):Prop:=e = .returned (.tuple #[vD p.data p.valid p.dirty,I_ err])/\s_ w w'
def iA_ (a b:Int) (w:World) (e:Ending) (w':World):Prop:=e = .returned (.tuple #[I_ a,I_ b])/\s_ w w'
theorem nC (h:fn.results=#[.cell p 83,.tmp q]) {g:Nat} {c:Value}
  (hp:tmps.getD p undef = P_ g) (hq:tmps.getD q undef=u) (hg:w.heap[g]?=some (.cells #[a,b,c] t fr)):(results fn tmps).run prog w = .ok (.tuple #[.agg #[a,b,c],u]) w:=
 c0_ h tmps t fr u hp hq hg underlying83 rfl cK
theorem eE {d:ByteArray} {v y:Int}:(#[Value.string d,I_ v,I_ y]:Array Value).all (·.oneCell')=true:=by simp [Value.oneCell']
def cA (p:Pg) (s:Int):Pg:={p with dirty:=bits .andNot .i64 p.dirty s}
def aA (p:Pg) (s:Int):Pg:={p with dirty:=bits .or .i64 p.dirty (bits .and .i64 s p.valid)}
theorem fM_ (d:ByteArray) (v y s:Int) (w:World) (ok:iM ⟨d,v,y⟩) (hs:0<=s/\s<=3):C_ 54 #[vD d v y,I_ s] w (vK (cA ⟨d,v,y⟩ s) 0 w):=by
 have g:=fun w'=>nD d v y w' ok;have k:=H_ (m_ (i_ w (.cells #[.string d,I_ v,I_ y] 83)) (.cells #[.string ByteArray.empty,I_ 0,I_ 0] 83));have i:=H_ (l_ (w.alloc (.cells #[.string d,I_ v,I_ y] 83)) (.cells #[.string ByteArray.empty,I_ 0,I_ 0] 83) (w+1) A_);have j:=H_ (a_ (a_ (aP (w) w) (.cells #[.string d,I_ v,I_ y] 83)) (.cells #[.string ByteArray.empty,I_ 0,I_ 0] 83));have l:decide (s<0)=false:=dF O_;have m:decide (3<s)=false:=dF O_;clear ok;go_enter func54,ntmps54
 go_wp2_with (first
  | (go_at_call 123;(with_reducible refine CM (g _) ?_);rintro e w1 ⟨rfl,c⟩;obtain ⟨a,b,f⟩:=bC k i j c;clear c;obtain ⟨x0,q,r⟩:=cR a.out;have n:=t_ a 0;have o:=t_ a 1;have p:=t_ a 2)
  | (refine cZ rfl 83 (.tmp 4) (.tmp 22) rfl rfl (w+1) #[.string d,I_ v,I_ (bits .andNot .i64 y s)] rfl rfl 83 _ (aQ b.out _ _ A_) cK rfl (eE) ?_))
 show bodyPost prog f54 _ _ _ _
 refine bodyPost_ret (nC rfl rfl rfl (setRow_heap _ _ _ _ _ _ (aQ b.out _ _ A_))) rfl ?_;exact ⟨rfl,d_ (aT f.out _ _ (bE _)) O_ _⟩
theorem bg_ (d:ByteArray) (v y s:Int) (w:World) (ok:iM ⟨d,v,y⟩) (hs:0<=s/\s<=3):C_ 69 #[vD d v y,I_ s] w (vK (aA ⟨d,v,y⟩ s) 0 w):=by
 have g:=fun w'=>nD d v y w' ok;have k:=H_ (m_ (i_ w (.cells #[.string d,I_ v,I_ y] 83)) (.cells #[.string ByteArray.empty,I_ 0,I_ 0] 83));have i:=H_ (l_ (w.alloc (.cells #[.string d,I_ v,I_ y] 83)) (.cells #[.string ByteArray.empty,I_ 0,I_ 0] 83) (w+1) A_);have j:=H_ (a_ (a_ (aP (w) w) (.cells #[.string d,I_ v,I_ y] 83)) (.cells #[.string ByteArray.empty,I_ 0,I_ 0] 83));have l:decide (s<0)=false:=dF O_;have m:decide (3<s)=false:=dF O_;clear ok;go_enter func69,ntmps69
 go_wp2_with (first
  | (go_at_call 123;(with_reducible refine CM (g _) ?_);rintro e w1 ⟨rfl,c⟩;obtain ⟨a,b,f⟩:=bC k i j c;clear c;obtain ⟨x0,q,r⟩:=cR a.out;have n:=t_ a 0;have o:=t_ a 1;have p:=t_ a 2)
  | (refine cZ rfl 83 (.tmp 4) (.tmp 25) rfl rfl (w+1) #[.string d,I_ v,I_ (bits .or .i64 y (bits .and .i64 s v))] rfl rfl 83 _ (aQ b.out _ _ A_) cK rfl (eE) ?_))
 show bodyPost prog f69 _ _ _ _
 refine bodyPost_ret (nC rfl rfl rfl (setRow_heap _ _ _ _ _ _ (aQ b.out _ _ A_))) rfl ?_;exact ⟨rfl,d_ (aT f.out _ _ (bE _)) O_ _⟩
def mF (v off n:Int) (wr:Bool):Int:=bits .andNot .i64 (if wr then bits .andNot .i64 (iZ off n) (dN_ off n) else iZ off n) v
theorem xO (d:ByteArray) (v y off n:Int) (b:Bool) (w:World) (ok:iM ⟨d,v,y⟩) (h1:0<=off) (h2:0<=n) (h3:off<=16) (h4:n<=16 - off):C_ 152 #[vD d v y,I_ off,I_ n,.bool b] w (iA_ (mF v off n b) 0 w):=by
 have i:=fun w'=>nD d v y w' ok;have j:=fun w'=>eP_ off n w' h1 h2 h3 h4;have k:=fun w'=>wM off n w' h1 h2 h3 h4;have o:=H_ (i_ w (.cells #[.string d,I_ v,I_ y] 83));have m:=H_ (a_ (aP (w) w) (.cells #[.string d,I_ v,I_ y] 83));have l:=H_ (show mF v off n b=bits .andNot .i64 (if b then bits .andNot .i64 (iZ off n) (dN_ off n) else iZ off n) v from rfl);generalize iZ off n=t at *;generalize dN_ off n=c at *;clear ok
 cases b
 all_goals
  go_enter func152,ntmps152
  go_wp2_with (first
   | (go_at_call 123;(with_reducible refine CM (i _) ?_);rintro e w1 ⟨rfl,a⟩;obtain ⟨g,f⟩:=jN o m a;clear a;obtain ⟨x0,p,q⟩:=cR g.out)
   | (go_at_call 195;(with_reducible refine CM (j _) ?_);rintro e w2 ⟨rfl,rfl⟩)
   | (go_at_call 196;(with_reducible refine CM (k _) ?_);rintro e w2 ⟨rfl,rfl⟩))
  go_ret2
  rw [l.out];exact ⟨rfl,f⟩
end
section
def ck_ (d s:ByteArray) (o:Nat):ByteArray:=d.extract 0 o ++ s ++ d.extract (o+s.size) d.size
def aF (p:Pg) (o:Nat) (s:ByteArray):Pg:=⟨ck_ p.data s o,bits .or .i64 p.valid (iZ o s.size),bits .or .i64 p.dirty (iZ o s.size)⟩
theorem aj_ (d:ByteArray) (v y:Int) (o:Nat) (s:ByteArray) (w:World) (ok:iM ⟨d,v,y⟩) (hr:o+s.size<=16) (hn:mF v o s.size true=0):C_ 153 #[vD d v y,I_ o,.string s] w (vK (aF ⟨d,v,y⟩ o s) 0 w):=by
 have i:=fun w'=>xO d v y o s.size true w' ok O_ O_ O_ O_;have m:=fun w'=>wM o s.size w' O_ O_ O_ O_;rw [hn] at i;have B:d.size=16:=ok.len;have r:=H_ (m_ (i_ w (.cells #[.string d,I_ v,I_ y] 83)) (.cells #[.string ByteArray.empty,I_ 0,I_ 0] 83));have p:=H_ (l_ (w.alloc (.cells #[.string d,I_ v,I_ y] 83)) (.cells #[.string ByteArray.empty,I_ 0,I_ 0] 83) (w+1) A_);have q:=H_ (a_ (a_ (aP (w) w) (.cells #[.string d,I_ v,I_ y] 83)) (.cells #[.string ByteArray.empty,I_ 0,I_ 0] 83));have n:=H_ (show aF ⟨d,v,y⟩ o s=⟨ck_ d s o,bits .or .i64 v (iZ o s.size),bits .or .i64 y (iZ o s.size)⟩ from rfl);generalize iZ o s.size=t at *;generalize dN_ o s.size=c at *;have a1:o<=d.size:=O_
 have a2:o+s.size<=d.size:=O_
 have n1:¬(9223372036854775807<o+s.size):=O_
 have n3:¬(9223372036854775807<d.size):=O_
 have n2:¬(9223372036854775807<o+s.size+(d.size - (o+s.size))):=O_
 have u:i64.wrap ((o:Int)+(s.size:Int))=(o:Int)+(s.size:Int):=gJ O_;have x:(0:Int)<=(o:Int)+(s.size:Int):=O_
 have z:((o:Int)+(s.size:Int)).toNat=o+s.size:=O_
 have A:(o:Int)+(s.size:Int)<=(d.size:Int):=O_
 clear ok hn B;go_enter func153,ntmps153
 go_upto_region 7 with (first
  | (go_at_call 152;(with_reducible refine CM (i _) ?_);rintro e w1 ⟨rfl,g⟩;obtain ⟨f,j,k⟩:=bC r p q g;clear g;obtain ⟨x0,C,D⟩:=cR f.out)
  | (go_at_call 196;(with_reducible refine CM (m _) ?_);rintro e w2 ⟨rfl,rfl⟩))
 go_still_tail 22,q_
 change wpList _ _ _ _ _ w1.drew
 have l:=H_ (h_ (w':=w1.drew) f (aP (w1) w1).drew);have a:=H_ (h_ (w':=w1.drew) j (aP (w1) w1).drew);have b:=H_ (e_ (w1:=w1.drew) k (aP (w1) w1).drew);generalize w1.drew=V at l a b;clear x0 C D u x z A
 go_wp2_with (refine cZ rfl 83 (.tmp 6) (.tmp 56) rfl rfl (w+1) #[.string (d.extract 0 o ++ s ++ d.extract (o+s.size) d.size),I_ (bits .or .i64 v t),I_ (bits .or .i64 y t)] rfl rfl 83 _ (a) cK rfl (eE) ?_)
 show bodyPost prog f153 _ _ _ _
 refine bodyPost_ret (nC rfl rfl rfl (setRow_heap _ _ _ _ _ _ a)) rfl ?_;rw [n.out];exact ⟨rfl,d_ b.out O_ _⟩
def cI_:Pg:=⟨⟨#[0,0,0,0,0,0,0,0,0,0,0,0,0,0,0,0]⟩,0,0⟩
def vW:Pg:={cI_ with valid:=3}
def gT_ (p:Pg) (w:World) (e:Ending) (w':World):Prop:=e = .returned (vD p.data p.valid p.dirty)/\s_ w w'
theorem eL_ (h:fn.results=#[.cell p 83]) {g:Nat} {c:Value}
  (hp:tmps.getD p undef = P_ g) (hg:w.heap[g]?=some (.cells #[a,b,c] t fr)):(results fn tmps).run prog w = .ok (.agg #[a,b,c]) w:=
 results_cell_row h tmps w g t _ fr _ hp hg underlying83 rfl cK
theorem nJ:(prog.info? 5).map (fun i=>(i.zero,i.size,i.bytes))=some (some (.int .u8 0),1,1):=by kernel_rfl
theorem kX (l:List UInt8) (g c:Nat) (w:World) (hc:∀j (hj:j<l.length),w.cell? ⟨g,j,none⟩=some (.int .u8 (l[j].toNat:Int))) :
  (convert 77 9 (S_ (some ⟨g,0,none⟩) l.length c)).run prog w = .ok (.string ⟨l.toArray⟩) w:=by
 refine run_convert_bytes_back (P:=prog) w 77 9 5 ⟨g,0,none⟩ c l underlying77 underlying5 underlying9 ?_;intro j hj;rw [show (⟨g,0,none⟩:Addr).add j=⟨g,j,none⟩ by rw [Addr.add_mid,Nat.zero_add]];exact hc j hj
theorem wA (n:Nat):(madeCells (Value.int .u8 0).cells (n*1)).toList=List.replicate n (.int .u8 0):=by
 apply List.ext_getElem?;intro i
 by_cases h:i<n
 ·simp [madeCells,h,Value.cells,Nat.mod_one]
 ·simp [madeCells,h,Value.cells]
theorem qU {g:Nat} (h:w.ownsRow base e 1 (S_ (some ⟨g,0,none⟩) n n) n (madeCells (Value.int .u8 0).cells (n*1)).toList) (w2:World) (hk:w2.heap[g]?=w.heap[g]?):(convert 77 9 (S_ (some ⟨g,0,none⟩) n n)).run prog w2 = .ok (.string ⟨(List.replicate n 0).toArray⟩) w2:=by
 have:=kX (List.replicate n 0) g n w2 (fun j hj=>by
  rw [rL_] at hj;rw [g_ hk,h.cellAt j O_,wA];simp [hj])
 rw [rL_] at this;exact this
theorem hP_ (w:World):C_ 136 #[] w (gT_ cI_ w):=by
 have k:=H_ (i_ w (.cells #[.string ByteArray.empty,I_ 0,I_ 0] 83));obtain ⟨o,n,g,i,j⟩:=info_parts nJ;go_enter func136,ntmps136
 go_wp2_with (first
  | (refine wpList_make_full (w.alloc (.cells #[.string ByteArray.empty,I_ 0,I_ 0] 83)) rfl (.const (I_ 16)) (.const (I_ 16)) 77 rfl (w) 5 o (.int .u8 0) 1 underlying77 n g i .i64 .i64 16 16 16 rfl rfl rfl rfl (by rw [j];omega) (by unfold maxLen;omega) (a_ (aP (w) w) _).size ?_;intro w4 a d;rw [show (w.alloc (.cells #[.string ByteArray.empty,I_ 0,I_ 0] 83)).heap.size=w.heap.size+1 by simp] at a;have m:=qU a w4 rfl;have c:=H_ (cJ d k.out A_);have f:=H_ ((a_ (aP (w) w) (.cells #[.string ByteArray.empty,I_ 0,I_ 0] 83)).grown d (a_ (aP (w) w) _).size (fun b l=>by cases l)))
  | (refine cZ rfl 83 (.tmp 0) (.tmp 3) rfl rfl w #[.string ⟨(List.replicate 16 0).toArray⟩,I_ 0,I_ 0] rfl rfl 83 _ (c) cK rfl (eE) ?_))
 show bodyPost prog f136 _ _ _ _
 refine bodyPost_ret (eL_ rfl rfl (setRow_heap _ _ _ _ _ _ c)) rfl ?_;exact ⟨rfl,d_ f.out (bE _) _⟩
theorem gm_ (w:World):C_ 138 #[] w (gT_ vW w):=by
 have k:=H_ (i_ w (.cells #[.string ByteArray.empty,I_ 0,I_ 0] 83));obtain ⟨o,n,g,i,j⟩:=info_parts nJ;go_enter func138,ntmps138
 go_wp2_with (first
  | (refine wpList_make_full (w.alloc (.cells #[.string ByteArray.empty,I_ 0,I_ 0] 83)) rfl (.const (I_ 16)) (.const (I_ 16)) 77 rfl (w) 5 o (.int .u8 0) 1 underlying77 n g i .i64 .i64 16 16 16 rfl rfl rfl rfl (by rw [j];omega) (by unfold maxLen;omega) (a_ (aP (w) w) _).size ?_;intro w4 a d;rw [show (w.alloc (.cells #[.string ByteArray.empty,I_ 0,I_ 0] 83)).heap.size=w.heap.size+1 by simp] at a;have m:=qU a w4 rfl;have c:=H_ (cJ d k.out A_);have f:=H_ ((a_ (aP (w) w) (.cells #[.string ByteArray.empty,I_ 0,I_ 0] 83)).grown d (a_ (aP (w) w) _).size (fun b l=>by cases l)))
  | (refine cZ rfl 83 (.tmp 0) (.tmp 3) rfl rfl w #[.string ⟨(List.replicate 16 0).toArray⟩,I_ 3,I_ 0] rfl rfl 83 _ (c) cK rfl (eE) ?_))
 show bodyPost prog f138 _ _ _ _
 refine bodyPost_ret (eL_ rfl rfl (setRow_heap _ _ _ _ _ _ c)) rfl ?_;exact ⟨rfl,d_ f.out (bE _) _⟩
end
section
def U8R:RR UInt8 1:=RR.flat (fun b=>[.int .u8 (b.toNat:Int)]) (fun a=>⟨rfl,fun u hu=>by simp at hu;subst hu;rfl⟩)
theorem yW (w:World) (s:ByteArray):LW U8R (Lib.bytesWorld w 5 s) (fun _=>False) (w) s.data.toList:=by
 have g:=Lib.bytesWorld_at_new w 5 s;have l:(Lib.bytesCells w 5 s).size>=s.data.toList.length:=by simp [Lib.bytesCells]
 refine ⟨fun h=>h,s.data.toList.map (fun b=>[.int .u8 (b.toNat:Int)]),⟨fun j c=>?_,by rw [Lib.bytesWorld_size];omega,cL.shp (R:=U8R) (w:=w) (S:=fun _=>False) (cL.of_map _),fun i r j u a c=>?_⟩,cL.of_map _⟩
 ·have f:j<s.data.toList.length:=by simpa using c
  rw [Nat.zero_add]
  constructor
  ·have:=Lib.bytesWorld_cell w 5 s j (by simpa using f);rw [this];rfl
  ·simp [World.frozen?,g];omega
 ·rw [gP_] at a
  cases hb:s.data.toList[i]? with
  | none=>rw [hb] at a;simp at a
  | some b=>
   rw [hb] at a;have a:[Value.int .u8 (b.toNat:Int)]=r:=by simpa using a
   subst a
   match j with
   | 0=>
    have k:Value.int .u8 (b.toNat:Int)=u:=by simpa using c
    subst k;have d:=bI hb;rw [Nat.mul_one,Nat.add_zero,Lib.bytesWorld_cell w 5 s i (by simpa using d)];have:s.data.toList.getD i 0=b:=by rw [List.getD_eq_getElem?_getD,hb];rfl
    rw [this]
   | j+1=>simp at c
theorem rR (w:World) (e:TypeId) (s:ByteArray):s_ w (Lib.bytesWorld w e s):=by
 refine ⟨?_,?_,?_,by rw [Lib.bytesWorld_size];omega,fun k hk=>Lib.bytesWorld_at_old w e s k hk⟩ <;> rfl
def pP (v eB:Int) (i:Nat):Bool:=(bits .and .i64 eB ((2 ^ (i / 8):Nat):Int) != 0)&&(bits .and .i64 v ((2 ^ (i / 8):Nat):Int) == 0)
def gG (d t:ByteArray) (v eB:Int) (k:Nat):List UInt8:=(List.range 16).map (fun i=>if i<k/\pP v eB i=true then t.data.toList.getD i 0 else d.data.toList.getD i 0)
theorem dA (d t:ByteArray) (v eB:Int) (k:Nat):(gG d t v eB k).length=16:=by unfold gG;simp
theorem kD {d t:ByteArray} {v eB:Int} (h:i<16):(gG d t v eB k)[i]?=some (if i<k/\pP v eB i=true then t.data.toList.getD i 0 else d.data.toList.getD i 0):=by
 unfold gG;rw [gP_,List.getElem?_range h];rfl
theorem aS_ {d t:ByteArray} {v eB:Int} (hd:d.size=16):gG d t v eB 0=d.data.toList:=by
 apply List.ext_getElem?;intro i;have hl:d.data.toList.length=16:=by simpa using hd
 by_cases h:i<16
 ·rw [kD h,if_neg O_,List.getD_eq_getElem?_getD,cY O_];rfl
 ·rw [eN_ (by rw [dA];omega),eN_ O_]
theorem vU {d t:ByteArray} {v eB:Int} (h:k<16) (hn:pP v eB k=true):(gG d t v eB k).set k (t.data.toList.getD k 0)=gG d t v eB (k+1):=by
 apply List.ext_getElem?;intro i
 by_cases a:i<16
 ·by_cases b:i=k
  ·subst b;rw [lM (by rw [dA];exact h),kD a,if_pos ⟨O_,hn⟩]
  ·rw [gN_ (fun e=>b e.symm),kD a,kD a]
   congr 2
   by_cases hl:i<k
   ·simp [hl,show i<k+1 by omega]
   ·simp [hl,show ¬i<k+1 by omega]
 ·rw [eN_ (by rw [kL,dA];omega),eN_ (by rw [dA];omega)]
theorem lC {d t:ByteArray} {v eB:Int} (hn:pP v eB k=false):gG d t v eB k=gG d t v eB (k+1):=by
 apply List.ext_getElem?;intro i
 by_cases a:i<16
 ·rw [kD a,kD a]
  congr 2
  by_cases b:i=k
  ·subst b;simp [hn]
  ·by_cases hl:i<k
   ·simp [hl,show i<k+1 by omega]
   ·simp [hl,show ¬i<k+1 by omega]
 ·rw [eN_ (by rw [dA];omega),eN_ (by rw [dA];omega)]
def mC (p:Pg) (eB:Int) (t:ByteArray):Pg:=⟨⟨(gG p.data t p.valid eB 16).toArray⟩,bits .or .i64 p.valid eB,p.dirty⟩
theorem hu_ (d:ByteArray) (v y eB:Int) (t:ByteArray) (w:World) (ok:iM ⟨d,v,y⟩) (hs:0<=eB/\eB<=3) (ht:t.size=16):C_ 150 #[vD d v y,I_ eB,.string t] w (vK (mC ⟨d,v,y⟩ eB t) 0 w):=by
 have R:=fun w'=>nD d v y w' ok;have Z:d.size=16:=ok.len;have q:=H_ (m_ (i_ w (.cells #[.string d,I_ v,I_ y] 83)) (.cells #[.string ByteArray.empty,I_ 0,I_ 0] 83));have g:=H_ (l_ (w.alloc (.cells #[.string d,I_ v,I_ y] 83)) (.cells #[.string ByteArray.empty,I_ 0,I_ 0] 83) (w+1) A_);have o:=H_ (a_ (a_ (aP (w) w) (.cells #[.string d,I_ v,I_ y] 83)) (.cells #[.string ByteArray.empty,I_ 0,I_ 0] 83));have L:=H_ Z;have HT:=H_ ht;have d1:decide (eB<0)=false:=dF O_;have d2:decide (3<eB)=false:=dF O_;have d3:((t.size:Int) != 16)=false:=by simp;omega
 have K:=fun w=>Lib.run_convert_string_bytes (P:=prog) w 9 77 5 d underlying9 underlying77 underlying5;clear ok Z ht;go_enter func150,ntmps150
 go_upto_region 6 with (go_at_call 123;(with_reducible refine CM (R _) ?_);rintro e w1 ⟨rfl,I⟩;obtain ⟨C,u,z⟩:=bC q g o I;clear I;obtain ⟨x0,x1,x2⟩:=cR C.out)
 have m:=H_ (show LW U8R (Lib.bytesWorld w1 5 d) (fun _=>False) (w1) (gG d t v eB 0) by rw [aS_ L.out];exact yW w1 d);have J:=rR w1 5 d;obtain ⟨D,x,A⟩:=bC C u z J;have hB:=z.size;have M:=n_ u;have a0:d.size<=16:=by have:=L.out;omega
 have a1:16<=d.size:=by have:=L.out;omega
 have a3:16<=t.size:=by have:=HT.out;omega
 clear J K x0 x1 x2 C u z q g o;generalize Lib.bytesWorld w1 5 d=V at m D x A;generalize grownCap w1 d.size 0 5=W;obtain ⟨B,H⟩:=bL w1.heap.size;rw [<-H] at m hB M ⊢;clear H;go_wp2
 go_loopw [9] (fun i wx=>∃k:Nat,i = I_ k/\k<=16/\LW U8R wx (fun _=>False) B (gG d t v eB k)/\s_ w wx/\bA wx (w) #[.string d,I_ v,I_ y] 83/\bA wx (w+1) #[.string ByteArray.empty,I_ 0,I_ 0] 83) (fun i _=>16 - (intOf i).toNat)
 case atStart=>exact ⟨0,rfl,O_,m.out,A.out,D.out,x.out⟩
 case round=>
  clear m A D x;obtain ⟨k,rfl,hk,F,Y,N,X⟩:=hrel;obtain ⟨m,o,q,g⟩:=rW F Y N X;obtain ⟨x0,x1,x2⟩:=cR N;clear Y N X
  by_cases c:k<16
  ·have a2:k<d.size:=O_
   have U:k<t.size:=O_
   have f0:=(F.slot (i:=k) (p:=0) (by rw [dA];exact c) O_).2;obtain ⟨c0,Q⟩:=(F.slot (i:=k) (p:=0) (by rw [dA];exact c) O_).1;rw [Nat.mul_one,Nat.add_zero] at f0 Q;have f:=H_ (show t.data.toList.getD k 0=t[k] by
    rw [List.getD_eq_getElem?_getD,cY (by simpa using U)];rfl)
   clear F;obtain ⟨E,O,s⟩:∃E:Nat,(E=0\/E=1)/\k / 8=E:=⟨k / 8,O_,rfl⟩;have S:(k:Int) / 8=(E:Int):=O_
   have G:=H_ (show pP v eB k=((bits .and .i64 eB ((2 ^ E:Nat):Int) != 0)&&(bits .and .i64 v ((2 ^ E:Nat):Int) == 0)) by unfold pP;rw [s]);clear s
   rcases O with rfl | rfl
   ·skip
    have b:=H_ (show pP v eB k=((bits .and .i64 eB 1 != 0)&&(bits .and .i64 v 1 == 0)) from G)
    cases e1:(bits .and .i64 eB 1 != 0) with
    | false=>
     have l:=H_ (lC (d:=d) (t:=t) (show pP v eB k=false by rw [b.out,e1];rfl));go_wp2;go_roundw
     case rel=>exact ⟨k+1,by go_num,O_,by rw [<-l.out];exact m,o,q,g⟩
     case measure=>exact bV
    | true=>
     cases e2:(bits .and .i64 v 1 == 0) with
     | false=>
      have l:=H_ (lC (d:=d) (t:=t) (show pP v eB k=false by rw [b.out,e1,e2];rfl));go_wp2;go_roundw
      case rel=>exact ⟨k+1,by go_num,O_,by rw [<-l.out];exact m,o,q,g⟩
      case measure=>exact bV
     | true=>
      have l:=H_ (vU (d:=d) (t:=t) c (show pP v eB k=true by rw [b.out,e1,e2];rfl));go_wp2;go_roundw
      case rel=>
       refine ⟨k+1,by go_num,O_,?_,aT o.out _ _ (by show w.heap.size<=B;omega),aQ q.out _ _ (by show w.heap.size≠B;omega),aQ g.out _ _ (by show w.heap.size+1≠B;omega)⟩;have:=m.setOne (i:=k) (p:=0) (a:=(gG d t v eB k)[k]'(by rw [dA];exact c)) (a':=t.data.toList.getD k 0) (v:= .int .u8 ((t.data.toList.getD k 0).toNat:Int)) (cY _) O_ rfl (fun r n=>by
        have n:r=[.int .u8 _]:=n;subst n
        rfl)
       rw [l.out,Nat.mul_one,Nat.add_zero,f.out] at this;exact this
      case measure=>exact bV
   ·skip
    have b:=H_ (show pP v eB k=((bits .and .i64 eB 2 != 0)&&(bits .and .i64 v 2 == 0)) from G)
    cases e1:(bits .and .i64 eB 2 != 0) with
    | false=>
     have l:=H_ (lC (d:=d) (t:=t) (show pP v eB k=false by rw [b.out,e1];rfl));go_wp2;go_roundw
     case rel=>exact ⟨k+1,by go_num,O_,by rw [<-l.out];exact m,o,q,g⟩
     case measure=>exact bV
    | true=>
     cases e2:(bits .and .i64 v 2 == 0) with
     | false=>
      have l:=H_ (lC (d:=d) (t:=t) (show pP v eB k=false by rw [b.out,e1,e2];rfl));go_wp2;go_roundw
      case rel=>exact ⟨k+1,by go_num,O_,by rw [<-l.out];exact m,o,q,g⟩
      case measure=>exact bV
     | true=>
      have l:=H_ (vU (d:=d) (t:=t) c (show pP v eB k=true by rw [b.out,e1,e2];rfl));go_wp2;go_roundw
      case rel=>
       refine ⟨k+1,by go_num,O_,?_,aT o.out _ _ (by show w.heap.size<=B;omega),aQ q.out _ _ (by show w.heap.size≠B;omega),aQ g.out _ _ (by show w.heap.size+1≠B;omega)⟩;have:=m.setOne (i:=k) (p:=0) (a:=(gG d t v eB k)[k]'(by rw [dA];exact c)) (a':=t.data.toList.getD k 0) (v:= .int .u8 ((t.data.toList.getD k 0).toNat:Int)) (cY _) O_ rfl (fun r n=>by
        have n:r=[.int .u8 _]:=n;subst n
        rfl)
       rw [l.out,Nat.mul_one,Nat.add_zero,f.out] at this;exact this
      case measure=>exact bV
  ·obtain rfl:k=16:=O_
   have K:(convert 77 9 (S_ (some ⟨B,0,none⟩) d.size W)).run prog wr = .ok (.string ⟨(gG d t v eB 16).toArray⟩) wr:=by
    have:=kX (gG d t v eB 16) B W wr (fun j hj=>by
     obtain ⟨r,n,hc⟩:=F.at_ (cY hj);have n:r=[.int .u8 _]:=n;subst n;have:=hc 0 _ rfl;rw [Nat.mul_one,Nat.add_zero] at this;exact this)
    rw [dA] at this;rw [L.out];exact this
   clear F
   go_wp2_with (refine cZ rfl 83 (.tmp 6) (.tmp 64) rfl rfl (w+1) #[.string ⟨(gG d t v eB 16).toArray⟩,I_ (bits .or .i64 v eB),I_ y] rfl rfl 83 _ (g) cK rfl (eE) ?_)
   show bodyPost prog f150 _ _ _ _
   refine bodyPost_ret (nC rfl rfl rfl (setRow_heap _ _ _ _ _ _ g)) rfl ?_;exact ⟨rfl,d_ o.out O_ _⟩
end
section
abbrev erV (c e:Int):Value:= .agg #[I_ c,I_ e]
def qO (c e:Int):Prop:=0<=c/\c<=1000000/\(c=0↔e=0)
theorem lA:(prog.info? 60).map (·.size)=some 2:=by kernel_rfl
theorem cx_ {c e:Int} (w:World) (ok:qO c e):C_ 130 #[erV c e] w (cG true w):=by
 obtain ⟨h1,h2,h3⟩:=ok
 by_cases hc:c=0
 ·have a:=h3.1 hc;subst hc a;clear h3;go_enter func130,ntmps130;go_wp2;go_ret;exact ⟨rfl,a_ B_ _⟩
 ·have a:¬e=0:=fun h=>hc (h3.2 h);have b:(c == 0)=false:=by simp [hc]
  have d:(e == 0)=false:=by simp [a]
  clear h3;go_enter func130,ntmps130;go_wp2;go_ret;exact ⟨rfl,a_ B_ _⟩
def dN (c e err:Int):Int × Int × Int:=if c=1000000 then (c,e,3) else (c+1,err,0)
def gK_ (r:Int × Int × Int) (w:World) (e:Ending) (w':World):Prop:=e = .returned (.tuple #[erV r.1 r.2.1,I_ r.2.2])/\s_ w w'
theorem qW {a b:Int}:(#[Value.int i64 a,I_ b]:Array Value).all (·.oneCell')=true:=by simp [Value.oneCell']
theorem sN (h:fn.results=#[.cell p 60,.tmp q]) {g:Nat}
  (hp:tmps.getD p undef = P_ g) (hq:tmps.getD q undef=u) (hg:w.heap[g]?=some (.cells #[a,b] t fr)):(results fn tmps).run prog w = .ok (.tuple #[.agg #[a,b],u]) w:=
 c0_ h tmps t fr u hp hq hg underlying60 rfl lA
theorem eQ_ {c e:Int}(err:Int) (w:World) (ok:qO c e) (herr:err≠0):C_ 70 #[erV c e,I_ err] w (gK_ (dN c e err) w):=by
 have g:=fun w'=>cx_ w' ok;have l:=H_ (m_ (i_ w (.cells #[I_ c,I_ e] 60)) (.cells #[I_ 0,I_ 0] 60));have j:=H_ (l_ (w.alloc (.cells #[I_ c,I_ e] 60)) (.cells #[I_ 0,I_ 0] 60) (w+1) A_);have k:=H_ (a_ (a_ (aP (w) w) (.cells #[I_ c,I_ e] 60)) (.cells #[I_ 0,I_ 0] 60));have r:(err == 0)=false:=by simp [herr]
 have p:=ok.1;have q:=ok.2.1;clear ok herr
 by_cases hc:c=1000000
 ·have i:=H_ (show dN c e err=(c,e,3) by unfold dN;rw [if_pos hc]);have m:(c == 1000000)=true:=by simp [hc]
  have n:=H_ hc;clear hc;go_enter func70,ntmps70
  go_wp2_with (first
   | (go_at_call 130;(with_reducible refine CM (g _) ?_);rintro e w1 ⟨rfl,b⟩;obtain ⟨f,a,d⟩:=bC l j k b;clear b;obtain ⟨x0,o⟩:=uW f.out)
   | (refine cZ rfl 60 (.tmp 4) (.tmp 17) rfl rfl (w+1) #[I_ c,I_ e] rfl rfl 60 _ (a) lA rfl (qW) ?_))
  show bodyPost prog f70 _ _ _ _
  refine bodyPost_ret (sN rfl rfl rfl (setRow_heap _ _ _ _ _ _ a)) rfl ?_;rw [i.out];exact ⟨rfl,d_ d.out O_ _⟩
 ·have i:=H_ (show dN c e err=(c+1,err,0) by unfold dN;rw [if_neg hc]);have m:(c == 1000000)=false:=by simp [hc]
  go_enter func70,ntmps70
  go_wp2_with (first
   | (go_at_call 130;(with_reducible refine CM (g _) ?_);rintro e w1 ⟨rfl,b⟩;obtain ⟨f,a,d⟩:=bC l j k b;clear b;obtain ⟨x0,o⟩:=uW f.out)
   | (refine cZ rfl 60 (.tmp 4) (.tmp 22) rfl rfl (w+1) #[I_ (c+1),I_ err] rfl rfl 60 _ (a) lA rfl (qW) ?_))
  show bodyPost prog f70 _ _ _ _
  refine bodyPost_ret (sN rfl rfl rfl (setRow_heap _ _ _ _ _ _ a)) rfl ?_;rw [i.out];exact ⟨rfl,d_ d.out O_ _⟩
theorem b7_ (w:World):C_ 146 #[I_ 128] w (kV (I_ 7) w):=by
 go_enter func146,ntmps146;go_wp2;go_ret;exact ⟨rfl,rfl⟩
end
section
structure Fr where
 file:Int
 page:Int
 pg:Pg
 tenant:Int
 holds:Int
 reading:Int
 writing:Int
def Fr.row (x:Fr):List Value:=[I_ x.file,I_ x.page,.string x.pg.data,I_ x.pg.valid,I_ x.pg.dirty,I_ x.tenant,I_ x.holds,I_ x.reading,I_ x.writing]
def rO:RR Fr 9:=RR.flat Fr.row (fun a=>⟨rfl,fun u hu=>by
 simp only[Fr.row,qL,List.not_mem_nil,or_false] at hu
 rcases hu with rfl | rfl | rfl | rfl | rfl | rfl | rfl | rfl | rfl <;> rfl⟩)
theorem fZ_:(prog.info? 85).map (fun i=>(i.zero,i.size,i.bytes))=some (some (.agg (nO 0 0 ByteArray.empty 0 0 0 0 0 0)),9,80):=by kernel_rfl
theorem d0_:tA prog 24 85 9:=by
 obtain ⟨i,h1,h2,h3,h4⟩:=info_parts fZ_;exact ⟨i,_,80,underlying24,h1,h2,h3,h4,rfl,O_,O_⟩
structure Fl where
 dev:Int
 slot:Int
 c:Cn
 size:Int
 blocks:Int
 ecnt:Int
 eerr:Int
 sseq:Int
 ssize:Int
 sblocks:Int
 which:Int
 seq:Int
def Fl.rowT (f:Fl) (h:Nat) (A:Option Addr) (cap:Nat):List Value:=[I_ f.dev,I_ f.slot,I_ h,S_ A (j_ h f.c).kids.length cap,I_ (j_ h f.c).val,I_ (j_ h f.c).marks,I_ f.size,I_ f.blocks,I_ f.ecnt,I_ f.eerr,I_ f.sseq,I_ f.ssize,I_ f.sblocks,I_ f.which,I_ f.seq]
def FlP (w:World) (S:Nat->Prop) (f:Fl) (r:List Value):Prop:=∃(h:Nat) (A:Option Addr) (cap:Nat),bF f.c/\aM h f.c/\(j_ h f.c).kids.length<=cap/\NK w S A (j_ h f.c).kids/\r=f.rowT h A cap
def jI:RR Fl 15 where
 p:=FlP
 st w w' S a r hk h:=by obtain ⟨n,A,cap,h1,h2,h3,h4,h5⟩:=h;exact ⟨n,A,cap,h1,h2,h3,h4.kept hk.1 hk.2,h5⟩
 wk w S S' a r hS h:=by obtain ⟨n,A,cap,h1,h2,h3,h4,h5⟩:=h;exact ⟨n,A,cap,h1,h2,h3,h4.weak hS,h5⟩
 sh w S a r h:=by
  obtain ⟨n,A,cap,h1,h2,h3,h4,rfl⟩:=h;refine ⟨rfl,fun u hu=>?_⟩;simp only[Fl.rowT,qL,List.not_mem_nil,or_false] at hu
  rcases hu with rfl | rfl | rfl | rfl | rfl | rfl | rfl | rfl | rfl | rfl | rfl | rfl | rfl | rfl | rfl <;> rfl
theorem fY_:(prog.info? 64).map (fun i=>(i.zero,i.size,i.bytes))=some (some (.agg #[I_ 0,I_ 0,I_ 0,S_ none 0 0,I_ 0,I_ 0,I_ 0,I_ 0,I_ 0,I_ 0,I_ 0,I_ 0,I_ 0,I_ 0,I_ 0]),15,136):=by kernel_rfl
theorem dZ_:tA prog 23 64 15:=by
 obtain ⟨i,h1,h2,h3,h4⟩:=info_parts fY_;exact ⟨i,_,136,underlying23,h1,h2,h3,h4,rfl,O_,O_⟩
theorem bO_:(prog.info? 119).map (fun i=>(i.zero,i.size,i.bytes))=some (some (.agg #[S_ none 0 0,S_ none 0 0,S_ none 0 0]),3,72):=by kernel_rfl
theorem g3_:tA prog 27 119 3:=by
 obtain ⟨i,h1,h2,h3,h4⟩:=info_parts bO_;exact ⟨i,_,72,underlying27,h1,h2,h3,h4,rfl,O_,O_⟩
structure Ck where
 files:List Fl
 frames:List Fr
 zones:List Zn
 groups:List Gr
 lists:List Lr
 clocks:List Int
 ptes:List Pt
abbrev bK (a b c d e f g:Value):Value:= .agg #[a,b,c,d,e,f,g]
structure x_ (w:World) (S:Nat->Prop) (a b c d e f g:Value) (C:Ck):Prop where
 files:LA jI w S a C.files
 frames:LA rO w S b C.frames
 zones:LA pD w S c C.zones
 groups:LA pB w S d C.groups
 lists:LA sJ w S e C.lists
 clocks:LA Y_ w S f C.clocks
 ptes:LA lL w S g C.ptes
theorem x_.kept {w w':World} {c d e:Value} {C:Ck} (h:x_ w S a b c d e f g C) (hk:r_ S w w'):x_ w' S a b c d e f g C:=
 ⟨h.files.kept hk,h.frames.kept hk,h.zones.kept hk,h.groups.kept hk,h.lists.kept hk,h.clocks.kept hk,h.ptes.kept hk⟩
theorem x_.step {c d e:Value} {C:Ck} (h:x_ w S a b c d e f g C) (hb:s_ w w'):x_ w' S a b c d e f g C:=h.kept (r_.of_below hb)
theorem x_.weak {S S':Nat->Prop} {c d e:Value} {C:Ck} (h:x_ w S a b c d e f g C) (hS:∀z,z<w.heap.size->S z->S' z):x_ w S' a b c d e f g C:=
 ⟨h.files.weak hS,h.frames.weak hS,h.zones.weak hS,h.groups.weak hS,h.lists.weak hS,h.clocks.weak hS,h.ptes.weak hS⟩
theorem cD:(prog.info? 30).map (·.size)=some 7:=by kernel_rfl
structure ih_ (C:Ck):Prop where
 files:C.files.length<=100
 frames:C.frames.length<=100
 groups:C.groups.length<=100
 lists:C.lists.length<=100
 clocks:C.clocks.length<=100
structure js_ (w:World) (B:Nat) (S:Nat->Prop) (a b d e f:Value) (C:Ck) (n1 n2 n3 n4:Nat):Prop where
 files:LO jI 64 w B S a C.files
 frames:LO rO 85 w n1 S b C.frames
 groups:LO pB 72 w n2 S d C.groups
 lists:LO sJ 119 w n3 S e C.lists
 clocks:LO Y_ 3 w n4 S f C.clocks
 le1:B<=n1
 le2:n1<=n2
 le3:n2<=n3
 le4:n3<=n4
 lt1:∀z,a.ownBlock=some z->z<n1
 lt2:∀z,b.ownBlock=some z->z<n2
 lt3:∀z,d.ownBlock=some z->z<n3
 lt4:∀z,e.ownBlock=some z->z<n4
def ir_ (C:Ck) (S:Nat->Prop) (c g:Value) (w:World) (en:Ending) (w':World):Prop:=∃a b d e f n1 n2 n3 n4,en = .returned (bK a b c d e f g)/\js_ w' (w) S a b d e f C n1 n2 n3 n4/\s_ w w'
theorem LA.cap {R:RR α k} {v:Value} {L:List α} (h:LA R w S v L):∃A n cap,v = S_ A n cap:=by obtain ⟨A,cap,e,_⟩:=h.form;exact ⟨A,_,cap,e⟩
theorem LO.cap {R:RR α k} {v:Value} {L:List α} (h:LO R e w base S v L):∃A n cap,v = S_ A n cap:=(h.la (S':=iF) (fun _ _ _=>trivial) (fun _ _=>trivial)).cap
end
section
abbrev oF (x:Fr):Obj:= .cells #[.int .i64 x.file,.int .i64 x.page,.string x.pg.data,.int .i64 x.pg.valid,.int .i64 x.pg.dirty,.int .i64 x.tenant,.int .i64 x.holds,.int .i64 x.reading,.int .i64 x.writing] 85 (0,0)
theorem x_.caps {S:Nat→Prop} {c d e:Value} {C:Ck} (h:x_ w S a b c d e f g C):∃A1 m1 c1 A2 m2 c2 A3 m3 c3 A4 m4 c4 A5 m5 c5 A6 m6 c6 A7 m7 c7,a = .slice A1 m1 c1∧b = .slice A2 m2 c2∧c = .slice A3 m3 c3∧d = .slice A4 m4 c4∧e = .slice A5 m5 c5∧f = .slice A6 m6 c6∧g = .slice A7 m7 c7:=by
 obtain ⟨A1,m1,c1,rfl⟩:=h.files.cap
 obtain ⟨A2,m2,c2,rfl⟩:=h.frames.cap
 obtain ⟨A3,m3,c3,rfl⟩:=h.zones.cap
 obtain ⟨A4,m4,c4,rfl⟩:=h.groups.cap
 obtain ⟨A5,m5,c5,rfl⟩:=h.lists.cap
 obtain ⟨A6,m6,c6,rfl⟩:=h.clocks.cap
 obtain ⟨A7,m7,c7,rfl⟩:=h.ptes.cap
 exact ⟨_,_,_,_,_,_,_,_,_,_,_,_,_,_,_,_,_,_,_,_,_,rfl,rfl,rfl,rfl,rfl,rfl,rfl⟩
theorem x_.caps5 {S:Nat→Prop} {c d e:Value} {C:Ck} (h:x_ w S a b c d e f g C):∃A3 m3 c3 A4 m4 c4 A5 m5 c5 A6 m6 c6 A7 m7 c7,c = .slice A3 m3 c3∧d = .slice A4 m4 c4∧e = .slice A5 m5 c5∧f = .slice A6 m6 c6∧g = .slice A7 m7 c7:=by
 obtain ⟨_,_,_,_,_,_,A3,m3,c3,A4,m4,c4,A5,m5,c5,A6,m6,c6,A7,m7,c7,_,_,h3,h4,h5,h6,h7⟩:=h.caps
 exact ⟨_,_,_,_,_,_,_,_,_,_,_,_,_,_,_,h3,h4,h5,h6,h7⟩
abbrev jS (j:Int) (x:Fr):Array Value:=#[.int .i64 j,.int .i64 x.page,.string x.pg.data,.int .i64 x.pg.valid,.int .i64 x.pg.dirty,.int .i64 x.tenant,.int .i64 x.holds,.int .i64 x.reading,.int .i64 x.writing]
theorem zc {b o t ct:Nat} {x:Fl} (h:w'.heap[b]?=w.heap[b]?) (hc:∀(j:Nat) (u:Value),(x.rowT t A ct)[j]?=some u→w.cell? ⟨b,o+j,none⟩=some u):w'.cell? ⟨b,o,none⟩=some (.int .i64 x.dev)∧w'.cell? ⟨b,o+1,none⟩=some (.int .i64 x.slot)∧w'.cell? ⟨b,o+2,none⟩=some (.int .i64 t)∧w'.cell? ⟨b,o+3,none⟩=some (.slice A (j_ t x.c).kids.length ct)∧w'.cell? ⟨b,o+4,none⟩=some (.int .i64 (j_ t x.c).val)∧w'.cell? ⟨b,o+5,none⟩=some (.int .i64 (j_ t x.c).marks)∧w'.cell? ⟨b,o+6,none⟩=some (.int .i64 x.size)∧w'.cell? ⟨b,o+7,none⟩=some (.int .i64 x.blocks)∧w'.cell? ⟨b,o+8,none⟩=some (.int .i64 x.ecnt)∧w'.cell? ⟨b,o+9,none⟩=some (.int .i64 x.eerr)∧w'.cell? ⟨b,o+10,none⟩=some (.int .i64 x.sseq)∧w'.cell? ⟨b,o+11,none⟩=some (.int .i64 x.ssize)∧w'.cell? ⟨b,o+12,none⟩=some (.int .i64 x.sblocks)∧w'.cell? ⟨b,o+13,none⟩=some (.int .i64 x.which)∧w'.cell? ⟨b,o+14,none⟩=some (.int .i64 x.seq):=
 ⟨(g_ h).trans (hc 0 _ rfl),(g_ h).trans (hc 1 _ rfl),(g_ h).trans (hc 2 _ rfl),(g_ h).trans (hc 3 _ rfl),(g_ h).trans (hc 4 _ rfl),(g_ h).trans (hc 5 _ rfl),(g_ h).trans (hc 6 _ rfl),(g_ h).trans (hc 7 _ rfl),(g_ h).trans (hc 8 _ rfl),(g_ h).trans (hc 9 _ rfl),(g_ h).trans (hc 10 _ rfl),(g_ h).trans (hc 11 _ rfl),(g_ h).trans (hc 12 _ rfl),(g_ h).trans (hc 13 _ rfl),(g_ h).trans (hc 14 _ rfl)⟩
theorem scs {b:Nat} {v:Value} {cs:List Value} (h:w.setCell ⟨b,i,none⟩ v=W) (hb:Hid (w.heap[b]?=some (.cells cs.toArray t (0,0)))):Hid (W.heap[b]?=some (.cells (cs.set i v).toArray t (0,0))):=by
 subst h
 have:=W_ (i:=i) hb.out v
 rw [List.setIfInBounds_toArray] at this
 exact Lib.hid this
theorem sI {b:Nat} {v:Value} (h:w.setCell ⟨b,i,none⟩ v=W) (hz:Hid (w.heap[z]?=some o)) (hn:z≠b:=by omega):Hid (W.heap[z]?=some o):=by subst h;exact Lib.hid ((Below.heap_setCell w ⟨b,i,none⟩ v z hn).trans hz.out)
theorem scl {b:Nat} {v:Value} (h:w.setCell ⟨b,i,none⟩ v=W) (hb:Hid (Below w0.heap.size w0 w)) (hn:w0.heap.size≤b:=by omega):Hid (Below w0.heap.size w0 W):=by subst h;exact Lib.hid (Below.setCell hb.out hn v)
theorem srs {b:Nat} {old:Array Value} (h:w.setRow b r=W) (hb:Hid (w.heap[b]?=some (.cells old t (0,0)))):Hid (W.heap[b]?=some (.cells r t (0,0))):=by subst h;exact Lib.hid (setRow_heap _ _ _ _ _ _ hb.out)
theorem srx {b:Nat} (h:w.setRow b r=W) (hz:Hid (w.heap[z]?=some o)) (hn:z≠b:=by omega):Hid (W.heap[z]?=some o):=by subst h;exact Lib.hid ((setRow_other w b z r hn).trans hz.out)
theorem srl {b:Nat} (h:w.setRow b r=W) (hb:Hid (Below w0.heap.size w0 w)) (hn:w0.heap.size≤b:=by omega):Hid (Below w0.heap.size w0 W):=by subst h;exact Lib.hid (d_ hb.out hn r)
theorem yL {b:Nat} {r:List Value} (h:w.setCells b i r=W) (hz:Hid (w.heap[z]?=some o)) (hn:z≠b:=by omega):Hid (W.heap[z]?=some o):=by subst h;exact Lib.hid ((v_ b r i w z hn).trans hz.out)
theorem sml {b:Nat} {r:List Value} (h:w.setCells b i r=W) (hb:Hid (Below w0.heap.size w0 w)) (hn:w0.heap.size≤b:=by omega):Hid (Below w0.heap.size w0 W):=by subst h;exact Lib.hid (aY hb.out hn i r)
end
section
theorem LA.oldB {R:RR α k} {v:Value} {L:List α} (h:LA R w S v L) (hb:Below (w) w w'):LA R w' (fun z=>S z/\z<w.heap.size) v L:=h.old.step hb
theorem LO.keepX {R:RR α k} {v:Value} {L:List α} (h:LO R e w base (fun z=>S z/\z<X) v L) (hX:X<base) (p:Nat) (u:Value):LO R e (w.setCell ⟨X,p,none⟩ u) base (fun z=>S z/\z<X) v L:=
 h.kept (y_ w ⟨X,p,none⟩ u) (.inr ⟨X,rfl,fun h=>by have:=h.2;omega,fun hv=>by have:=(h.own hv).1;omega⟩)
theorem LO.keepR {R:RR α k} {Y:Nat} {v:Value} {L:List α} (h:LO R e w base (fun z=>S z/\z<X) v L) (hX:Y<base) (hY:X<=Y) (cs:Array Value):LO R e (w.setRow Y cs) base (fun z=>S z/\z<X) v L:=
 h.kept (eU w Y cs) (.inr ⟨Y,rfl,fun h=>by have:=h.2;omega,fun hv=>by have:=(h.own hv).1;omega⟩)
theorem fQ {B C D E F G:Option Addr} {a b c d e f g a' b' c' d' e' f' g':Nat}:(#[Value.slice A a a',.slice B b b',.slice C c c',.slice D d d',.slice E e e',.slice F f f',.slice G g g']:Array Value).all (·.oneCell')=true:=by simp [Value.oneCell']
theorem jT (h:fn.results=#[.cell p 30]) {g:Nat} {x0 x1 x2 x3 x4 x5 x6:Value}
  (hp:tmps.getD p undef = P_ g) (hg:w.heap[g]?=some (.cells #[x0,x1,x2,x3,x4,x5,x6] t fr)):(results fn tmps).run prog w = .ok (bK x0 x1 x2 x3 x4 x5 x6) w:=
 results_cell_row h tmps w g t _ fr _ hp hg underlying30 rfl cD
theorem ho_ {C:Ck} {c d e:Value} (h:x_ w S a b c d e f g C) (hl:ih_ C):Calls prog 21 #[bK a b c d e f g] w (ir_ C (fun z=>S z/\z<w.heap.size) c g w):=by
 obtain ⟨A1,m1,c1,A2,m2,c2,A3,m3,c3,A4,m4,c4,A5,m5,c5,A6,m6,c6,A7,m7,c7,rfl,rfl,rfl,rfl,rfl,rfl,rfl⟩:=x_.caps h;have H:=H_ h;have HL:=H_ hl;have a0:=H_ (m_ (i_ w (.cells (D_ A1 m1 c1 A2 m2 c2 A3 m3 c3 A4 m4 c4 A5 m5 c5 A6 m6 c6 A7 m7 c7) 30)) (bM));have ad:=H_ (l_ (w.alloc (.cells (D_ A1 m1 c1 A2 m2 c2 A3 m3 c3 A4 m4 c4 A5 m5 c5 A6 m6 c6 A7 m7 c7) 30)) (bM) (w+1) A_);have P:=H_ (a_ (a_ (aP (w) w) (.cells (D_ A1 m1 c1 A2 m2 c2 A3 m3 c3 A4 m4 c4 A5 m5 c5 A6 m6 c6 A7 m7 c7) 30)) (bM));have z0:w.heap.size+1<((w.alloc (.cells (D_ A1 m1 c1 A2 m2 c2 A3 m3 c3 A4 m4 c4 A5 m5 c5 A6 m6 c6 A7 m7 c7) 30)).alloc (bM)).heap.size:=n_ ad;clear h hl;go_enter func21,ntmps21
 go_upto_region 1 with fail
 generalize (w.alloc _).alloc _=W0 at a0 ad P z0;obtain ⟨x0,V,W,X,Y,Z,x6⟩:=T_ a0.out;have f0:=t_ a0 0
 go_wp2_with (first
  | (at_builtin;(refine cH jI dZ_ rfl _ (.tmp 4) rfl rfl (.slice A1 m1 c1) (fun z=>S z/\z<w.heap.size) C.files rfl (H.files.oldB P) (by have:=HL.files;omega) ?_);intro v1 w1 o a1;obtain ⟨t,F,y,rfl⟩:=o.cap;have i:=cJ a1 a0.out A_;have k:=P.grown a1 P.size (fun b hb=>by cases hb);have l:=a1.size;have ao:=H_ (show (w1.setCell ⟨w,0,none⟩ (.slice t F y)).heap[w.heap.size]?=some (.cells (D_ t F y A2 m2 c2 A3 m3 c3 A4 m4 c4 A5 m5 c5 A6 m6 c6 A7 m7 c7) 30 (0,0)) from W_ i _);have aj:=H_ (aQ (cJ a1 ad.out A_) ⟨w,0,none⟩ (.slice t F y) A_);have af:=H_ (aT k ⟨w,0,none⟩ (.slice t F y) (bE _));have L:=H_ (o.keepX O_ 0 (.slice t F y));have z1:w.heap.size+1<(w1.setCell ⟨w,0,none⟩ (.slice t F y)).heap.size:=n_ aj;have au:=H_ (show (W0).heap.size<=(w1.setCell ⟨w,0,none⟩ (.slice t F y)).heap.size by have j:=l;simp only[World.setCell,Array.size_modify] at j ⊢;exact j);clear x0 V W X Y Z x6;obtain ⟨x0,V,W,X,Y,Z,x6⟩:=T_ i;have f1:=t_ i 0;clear o)
  | (at_builtin;(refine cH rO d0_ rfl _ (.tmp 8) rfl rfl (.slice A2 m2 c2) (fun z=>S z/\z<w.heap.size) C.frames rfl (H.frames.oldB af) (by have:=HL.frames;omega) ?_);intro v2 w2 p R;obtain ⟨u,G,A,rfl⟩:=p.cap;have i:=cJ R ao.out A_;have k:=af.grown R af.size (fun b hb=>by cases hb);have l:=R.size;have ap:=H_ (show (w2.setCell ⟨w,1,none⟩ (.slice u G A)).heap[w.heap.size]?=some (.cells (D_ t F y u G A A3 m3 c3 A4 m4 c4 A5 m5 c5 A6 m6 c6 A7 m7 c7) 30 (0,0)) from W_ i _);have ak:=H_ (aQ (cJ R aj.out A_) ⟨w,1,none⟩ (.slice u G A) A_);have ag:=H_ (aT k ⟨w,1,none⟩ (.slice u G A) (bE _));have M:=H_ (p.keepX O_ 1 (.slice u G A));have a2:=H_ ((L.kept R (.inl rfl)).keepX O_ 1 (.slice u G A));have z2:w.heap.size+1<(w2.setCell ⟨w,1,none⟩ (.slice u G A)).heap.size:=n_ ak;have av:=H_ (show (w1.setCell ⟨w,0,none⟩ (.slice t F y)).heap.size<=(w2.setCell ⟨w,1,none⟩ (.slice u G A)).heap.size by have j:=l;simp only[World.setCell,Array.size_modify] at j ⊢;exact j);clear x0 V W X Y Z x6;obtain ⟨x0,V,W,X,Y,Z,x6⟩:=T_ i;have f2:=t_ i 1;clear p)
  | (at_builtin;(refine cH pB bC_ rfl _ (.tmp 12) rfl rfl (.slice A4 m4 c4) (fun z=>S z/\z<w.heap.size) C.groups rfl (H.groups.oldB ag) (by have:=HL.groups;omega) ?_);intro v3 w3 q E;obtain ⟨v,I,B,rfl⟩:=q.cap;have i:=cJ E ap.out A_;have k:=ag.grown E ag.size (fun b hb=>by cases hb);have l:=E.size;have aq:=H_ (show (w3.setCell ⟨w,3,none⟩ (.slice v I B)).heap[w.heap.size]?=some (.cells (D_ t F y u G A A3 m3 c3 v I B A5 m5 c5 A6 m6 c6 A7 m7 c7) 30 (0,0)) from W_ i _);have al:=H_ (aQ (cJ E ak.out A_) ⟨w,3,none⟩ (.slice v I B) A_);have ah:=H_ (aT k ⟨w,3,none⟩ (.slice v I B) (bE _));have N:=H_ (q.keepX O_ 3 (.slice v I B));have a3:=H_ ((a2.kept E (.inl rfl)).keepX O_ 3 (.slice v I B));have a6:=H_ ((M.kept E (.inl rfl)).keepX O_ 3 (.slice v I B));have z3:w.heap.size+1<(w3.setCell ⟨w,3,none⟩ (.slice v I B)).heap.size:=n_ al;have aw:=H_ (show (w2.setCell ⟨w,1,none⟩ (.slice u G A)).heap.size<=(w3.setCell ⟨w,3,none⟩ (.slice v I B)).heap.size by have j:=l;simp only[World.setCell,Array.size_modify] at j ⊢;exact j);clear x0 V W X Y Z x6;obtain ⟨x0,V,W,X,Y,Z,x6⟩:=T_ i;have f3:=t_ i 3;clear q)
  | (at_builtin;(refine cH sJ g3_ rfl _ (.tmp 16) rfl rfl (.slice A5 m5 c5) (fun z=>S z/\z<w.heap.size) C.lists rfl (H.lists.oldB ah) (by have:=HL.lists;omega) ?_);intro v4 w4 r n;obtain ⟨x,J,D,rfl⟩:=r.cap;have i:=cJ n aq.out A_;have k:=ah.grown n ah.size (fun b hb=>by cases hb);have l:=n.size;have ar:=H_ (show (w4.setCell ⟨w,4,none⟩ (.slice x J D)).heap[w.heap.size]?=some (.cells (D_ t F y u G A A3 m3 c3 v I B x J D A6 m6 c6 A7 m7 c7) 30 (0,0)) from W_ i _);have am:=H_ (aQ (cJ n al.out A_) ⟨w,4,none⟩ (.slice x J D) A_);have ai:=H_ (aT k ⟨w,4,none⟩ (.slice x J D) (bE _));have O:=H_ (r.keepX O_ 4 (.slice x J D));have a4:=H_ ((a3.kept n (.inl rfl)).keepX O_ 4 (.slice x J D));have a7:=H_ ((a6.kept n (.inl rfl)).keepX O_ 4 (.slice x J D));have a9:=H_ ((N.kept n (.inl rfl)).keepX O_ 4 (.slice x J D));have z4:w.heap.size+1<(w4.setCell ⟨w,4,none⟩ (.slice x J D)).heap.size:=n_ am;have ax:=H_ (show (w3.setCell ⟨w,3,none⟩ (.slice v I B)).heap.size<=(w4.setCell ⟨w,4,none⟩ (.slice x J D)).heap.size by have j:=l;simp only[World.setCell,Array.size_modify] at j ⊢;exact j);clear x0 V W X Y Z x6;obtain ⟨x0,V,W,X,Y,Z,x6⟩:=T_ i;have f4:=t_ i 4;clear r)
  | (at_builtin;(refine cH Y_ cV rfl _ (.tmp 20) rfl rfl (.slice A6 m6 c6) (fun z=>S z/\z<w.heap.size) C.clocks rfl (H.clocks.oldB ai) (by have:=HL.clocks;omega) ?_);intro v5 w5 s m;obtain ⟨K,U,Q,rfl⟩:=s.cap;have i:=cJ m ar.out A_;have k:=ai.grown m ai.size (fun b hb=>by cases hb);have l:=m.size;have ay:=H_ (show (w5.setCell ⟨w,5,none⟩ (.slice K U Q)).heap[w.heap.size]?=some (.cells (D_ t F y u G A A3 m3 c3 v I B x J D K U Q A7 m7 c7) 30 (0,0)) from W_ i _);have ae:=H_ (aQ (cJ m am.out A_) ⟨w,5,none⟩ (.slice K U Q) A_);have an:=H_ (aT k ⟨w,5,none⟩ (.slice K U Q) (bE _));have ac:=H_ (s.keepX O_ 5 (.slice K U Q));have a5:=H_ ((a4.kept m (.inl rfl)).keepX O_ 5 (.slice K U Q));have a8:=H_ ((a7.kept m (.inl rfl)).keepX O_ 5 (.slice K U Q));have aa:=H_ ((a9.kept m (.inl rfl)).keepX O_ 5 (.slice K U Q));have ab:=H_ ((O.kept m (.inl rfl)).keepX O_ 5 (.slice K U Q));have z5:w.heap.size+1<(w5.setCell ⟨w,5,none⟩ (.slice K U Q)).heap.size:=n_ ae;have az:=H_ (show (w4.setCell ⟨w,4,none⟩ (.slice x J D)).heap.size<=(w5.setCell ⟨w,5,none⟩ (.slice K U Q)).heap.size by have j:=l;simp only[World.setCell,Array.size_modify] at j ⊢;exact j);clear x0 V W X Y Z x6;obtain ⟨x0,V,W,X,Y,Z,x6⟩:=T_ i;have f5:=t_ i 5;clear s)
  | (refine Q_ rfl (.tmp 2) (.tmp 23) rfl rfl rfl rfl ae rfl ?_))
 show bodyPost prog f21 _ _ _ _
 refine bodyPost_ret (jT rfl rfl (setRow_heap _ _ _ _ _ _ ae)) rfl ?_;have g1:=au.out;have g2:=av.out;have g3:=aw.out;have g4:=ax.out;have g0:=P.size;refine ⟨_,_,_,_,_,(w1.setCell ⟨w,0,none⟩ (.slice t F y)).heap.size,(w2.setCell ⟨w,1,none⟩ (.slice u G A)).heap.size,(w3.setCell ⟨w,3,none⟩ (.slice v I B)).heap.size,(w4.setCell ⟨w,4,none⟩ (.slice x J D)).heap.size,rfl,?_,d_ an.out O_ _⟩;exact ⟨(a5.keepR z0 O_ _).base_le g0,a8.keepR z1 O_ _,aa.keepR z2 O_ _,ab.keepR z3 O_ _,ac.keepR z4 O_ _,O_,g2,g3,g4,fun z hz=>(L.own hz).2,fun z hz=>(M.own hz).2,fun z hz=>(N.own hz).2,fun z hz=>(O.own hz).2⟩
end
end Go.Proofs.YtehfhnbpnaiogaaGreatDoor
