/-
  Lemmas and contracts for the laws of this seat, part 1; several texts joined by a program.
-/
import Derived.Test.YtehfhnbpnaiogaaGreatDoorA00
import Derived.Deep.AppendLies
import Derived.Great.BuildSlice
import Derived.StillTail
namespace Go.Proofs.YtehfhnbpnaiogaaGreatDoor
set_option linter.all false
set_option maxRecDepth 100000
set_option maxHeartbeats 16000000
open Go.RowKit Go.Proofs.Tryz IntKind
variable {C:World->Prop} {G:Nat->Value->World->Prop} {K:Act->World->Prop} {P:Program} {Q:Exit->Act->World->Prop} {R:World->World->Prop} {S:Nat->Prop} {T:Act->Prop} {W w w':World} {Z:Value->World->Prop} {a a0 b:Act} {d:Tmp} {g i id m n:Nat} {l:List Oper} {o:Oper} {ops:Array Oper} {t:TypeId} {v:Value} {x:Obj}
section
section
variable {P:Program} {ops:Array Oper} {C:World->Prop} {R:World->World->Prop} {G:Nat->Value->World->Prop}
def cv_ (ops:Array Oper) (a:Act) (j:Nat):Value:=
 match (ops[j]?).bind (·.dst) with
 | some d=>a.eval (.tmp d)
 | none=>undef
def cN_:Exit->Act->World->Prop:=fun _ _ _=>False
def sp_ (P:Program) (ops:Array Oper) (C:World->Prop) (R:World->World->Prop) (G:Nat->Value->World->Prop) (i:Nat) (o:Oper) (a:Act):Prop:=
 ∀w,C w->(∀j,Region.waitsFor .any ops i j=true->G j (cv_ ops a j) w)->∀K:Act->World->Prop,(∀v w',C w'->R w w'->G i v w'->K (a.put o.dst v) w')->Oper.wp P o a w K cN_
def cH_ (P:Program) (ops:Array Oper) (C:World->Prop) (R:World->World->Prop) (G:Nat->Value->World->Prop) (T:Act->Prop):Nat->List Oper->Act->Prop
 | _,[],a=>T a
 | i,o :: l,a=>sp_ P ops C R G i o a/\∀v,cH_ P ops C R G T (i+1) l (a.put o.dst v)
def bI_ (vals:Nat->Value):Nat->List Oper->Act->Act
 | _,[],a=>a
 | i,o :: l,a=>bI_ vals (i+1) l (a.put o.dst (vals i))
theorem h2_ (vals:Nat->Value):∀(l:List Oper) (s:Nat) (a:Act),cH_ P ops C R G T s l a->∀k o,l[k]?=some o->sp_ P ops C R G (s+k) o (bI_ vals s (l.take k) a)
 | [],_,_,_,k,o,hk=>by simp at hk
 | x :: l,s,a,h,0,o,hk=>by
  obtain rfl:x=o:=by simpa using hk
  simpa [bI_] using h.1
 | x :: l,s,a,h,k+1,o,hk=>by
  have:=h2_ vals l (s+1) _ (h.2 (vals s)) k o (by simpa using hk);rw [show s+(k+1)=s+1+k from by omega]
  simpa [bI_] using this
theorem ht_ (vals:Nat->Value):∀(l:List Oper) (s:Nat) (a:Act),cH_ P ops C R G T s l a->T (bI_ vals s l a)
 | [],_,_,h=>h
 | _ :: l,s,_,h=>ht_ vals l (s+1) _ (h.2 (vals s))
def gG_ (a:Act) (d:Option Tmp) (v:Value):(a.put d v).tmps.size=a.tmps.size:=by cases d <;> simp [Act.put]
def fq_ (a:Act) (d:Option Tmp) (v:Value):(a.put d v).defers=a.defers:=by cases d <;> rfl
def cG_ (h:d<a.tmps.size):(a.put (some d) v).eval (.tmp d)=v:=by simp [Act.put,Act.eval,h]
def ef_ {x:Option Tmp} (h:x≠some d):(a.put x v).eval (.tmp d)=a.eval (.tmp d):=
 Act.eval_put (fun e he hx=>h (by rw [he];injection hx with hx;rw [hx]))
theorem c3_ (vals:Nat->Value):∀(l:List Oper) (s:Nat) (a:Act),(bI_ vals s l a).tmps.size=a.tmps.size
 | [],_,_=>rfl
 | o :: l,s,a=>by rw [bI_,c3_ vals l,gG_]
theorem g3_ (vals:Nat->Value):∀(l:List Oper) (s:Nat) (a:Act),(bI_ vals s l a).defers=a.defers
 | [],_,_=>rfl
 | o :: l,s,a=>by rw [bI_,g3_ vals l,fq_]
theorem cC_ (vals:Nat->Value) (t:Tmp):∀(l:List Oper) (s:Nat) (a:Act),(∀(k:Nat) (o:Oper),l[k]?=some o->o.dst≠some t)->(bI_ vals s l a).eval (.tmp t)=a.eval (.tmp t)
 | [],_,_,_=>rfl
 | o :: l,s,a,h=>by
  rw [bI_,cC_ vals t l (s+1) _ (fun k o' hk=>h (k+1) o' (by simpa using hk)),ef_ (h 0 o A_)]
theorem dO_ (vals:Nat->Value) (t:Tmp):∀(l:List Oper) (s:Nat) (a:Act) (k:Nat) (o:Oper),l[k]?=some o->o.dst=some t->(∀(k':Nat) (o':Oper),k<k'->l[k']?=some o'->o'.dst≠some t)->t<a.tmps.size->
  (bI_ vals s l a).eval (.tmp t)=vals (s+k)
 | [],_,_,k,o,hk,_,_,_=>by simp at hk
 | x :: l,s,a,0,o,hk,hd,hx,ht=>by
  obtain rfl:x=o:=by simpa using hk
  rw [bI_,cC_ vals t l (s+1) _ (fun k' o' b=>hx (k'+1) o' O_ (by simpa using b)),hd,cG_ ht]
  rfl
 | x :: l,s,a,k+1,o,hk,hd,hx,ht=>by
  rw [bI_,dO_ vals t l (s+1) _ k o (by simpa using hk) hd (fun k' o' h1 h2=>hx (k'+1) o' O_ (by simpa using h2)) (by rw [gG_];exact ht)]
  congr 1;omega
def sy_ (ops:Array Oper) (n m:Nat):Bool:=
 (List.range n).all fun i=>match ops[i]? with
  | none=>false
  | some o=>o.guard.isNone&&(match o.dst with | some d=>decide (d<m)&&(List.range i).all (fun j=>match ops[j]? with | some oj=>oj.dst != some d | none=>true) | none=>false) &&
   o.after.all (fun e=>!Region.binds .any e||decide (e.on<i)) &&
   (List.range n).all (fun j=>match (ops[j]?).bind (·.dst) with | some d=>!(o.looksAt ops).contains d||Region.waitsFor .any ops i j | none=>true)
def pT_ (ops:Array Oper) (n m:Nat):Bool:=
 Region.noSelect ops&&decide (n<ops.size)&&Region.sinkB .any ops n&&Region.chainB .any ops n&&Region.seqB .any ops (ops.size - n) n (Array.replicate n true ++ Array.replicate (ops.size - n) false)&&sy_ ops n m
def b9_ (h:sy_ ops n m=true) (hi:i<n):∃o d,ops[i]?=some o/\o.guard=none/\o.dst=some d/\d<m/\
  (∀j oj,j<i->ops[j]?=some oj->oj.dst≠some d)/\(∀e ∈ o.after,Region.binds .any e=true->e.on<i)/\(∀j oj d',j<n->ops[j]?=some oj->oj.dst=some d'->d' ∈ o.looksAt ops->Region.waitsFor .any ops i j=true):=by have h1:=List.all_eq_true.1 h i (List.mem_range.2 hi);cases ho:ops[i]? with|none=>rw [ho] at h1;cases h1|some o=>rw [ho] at h1;simp only[Bool.and_eq_true] at h1;let⟨⟨⟨r,b⟩,l⟩,k⟩:=h1;cases hdst:o.dst with|none=>rw [hdst] at b;cases b|some d=>rw [hdst] at b;simp only[Bool.and_eq_true,decide_eq_true_eq] at b;refine ⟨o,d,rfl,by simpa using r,hdst,b.1,?_,?_,?_⟩;{intro j oj c a;have:=List.all_eq_true.1 b.2 j (List.mem_range.2 c);rw [a] at this;simpa using this};{intro e g q;have:=(Array.all_eq_true_iff_forall_mem.1 l) e g;simpa [q] using this};intro j oj d' c a f p;have:=List.all_eq_true.1 k j (List.mem_range.2 c);rw [a] at this;simp only[Option.bind_some,f] at this;simpa [p] using this
def pa_ (hd:o.dst=some d) (hb:d<b.tmps.size) (he:execOp a.eval o=execOp b.eval o)
  (h:Oper.wp P o b w (fun a' w'=>a'.defers=b.defers/\Z (a'.eval (.tmp d)) w') cN_) (hk:∀v w',Z v w'->K (a.put o.dst v) w'):Oper.wp P o a w K Q:=by unfold Oper.wp at *;rw [he];generalize (execOp b.eval o).run P w=r at *;cases r with|ok n w'=>(cases n <;> simp only[Oper.upon] at h ⊢;(case value u=>exact hk u w' (by have:=h.2;rw [hd,cG_ hb] at this;exact this));(case skip=>exact hk undef w' (by have:=h.2;rw [hd,cG_ hb] at this;exact this));(case defer x=>have h1:=h.1;rw [fq_] at h1;have:=congrArg List.length h1;simp at this);(case enter f args=>refine CM h fun e g he=>?_;cases e with|returned u=>exact hk u g (by have:=he.2;rw [hd,cG_ hb] at this;exact this)|panicked c=>exact he.elim|outgrown=>let⟨_,_,hf⟩:=he;exact hf.elim);case row row args=>exact Rows.mono h fun u g he=>hk u g (by have:=he.2;rw [hd,cG_ hb] at this;exact this))|halt x w'=>cases x <;> simp only[Oper.upon] at h ⊢;exact h.elim
def eV_ (ls:Array Bool):Nat->Nat
 | 0=>0
 | k+1=>eV_ ls k+if ls.getD k false=true then 0 else 1
theorem fy_ (ls:Array Bool):∀n,eV_ ls n=0->∀j,j<n->ls.getD j false=true
 | 0,_,j,hj=>by omega
 | n+1,h,j,hj=>by
  simp only[eV_] at h
  by_cases hn:ls.getD n false=true
  ·by_cases hjn:j=n
   ·subst hjn;exact hn
   ·exact fy_ ls n O_ j O_
  ·rw [if_neg hn] at h;omega
theorem lb_ (ls:Array Bool) (i:Nat):∀n,n<=i->eV_ (ls.setIfInBounds i true) n=eV_ ls n
 | 0,_=>rfl
 | n+1,h=>by simp only[eV_];rw [lb_ ls i n O_,getD_set_ne false O_]
theorem io_ (ls:Array Bool) (i:Nat) (hi:i<ls.size) (hu:ls.getD i false=false):∀n,i<n->eV_ (ls.setIfInBounds i true) n+1=eV_ ls n
 | 0,h=>by omega
 | n+1,h=>by
  simp only[eV_]
  by_cases hin:i=n
  ·subst hin;rw [lb_ ls i i (lR_ _),hu];simp [hi]
  ·have:=io_ ls i hi hu n O_;rw [getD_set_ne false hin];omega
theorem fZ_ (ls:Array Bool):∀n,eV_ ls n≠0->∃i,i<n/\ls.getD i false=false/\∀j,j<i->ls.getD j false=true
 | 0,h=>absurd rfl h
 | n+1,h=>by
  by_cases h0:eV_ ls n=0
  ·refine ⟨n,O_,?_,fy_ ls n h0⟩
   cases hb:ls.getD n false with
   | false=>rfl
   | true=>simp only[eV_,h0,hb] at h;exact absurd rfl h
  ·let⟨i,hi,h1,h2⟩:=fZ_ ls n h0;exact ⟨i,O_,h1,h2⟩
def kV_ {j:Nat} (h:Region.waitsFor .any ops i j=true) (ho:ops[i]?=some o):∃e ∈ o.after,Region.binds .any e=true/\e.on=j:=by let⟨oj,hoj,e,he,hb,hon⟩:=Region.waitsFor_spec h;have:oj=o:=oI_ (hoj.symm.trans ho);subst this;exact ⟨e,he,hb,hon⟩
def m2_ (hs:a.tmps.size=b.tmps.size) (hd:a.defers=b.defers) (h:∀t,t<a.tmps.size->a.eval (.tmp t)=b.eval (.tmp t)):a=b:=by let⟨ta,da⟩:=a;let⟨tb,db⟩:=b;simp only at hs hd;subst hd;congr 1;apply Array.ext hs;intro i h1 h2;have:=h i h1;simpa [Act.eval,h1,h2] using this
def mm_ (hops:ops=l.toArray) (hB:pT_ ops n m=true) (hm:a0.tmps.size=m)
  (hR:∀w w',R w w'->∀j v,G j v w->G j v w') (hW:cH_ P ops C R G T 0 (l.take n) a0)
  (hT:∀a w,T a->C w->(∀j,j<n->G j (cv_ ops a j) w)->wpList P ops Q (l.drop n) a w) :
  ∀(f:Nat) (ls:Array Bool) (a:Act) (w:World),eV_ ls n=f->HeadInv .any ops n ls->a.tmps.size=m->a.defers=a0.defers->C w->(∃vals:Nat->Value,
   (∀j o d,j<n->ls.getD j false=true->ops[j]?=some o->o.dst=some d->a.eval (.tmp d)=vals j/\G j (vals j) w)/\
   (∀t,(∀j o,j<n->ls.getD j false=true->ops[j]?=some o->o.dst≠some t)->a.eval (.tmp t)=a0.eval (.tmp t)))->
   wpAny P .any ops Q (f+(ops.size - n)) ls a w:=by
 simp only[pT_,Bool.and_eq_true,decide_eq_true_eq] at hB;let⟨⟨⟨⟨⟨ak,hn⟩,hs⟩,hc⟩,ae⟩,g⟩:=hB;have A:∀j:Nat,ops[j]?=l[j]?:=fun j=>(by rw [hops];simp);have q:∀(k:Nat) (o:Oper),(l.take n)[k]?=some o->k<n/\ops[k]?=some o:=fun k o B=>(by rw [List.getElem?_take] at B;split at B;{exact ⟨by assumption,by rw [A];exact B⟩};cases B);intro f
 induction f with
  | zero=>intro ls a w hf inv J W hC ⟨vals,hv1,hv2⟩;have y:=fy_ ls n hf;have an:ls=Array.replicate n true ++ Array.replicate (ops.size - n) false:=(by apply Array.ext;{rw [inv.size];simp;omega};intro i h1 h2;by_cases hi:i<n;{have:=y i hi;simp [h1] at this;simp [Array.getElem_append,hi,this]};have hz:=inv.tail i O_ (by rw [<-inv.size];exact h1);simp [h1] at hz;simp [Array.getElem_append,hi,hz]);have ha:a=bI_ vals 0 (l.take n) a0:=(by apply m2_;{rw [c3_,J,hm]};{rw [g3_,W]};intro t ht;by_cases hx:∃(k:Nat) (o:Oper),k<n/\ops[k]?=some o/\o.dst=some t;{let⟨k,o,B,ho,N⟩:=hx;rw [(hv1 k o t B (y k B) ho N).1];have a7:(l.take n)[k]?=some o:=(by rw [List.getElem?_take,if_pos B,<-A];exact ho);rw [dO_ vals t (l.take n) 0 a0 k o a7 N ?_ (by rw [hm,<-J];exact ht),Nat.zero_add];intro k' o' Y a1;let⟨ah,ad⟩:=q k' o' a1;let⟨o2,V,D,_,L,_,g3,_⟩:=b9_ g ah;have:o2=o':=oI_ (D.symm.trans ad);subst this;rw [L];intro s;injection s with s;subst s;exact g3 k o Y ho N};rw [hv2 t (fun j o r _ ho N=>hx ⟨j,o,r,ho,N⟩),cC_ vals t (l.take n) 0 a0 (fun k o B N=>hx ⟨k,o,(q k o B).1,(q k o B).2,N⟩)]);have af:=ht_ vals (l.take n) 0 a0 hW;rw [<-ha] at af;have hw:=hT a w af hC (fun j r=>by let⟨o,d,D,_,L,_⟩:=b9_ g r;have:=hv1 j o d r (y j r) D L;unfold cv_;rw [D];simp only[Option.bind_some,L];rw [this.1];exact this.2);have ai:(l.drop n).length=ops.size - n:=(by rw [hops];simp);have:=wpAny_of_seq (md:= .any) (Q':=Q) (l.drop n) n ls a w (fun j=>by rw [A,List.getElem?_drop]) (by rw [ai,an];exact ae) hw;rw [ai] at this;rw [Nat.zero_add];exact this
  | succ f ih=>
   intro ls a w hf inv J W hC ⟨vals,hv1,hv2⟩;let⟨i0,a8,aa,K⟩:=fZ_ ls n O_;have ac:i0 ∈ Region.ready .any ops ls:=(by let⟨o,d,D,_,_,_,_,g4,_⟩:=b9_ g a8;exact mem_ready.2 ⟨getD_in (by rw [inv.size];omega) aa,o,D,fun e he hb=>K _ (g4 e he hb)⟩);rw [show f+1+(ops.size - n)=(f+(ops.size - n))+1 by omega];refine ⟨fun h=>(by rw [h] at ac;cases ac),fun i X=>?_⟩;have F:i<n:=(by rcases Nat.lt_or_ge i n with h | h;{exact h};exact absurd X (tail_waits hs hc hn inv _ i0 rfl a8 (getD_in (by rw [inv.size];omega) aa) i h));let⟨o,d,D,gg,L,g3,gd,g4,g5⟩:=b9_ g F;let⟨au,o',a1,y⟩:=mem_ready.1 X;obtain rfl:o'=o:=oI_ (a1.symm.trans D);have a7:(l.take n)[i]?=some o':=(by rw [List.getElem?_take,if_pos F,<-A];exact D);have ab:=h2_ vals (l.take n) 0 a0 hW i o' a7;rw [Nat.zero_add] at ab;have I:∀j p M,j<i->ops[j]?=some p->p.dst=some M->(bI_ vals 0 ((l.take n).take i) a0).eval (.tmp M)=vals j:=(by intro j p M r c u;have am:((l.take n).take i)[j]?=some p:=(by rw [List.getElem?_take,if_pos r,List.getElem?_take,if_pos O_,<-A];exact c);let⟨o2,V,k1,_,S,k3,_⟩:=b9_ g (show j<n by omega);obtain rfl:o2=p:=oI_ (k1.symm.trans c);have ao:V=M:=oI_ (S.symm.trans u);subst ao;rw [dO_ vals V _ 0 a0 j o2 am S ?_ (by rw [hm];exact k3),Nat.zero_add];intro k' a6 Y E;have aq:k'<i/\ops[k']?=some a6:=(by rw [List.getElem?_take] at E;split at E;{exact ⟨by assumption,(q k' a6 E).2⟩};cases E);let⟨o3,d3,m1,_,m2,_,m3,_⟩:=b9_ g (show k'<n by omega);obtain rfl:o3=a6:=oI_ (m1.symm.trans aq.2);rw [m2];intro s;injection s with s;subst s;exact m3 j o2 Y c S);have ag:∀t,(∀j p,j<n->ops[j]?=some p->p.dst≠some t)->(bI_ vals 0 ((l.take n).take i) a0).eval (.tmp t)=a0.eval (.tmp t):=fun t ht=>cC_ vals t _ 0 a0 (fun k ok B=>by rw [List.getElem?_take] at B;split at B;{exact ht k ok (q k ok B).1 (q k ok B).2};cases B);have H:∀j,Region.waitsFor .any ops i j=true->j<i/\ls.getD j false=true:=fun j r=>(by let⟨e,he,hb,ap⟩:=kV_ r D;subst ap;exact ⟨g4 e he hb,y e he hb⟩);have ar:execOp a.eval o'=execOp (bI_ vals 0 ((l.take n).take i) a0).eval o':=by refine execOp_congr o' (fun cs b=>Region.noSelect_spec ak i o' cs b D) (fun x hx=>?_);cases x with|tmp t=>have a2:t ∈ o'.looksAt ops:=List.mem_append_left _ (List.mem_filterMap.2 ⟨.tmp t,by simpa using hx,rfl⟩);by_cases aj:∃(j:Nat) (p:Oper),j<n/\ops[j]?=some p/\p.dst=some t;{let⟨j,p,r,c,u⟩:=aj;let⟨z,a4⟩:=H j (g5 j p t r c u a2);rw [(hv1 j p t r a4 c u).1,I j p t z c u]};have a9:∀j p,j<n->ops[j]?=some p->p.dst≠some t:=fun j p r c N=>aj ⟨j,p,r,c,N⟩;rw [hv2 t (fun j p r _ c=>a9 j p r c),ag t a9]|_=>rfl
   have a5:=ab w hC (fun j r=>by
    let⟨z,a4⟩:=H j r;let⟨o2,V,k1,_,S,_⟩:=b9_ g (show j<n by omega);unfold cv_;rw [k1];simp only[Option.bind_some,S];rw [I j o2 V z k1 S];exact (hv1 j o2 V O_ a4 k1 S).2)
    (fun a' w'=>a'.defers=(bI_ vals 0 ((l.take n).take i) a0).defers/\(C w'/\R w w'/\G i (a'.eval (.tmp d)) w'))
    (fun v w' h1 h2 h3=>⟨fq_ _ _ _,h1,h2,by rw [L,cG_ (by rw [c3_,hm];exact g3)];exact h3⟩)
   have a3:Region.wanted o' (yielded ops a.tmps)=true:=(by simp [Region.wanted,gg]);unfold wpOp;rw [D];simp only[a3,if_true];refine .inl (pa_ (Z:=fun v w'=>C w'/\R w w'/\G i v w') L (by rw [c3_,hm];exact g3) ar a5 fun v w' ⟨hC',hRw,hGi⟩=>?_);have U:i<ls.size:=(by rw [inv.size];omega);refine ih (ls.setIfInBounds i true) (a.put o'.dst v) w' (by have:=io_ ls i U (getD_both au) n F;omega) (inv.set X F) (by rw [gG_,J]) (by rw [fq_,W]) hC' ⟨fun j=>if j=i then v else vals j,?_,?_⟩;{intro j p M r O c u;by_cases z:j=i;{subst z;obtain rfl:p=o':=oI_ (c.symm.trans D);have:M=d:=oI_ (u.symm.trans L);subst this;show (a.put p.dst v).eval (.tmp M)=(if j=j then v else vals j)/\G j (if j=j then v else vals j) w';rw [if_pos rfl,u,cG_ (by rw [J];exact g3)];exact ⟨rfl,hGi⟩};rw [getD_set_ne false (Ne.symm z)] at O;have h1:=hv1 j p M r O c u;show (a.put o'.dst v).eval (.tmp M)=(if j=i then v else vals j)/\G j (if j=i then v else vals j) w';rw [if_neg z];refine ⟨?_,hR _ _ hRw _ _ h1.2⟩;rw [ef_ ?_];{exact h1.1};rw [L];intro s;injection s with s;subst s;rcases Nat.lt_or_gt_of_ne z with hlt | hgt;{exact gd j p hlt c u};let⟨o2,V,k1,_,S,_,k3,_⟩:=b9_ g r;obtain rfl:o2=p:=oI_ (k1.symm.trans c);have:V=d:=oI_ (S.symm.trans u);subst this;exact k3 i o' hgt D L};intro t ht;have al:o'.dst≠some t:=ht i o' F (by simp [U]) D;rw [ef_ al];refine hv2 t (fun j p r O c=>ht j p r (getD_set_true O) c)
def iK_ (n m:Nat) (G:Nat->Value->World->Prop)
  (hm:P.follows .mixedOrders=true) (hB:pT_ l.toArray n m=true) (hs:a.tmps.size=m) (hC:C {w with drawn:=w.drawn+1}) (hR:∀w w',R w w'->∀j v,G j v w->G j v w')
  (h:cH_ P l.toArray C R G (fun a'=>∀w',C w'->(∀j,j<n->G j (cv_ l.toArray a' j) w')->wpList P l.toArray Q (l.drop n) a' w') 0 (l.take n) a):(Code.region id l.toArray true).wp P Q a w:=by
 refine wp_region_any hm ?_;have g:=hB;simp only[pT_,Bool.and_eq_true,decide_eq_true_eq] at g;have s:n<l.toArray.size:=g.1.1.1.1.2;have b:∀k,eV_ (Array.replicate l.toArray.size false) k=k:=by intro k;induction k with|zero=>rfl|succ k ih=>simp only[eV_,ih,getD_replicate_false];simp
 have f:HeadInv .any l.toArray n (Array.replicate l.toArray.size false):=
  ⟨A_,fun j x _ c=>(by rw [getD_replicate_false] at c;cases c),fun t _ q=>getD_in (by simpa using q) (getD_replicate_false _ _)⟩
 have:=mm_ (P:=P) (ops:=l.toArray) (C:=C) (R:=R) (G:=G) (n:=n) (m:=m) (Q:=Q) (l:=l) (a0:=a) rfl hB hs hR h (fun a' w' p i r=>p w' i r) n (Array.replicate l.toArray.size false) a {w with drawn:=w.drawn+1} (b n) f hs rfl hC
  ⟨fun _=>undef,fun j o d u c=>(by rw [getD_replicate_false] at c;cases c),fun t _=>rfl⟩
 rw [show n+(l.toArray.size - n)=l.toArray.size by omega] at this;exact this
def g_
  (h1:∀w,C w->(∀j,Region.waitsFor .any ops i j=true->G j (cv_ ops a j) w)->∀K:Act->World->Prop,(∀v w',C w'->R w w'->G i v w'->K (a.put o.dst v) w')->Oper.wp P o a w K cN_)
  (h2:∀v,cH_ P ops C R G T (i+1) l (a.put o.dst v)):cH_ P ops C R G T i (o :: l) a:=⟨h1,h2⟩
def aa_ (h:T a):cH_ P ops C R G T i [] a:=h
end
end
section
structure SP where
 p:Value->World->Prop
 st:∀v w w',s_ w w'->p v w->p v w'
def SP.eq (x:Value):SP:=⟨fun v _=>v=x,fun _ _ _ _ h=>h⟩
def SP.any:SP:=⟨fun _ _=>True,fun _ _ _ _ h=>h⟩
def GS (ls:List SP) (j:Nat) (v:Value) (w:World):Prop:=(ls.getD j SP.any).p v w
def GS.keep {ls:List SP} (hr:s_ w w') (j:Nat) (v:Value) (h:GS ls j v w):GS ls j v w':=(ls.getD j SP.any).st v w w' hr h
def T_ (n m:Nat) (ls:List SP)
  (hm:P.follows .mixedOrders=true) (hB:pT_ l.toArray n m=true) (hs:a.tmps.size=m)
  (h:cH_ P l.toArray (fun x=>s_ W x) (fun x y=>s_ x y) (GS ls) (fun a'=>∀w',s_ W w'->(∀j,j<n->GS ls j (cv_ l.toArray a' j) w')->wpList P l.toArray Q (l.drop n) a' w') 0 (l.take n) a):(Code.region id l.toArray true).wp P Q a W:=
 iK_ n m (GS ls) hm hB hs (B_.drew) (fun x y hr=>GS.keep hr) h
end
section
def k_ (h:w.heap[g]?=some x) (hb:s_ w w'):w'.heap[g]?=some x:=(hb.block _ (Array.getElem?_eq_some_iff.1 h).1).trans h
def n_ (h:w.heap[g]?=some x) (o:Obj):(w.alloc o).heap[g]?=some x:=k_ h (B_.alloc (lR_ _) _)
def l_ (h:w.heap[g]?=some x):g<w:=(Array.getElem?_eq_some_iff.1 h).1
def i_ (w:World) (o:Obj):(w.alloc o).heap[w.heap.size]?=some o:=heap_alloc_new w o
def m_ (w:World) (o:Obj) (n:Nat) (h:w.heap.size=n):(w.alloc o).heap[n]?=some o:=by subst h;exact heap_alloc_new w o
def aw_ (h:w.heap[g]?=some x) (p:Addr) (v:Value) (hn:g≠p.block):(w.setCell p v).heap[g]?=some x:=(hS_ w p v g hn).trans h
def Y_ {cs:Array Value} {fr:Nat × Nat} (h:w.heap[g]?=some (.cells cs t fr)) (v:Value):(w.setCell ⟨g,i,none⟩ v).heap[g]?=some (.cells (cs.setIfInBounds i v) t fr):=by simp [World.setCell,Array.getElem?_modify,h]
def bD_ {B sz:Nat} {xs:List Value} (h:w.ownsRow B t sz v n xs) (hb:s_ w w'):w'.ownsRow B t sz v n xs:=
 h.kept (row:=none) ⟨hb.os,hb.tape,hb.output,hb.size,fun k hk _=>hb.block k hk⟩ (by cases h:v.ownBlock with | none=>exact .inl rfl | some b=>exact .inr A_)
def SP.blk (c:Nat) (cs:Array Value) (t:TypeId):SP:=⟨fun v w=>∃g,v = S_ (some ⟨g,0,none⟩) c c/\w.heap[g]?=some (.cells cs t (0,0)),fun v w w' hb ⟨g,h1,h2⟩=>⟨g,h1,k_ h2 hb⟩⟩
def w64 {x:Int} (h:-1000000<=x/\x<=1000000):i64.wrap x=x:=IntWalk.i64_in _ O_
def k7_:(prog.info? 3).map (fun i=>(i.zero,i.size,i.bytes))=some (some (I_ 0),1,8):=by kernel_rfl
end
section
section
variable {P:Program} {ops:Array Oper} {s:Nat} {pl:Nat->Bool}
def sF_ (ops:Array Oper) (m s:Nat) (pl:Nat->Bool):Bool:=
 (List.range ops.size).all fun i=>match ops[i]? with
  | none=>false
  | some o=>o.guard.isNone&&(match o.dst with | some d=>decide (d<m)&&(List.range i).all (fun j=>match ops[j]? with | some oj=>oj.dst != some d | none=>true) | none=>true) &&
   o.after.all (fun e=>!Region.binds .any e||decide (e.on<i)) &&
   (List.range ops.size).all (fun j=>match (ops[j]?).bind (·.dst) with | some d=>!(o.looksAt ops).contains d||Region.waitsFor .any ops i j | none=>true) &&
   (!pl i||(List.range ops.size).any (fun j=>decide (i<j)&&Region.waitsFor .any ops j i&&(j == s||pl j)))
def fk_ (ops:Array Oper) (m s:Nat) (pl:Nat->Bool):Bool:=Region.noSelect ops&&decide (s<ops.size)&&sF_ ops m s pl
def bU_ (h:sF_ ops m s pl=true) (hi:i<ops.size):∃o,ops[i]?=some o/\o.guard=none/\(∀d,o.dst=some d->d<m/\
  (∀j oj,j<i->ops[j]?=some oj->oj.dst≠some d))/\(∀e ∈ o.after,Region.binds .any e=true->e.on<i)/\(∀j oj d',j<ops.size->ops[j]?=some oj->oj.dst=some d'->d' ∈ o.looksAt ops->Region.waitsFor .any ops i j=true)/\
  (pl i=true->∃j,i<j/\j<ops.size/\Region.waitsFor .any ops j i=true/\(j=s\/pl j=true)):=by have h1:=List.all_eq_true.1 h i (List.mem_range.2 hi);cases ho:ops[i]? with|none=>rw [ho] at h1;cases h1|some o=>rw [ho] at h1;simp only[Bool.and_eq_true] at h1;let⟨⟨⟨⟨u,g⟩,r⟩,q⟩,a⟩:=h1;refine ⟨o,rfl,by simpa using u,fun d f=>?_,?_,?_,?_⟩;{rw [f] at g;simp only[Bool.and_eq_true,decide_eq_true_eq] at g;refine ⟨g.1,fun j oj c b=>?_⟩;have:=List.all_eq_true.1 g.2 j (List.mem_range.2 c);rw [b] at this;simpa using this};{intro e n p;have:=(Array.all_eq_true_iff_forall_mem.1 r) e n;simpa [p] using this};{intro j oj d' c b k t;have:=List.all_eq_true.1 q j (List.mem_range.2 c);rw [b] at this;simp only[Option.bind_some,k] at this;simpa [t] using this};intro l;rw [l] at a;simp only[Bool.not_true,Bool.false_or] at a;let⟨j,c,a⟩:=List.any_eq_true.1 a;simp only[Bool.and_eq_true,decide_eq_true_eq,Bool.or_eq_true,beq_iff_eq] at a;exact ⟨j,a.1.1,List.mem_range.1 c,a.1.2,a.2⟩
def fm_ {d:Option Tmp} {u:Value} (hb:∀t,d=some t->t<b.tmps.size) (h:b.put d u=b.put d v):a.put d u=a.put d v:=by cases d with|none=>rfl|some t=>have ht:=hb t rfl;have:=congrArg (fun x:Act=>x.eval (.tmp t)) h;simp only[cG_ ht] at this;rw [this]
def nS_ (hb:∀t,o.dst=some t->t<b.tmps.size) (he:execOp a.eval o=execOp b.eval o)
  (h:Oper.wp P o b w (fun a' w'=>∃v,a'=b.put o.dst v/\Z v w') cN_) (hk:∀v w',Z v w'->K (a.put o.dst v) w'):Oper.wp P o a w K Q:=by unfold Oper.wp at *;rw [he];generalize (execOp b.eval o).run P w=r at *;cases r with|ok n w'=>(cases n <;> simp only[Oper.upon] at h ⊢;(case value u=>let⟨v,h1,h2⟩:=h;rw [fm_ hb h1];exact hk v w' h2);(case skip=>let⟨v,h1,h2⟩:=h;rw [fm_ hb h1];exact hk v w' h2);(case defer x=>let⟨v,h1,_⟩:=h;have:=congrArg (fun x:Act=>x.defers.length) h1;simp only[fq_] at this;simp at this);(case enter f args=>refine CM h fun e d he=>?_;cases e with|returned u=>let⟨v,h1,h2⟩:=he;show K (a.put o.dst u) d;rw [fm_ hb h1];exact hk v d h2|panicked c=>exact he.elim|outgrown=>let⟨_,_,hf⟩:=he;exact hf.elim);case row row args=>exact Rows.mono h fun u d ⟨v,h1,h2⟩=>by rw [fm_ hb h1];exact hk v d h2)|halt x w'=>cases x <;> simp only[Oper.upon] at h ⊢;exact h.elim
end
section
variable {Γ:Type} {P:Program} {ops:Array Oper} {C:Γ->(Nat->Bool)->World->Prop} {G:Γ->Nat->Value->World->Prop} {s:Nat} {pl:Nat->Bool}
def ac_ (d:Nat->Bool) (i:Nat) (j:Nat):Bool:=d j||j == i
def qc_ (P:Program) (ops:Array Oper) (C:Γ->(Nat->Bool)->World->Prop) (G:Γ->Nat->Value->World->Prop) (s:Nat) (pl:Nat->Bool) (i:Nat) (o:Oper) (a:Act):Prop:=
 ∀g d w,d i=false->(d s=true->pl i=false)->C g d w->(∀j,Region.waitsFor .any ops i j=true->G g j (cv_ ops a j) w)->∀K:Act->World->Prop,(∀g' v w',C g' (ac_ d i) w'->(∀j u,G g j u w->G g' j u w')->G g' i v w'->K (a.put o.dst v) w')->Oper.wp P o a w K cN_
def bG_ (P:Program) (ops:Array Oper) (C:Γ->(Nat->Bool)->World->Prop) (G:Γ->Nat->Value->World->Prop) (s:Nat) (pl:Nat->Bool) (T:Act->Prop):Nat->List Oper->Act->Prop
 | _,[],a=>T a
 | i,o :: l,a=>qc_ P ops C G s pl i o a/\∀v,bG_ P ops C G s pl T (i+1) l (a.put o.dst v)
theorem hv_ (vals:Nat->Value):∀(l:List Oper) (s0:Nat) (a:Act),bG_ P ops C G s pl T s0 l a->∀k o,l[k]?=some o->qc_ P ops C G s pl (s0+k) o (bI_ vals s0 (l.take k) a)
 | [],_,_,_,k,o,hk=>by simp at hk
 | x :: l,s0,a,h,0,o,hk=>by
  obtain rfl:x=o:=by simpa using hk
  simpa [bI_] using h.1
 | x :: l,s0,a,h,k+1,o,hk=>by
  have:=hv_ vals l (s0+1) _ (h.2 (vals s0)) k o (by simpa using hk);rw [show s0+(k+1)=s0+1+k from by omega]
  simpa [bI_] using this
theorem gC_ (vals:Nat->Value):∀(l:List Oper) (s0:Nat) (a:Act),bG_ P ops C G s pl T s0 l a->T (bI_ vals s0 l a)
 | [],_,_,h=>h
 | _ :: l,s0,_,h=>gC_ vals l (s0+1) _ (h.2 (vals s0))
def lE_ (hops:ops=l.toArray) (hB:fk_ ops m s pl=true) (hm:a0.tmps.size=m)
  (hs0:∀(i:Nat) (o:Oper),ops[i]?=some o->o.dst=none->∀g v w,G g i v w->G g i undef w) (hW:bG_ P ops C G s pl T 0 l a0)
  (hT:∀g d a w,T a->(∀j,j<ops.size->d j=true)->C g d w->(∀j,j<ops.size->G g j (cv_ ops a j) w)->Q .normal a w) :
  ∀(f:Nat) (ls:Array Bool) (a:Act) (w:World),eV_ ls ops.size=f->HeadInv .any ops ops.size ls->a.tmps.size=m->a.defers=a0.defers->(∃(γ:Γ) (vals:Nat->Value),C γ (fun j=>ls.getD j false) w/\
   (∀j o,ls.getD j false=true->ops[j]?=some o->(∀d,o.dst=some d->a.eval (.tmp d)=vals j)/\(o.dst=none->vals j=undef)/\G γ j (vals j) w)/\
   (∀t,(∀j o,ls.getD j false=true->ops[j]?=some o->o.dst≠some t)->a.eval (.tmp t)=a0.eval (.tmp t)))->
   wpAny P .any ops Q f ls a w:=by
 simp only[fk_,Bool.and_eq_true,decide_eq_true_eq] at hB;let⟨⟨am,ax⟩,p⟩:=hB;have z:∀j:Nat,ops[j]?=l[j]?:=fun j=>(by rw [hops];simp);have B:∀(k:Nat) (o:Oper),ops[k]?=some o->k<ops.size:=fun k o I=>(Array.getElem?_eq_some_iff.1 I).1;intro f
 induction f with
  | zero=>intro ls a w hf inv O a3 ⟨γ,vals,hC,hv1,hv2⟩;have A:=fy_ ls _ hf;have ha:a=bI_ vals 0 l a0:=(by apply m2_;{rw [c3_,O,hm]};{rw [g3_,a3]};intro t ht;by_cases hx:∃(k:Nat) (o:Oper),k<ops.size/\ops[k]?=some o/\o.dst=some t;{let⟨k,o,I,ho,y⟩:=hx;rw [(hv1 k o (A k I) ho).1 t y];rw [dO_ vals t l 0 a0 k o (by rw [<-z];exact ho) y ?_ (by rw [hm,<-O];exact ht),Nat.zero_add];intro k' o' a4 L;rw [<-z] at L;let⟨o2,E,_,g2,_⟩:=bU_ p (B _ _ L);have:o2=o':=oI_ (E.symm.trans L);subst this;intro J;exact (g2 t J).2 k o a4 ho y};rw [hv2 t (fun j o _ ho y=>hx ⟨j,o,B _ _ ho,ho,y⟩),cC_ vals t l 0 a0 (fun k o I y=>hx ⟨k,o,B k o (by rw [z];exact I),by rw [z];exact I,y⟩)]);have ah:=gC_ vals l 0 a0 hW;rw [<-ha] at ah;refine ⟨?_,hT γ _ a w ah A hC (fun j U=>by let⟨o,E,_⟩:=bU_ p U;let⟨X,k2,k3⟩:=hv1 j o (A j U) E;unfold cv_;rw [E];simp only[Option.bind_some];cases y:o.dst with|none=>rw [k2 y] at k3;exact k3|some d=>simp only;rw [X d y];exact k3)⟩;cases hr:Region.ready .any ops ls with|nil=>rfl|cons i r=>have hi:i ∈ Region.ready .any ops ls:=(by rw [hr];exact List.mem_cons_self ..);let⟨S,o,ho,_⟩:=mem_ready.1 hi;have:=A i (B _ _ ho);rw [getD_both S] at this;cases this
  | succ f ih=>
   intro ls a w hf inv O a3 ⟨γ,vals,hC,hv1,hv2⟩;let⟨i0,ao,aq,R⟩:=fZ_ ls ops.size O_;have ae:i0 ∈ Region.ready .any ops ls:=(by let⟨o,E,_,_,g4,_⟩:=bU_ p ao;exact mem_ready.2 ⟨getD_in (by rw [inv.size];omega) aq,o,E,fun e he W=>R _ (g4 e he W)⟩);refine ⟨fun h=>(by rw [h] at ae;cases ae),fun i ad=>?_⟩;let⟨S,o,E,A⟩:=mem_ready.1 ad;have V:i<ops.size:=B _ _ E;let⟨o',L,gg,g2,g4,g5,g6⟩:=bU_ p V;obtain rfl:o'=o:=oI_ (L.symm.trans E);have ac:=hv_ vals l 0 a0 hW i o' (by rw [<-z];exact E);rw [Nat.zero_add] at ac;have af:∀(k:Nat) (ok:Oper),(l.take i)[k]?=some ok->k<i/\ops[k]?=some ok:=fun k ok I=>(by rw [List.getElem?_take] at I;split at I;{exact ⟨by assumption,by rw [z];exact I⟩};cases I);have M:∀j n dj,j<i->ops[j]?=some n->n.dst=some dj->(bI_ vals 0 (l.take i) a0).eval (.tmp dj)=vals j:=(by intro j n dj U c F;have ar:(l.take i)[j]?=some n:=(by rw [List.getElem?_take,if_pos U,<-z];exact c);let⟨o2,X,_,k2,_⟩:=bU_ p (B _ _ c);obtain rfl:o2=n:=oI_ (X.symm.trans c);rw [dO_ vals dj _ 0 a0 j o2 ar F ?_ (by rw [hm];exact (k2 dj F).1),Nat.zero_add];intro k' aj a4 an;let⟨_,ak⟩:=af k' aj an;let⟨o3,m1,_,m2,_⟩:=bU_ p (B _ _ ak);obtain rfl:o3=aj:=oI_ (m1.symm.trans ak);intro J;exact (m2 dj J).2 j o2 a4 c F);have ai:∀t,(∀(j:Nat) (n:Oper),ops[j]?=some n->n.dst≠some t)->(bI_ vals 0 (l.take i) a0).eval (.tmp t)=a0.eval (.tmp t):=fun t ht=>cC_ vals t _ 0 a0 (fun k ok I=>ht k ok (af k ok I).2);have K:∀j,Region.waitsFor .any ops i j=true->j<i/\ls.getD j false=true:=fun j U=>(by let⟨e,he,W,a9⟩:=kV_ U E;subst a9;exact ⟨g4 e he W,A e he W⟩);have au:execOp a.eval o'=execOp (bI_ vals 0 (l.take i) a0).eval o':=(by refine execOp_congr o' (fun cs b=>Region.noSelect_spec am i o' cs b E) (fun x hx=>?_);cases x with|tmp t=>have a5:t ∈ o'.looksAt ops:=List.mem_append_left _ (List.mem_filterMap.2 ⟨.tmp t,by simpa using hx,rfl⟩);by_cases al:∃(j:Nat) (n:Oper),ops[j]?=some n/\n.dst=some t;{let⟨j,n,c,F⟩:=al;let⟨D,a7⟩:=K j (g5 j n t (B _ _ c) c F a5);rw [(hv1 j n a7 c).1 t F,M j n t D c F]};have ab:∀(j:Nat) (n:Oper),ops[j]?=some n->n.dst≠some t:=fun j n c y=>al ⟨j,n,c,y⟩;rw [hv2 t (fun j n _ c=>ab j n c),ai t ab]|_=>rfl);have a1:∀(k j:Nat),ops.size - j=k->j<ops.size->pl j=true->ls.getD j false=false->ls.getD s false=false:=(by intro k;induction k using Nat.strongRecOn with|_ k ihk=>intro j I U hp hu;let⟨_,_,_,_,_,_,q⟩:=bU_ p U;let⟨j',ay,aw,hw,aa⟩:=q hp;let⟨n,c,e,he,W,a9⟩:=Region.waitsFor_spec hw;have ag:ls.getD j' false=false:=(by cases hl:ls.getD j' false with|false=>rfl|true=>have:=inv.closed j' n c hl e he W;rw [a9,hu] at this;cases this);rcases aa with rfl | aa;{exact ag};exact ihk (ops.size - j') O_ j' rfl aw aa ag);have N:i<ls.size:=by rw [inv.size];omega
   have a8:=ac γ (fun j=>ls.getD j false) w (getD_both S) (fun W=>by
     cases hp:pl i with
     | false=>rfl
     | true=>have:=a1 _ i rfl V hp (getD_both S);rw [this] at W;cases W) hC (fun j U=>by
    let⟨D,a7⟩:=K j U;let⟨o2,X,_⟩:=bU_ p (show j<ops.size by omega);let⟨q1,q2,q3⟩:=hv1 j o2 a7 X;unfold cv_;rw [X];simp only[Option.bind_some]
    cases y:o2.dst with
    | none=>rw [q2 y] at q3;exact q3
    | some d=>simp only;rw [M j o2 d D X y];exact q3)
    (fun a' w'=>∃v,a'=(bI_ vals 0 (l.take i) a0).put o'.dst v/\∃H,C H (ac_ (fun j=>ls.getD j false) i) w'/\(∀j u,G γ j u w->G H j u w')/\G H i v w')
    (fun H v w' h1 h2 h3=>⟨v,rfl,H,h1,h2,h3⟩)
   have a6:Region.wanted o' (yielded ops a.tmps)=true:=(by simp [Region.wanted,gg]);unfold wpOp;rw [E];simp only[a6,if_true];refine .inl (nS_ (Z:=fun v w'=>∃H,C H (ac_ (fun j=>ls.getD j false) i) w'/\(∀j u,G γ j u w->G H j u w')/\G H i v w') (fun t ht=>by rw [c3_,hm];exact (g2 t ht).1) au a8 fun v w' ⟨H,hC',hRw,hGi⟩=>?_);have av:(fun j=>(ls.setIfInBounds i true).getD j false)=ac_ (fun j=>ls.getD j false) i:=(by funext j;unfold ac_;by_cases a2:i=j;{subst a2;simp [N]};rw [getD_set_ne false a2];simp [Ne.symm a2]);refine ih (ls.setIfInBounds i true) (a.put o'.dst v) w' (by have:=io_ ls i N (getD_both S) ops.size V;omega) (inv.set ad V) (by rw [gG_,O]) (by rw [fq_,a3]) ⟨H,fun j=>if j=i then (if o'.dst=none then undef else v) else vals j,by rw [av];exact hC',?_,?_⟩;{intro j n Y c;by_cases D:j=i;{subst D;obtain rfl:n=o':=oI_ (c.symm.trans E);show (∀d,n.dst=some d->(a.put n.dst v).eval (.tmp d)=(if j=j then (if n.dst=none then undef else v) else vals j))/\(n.dst=none->(if j=j then (if n.dst=none then undef else v) else vals j)=undef)/\G H j (if j=j then (if n.dst=none then undef else v) else vals j) w';rw [if_pos rfl];refine ⟨fun d y=>?_,fun y=>by rw [if_pos y],?_⟩;{rw [if_neg (by rw [y];simp),y,cG_ (by rw [O];exact (g2 d y).1)]};cases y:n.dst with|none=>rw [if_pos rfl];exact hs0 j n E y H v w' hGi|some d=>rw [if_neg A_];exact hGi};rw [getD_set_ne false (Ne.symm D)] at Y;let⟨q1,q2,q3⟩:=hv1 j n Y c;show (∀d,n.dst=some d->(a.put o'.dst v).eval (.tmp d)=(if j=i then (if o'.dst=none then undef else v) else vals j))/\(n.dst=none->(if j=i then (if o'.dst=none then undef else v) else vals j)=undef)/\G H j (if j=i then (if o'.dst=none then undef else v) else vals j) w';rw [if_neg D];refine ⟨fun d y=>?_,q2,hRw _ _ q3⟩;rw [ef_ ?_];{exact q1 d y};intro J;rcases Nat.lt_or_gt_of_ne D with hlt' | hgt;{exact (g2 d J).2 j n hlt' c y};let⟨o2,X,_,k2,_⟩:=bU_ p (B _ _ c);obtain rfl:o2=n:=oI_ (X.symm.trans c);exact (k2 d y).2 i o' hgt E J};intro t ht;have ap:o'.dst≠some t:=ht i o' (by simp [N]) E;rw [ef_ ap];exact hv2 t (fun j n Y c=>ht j n (getD_set_true Y) c)
def au_ (m s:Nat) (pl:Nat->Bool) (C:Γ->(Nat->Bool)->World->Prop) (G:Γ->Nat->Value->World->Prop) (γ:Γ)
  (hm:P.follows .mixedOrders=true) (hB:fk_ l.toArray m s pl=true) (hs:a.tmps.size=m) (hC:C γ (fun _=>false) {w with drawn:=w.drawn+1}) (hs0:∀(i:Nat) (o:Oper),l.toArray[i]?=some o->o.dst=none->∀g v w,G g i v w->G g i undef w)
  (h:bG_ P l.toArray C G s pl (fun a'=>∀g d w',(∀j,j<l.toArray.size->d j=true)->C g d w'->(∀j,j<l.toArray.size->G g j (cv_ l.toArray a' j) w')->wpList P l.toArray Q [] a' w') 0 l a):(Code.region id l.toArray true).wp P Q a w:=by
 refine wp_region_any hm ?_;have p:=hB;simp only[fk_,Bool.and_eq_true,decide_eq_true_eq] at p;have b:∀k,eV_ (Array.replicate l.toArray.size false) k=k:=by intro k;induction k with|zero=>rfl|succ k ih=>simp only[eV_,ih,getD_replicate_false];simp
 have f:HeadInv .any l.toArray l.toArray.size (Array.replicate l.toArray.size false):=
  ⟨A_,fun j y _ c=>(by rw [getD_replicate_false] at c;cases c),fun t _ u=>getD_in (by simpa using u) (getD_replicate_false _ _)⟩
 exact lE_ (P:=P) (ops:=l.toArray) (C:=C) (G:=G) (m:=m) (Q:=Q) (l:=l) (a0:=a) rfl hB hs hs0 h (fun g d a' w' r q n x=>r g d w' q n x) l.toArray.size (Array.replicate l.toArray.size false) a {w with drawn:=w.drawn+1} (b _) f hs rfl
  ⟨γ,fun _=>undef,by simpa only [getD_replicate_false] using hC,fun j o c=>(by rw [getD_replicate_false] at c;cases c),fun t _=>rfl⟩
def c_
  (h1:∀g d w,d i=false->(d s=true->pl i=false)->C g d w->(∀j,Region.waitsFor .any ops i j=true->G g j (cv_ ops a j) w)->∀K:Act->World->Prop,(∀g' v w',C g' (ac_ d i) w'->(∀j u,G g j u w->G g' j u w')->G g' i v w'->K (a.put o.dst v) w')->Oper.wp P o a w K cN_)
  (h2:∀v,bG_ P ops C G s pl T (i+1) l (a.put o.dst v)):bG_ P ops C G s pl T i (o :: l) a:=⟨h1,h2⟩
def aS_ (h:T a):bG_ P ops C G s pl T i [] a:=h
end
section
variable {P:Program} {ops:Array Oper} {C:Bool->World->Prop} {R:World->World->Prop} {G:Nat->Value->World->Prop} {s:Nat} {pl:Nat->Bool}
def sQ_ (P:Program) (ops:Array Oper) (C:Bool->World->Prop) (R:World->World->Prop) (G:Nat->Value->World->Prop) (s:Nat) (pl:Nat->Bool) (i:Nat) (o:Oper) (a:Act):Prop:=
 ∀b w,(b=true->i≠s/\pl i=false)->C b w->(∀j,Region.waitsFor .any ops i j=true->G j (cv_ ops a j) w)->∀K:Act->World->Prop,(∀v w',C (b||i == s) w'->R w w'->G i v w'->K (a.put o.dst v) w')->Oper.wp P o a w K cN_
def bt_ (P:Program) (ops:Array Oper) (C:Bool->World->Prop) (R:World->World->Prop) (G:Nat->Value->World->Prop) (s:Nat) (pl:Nat->Bool) (T:Act->Prop):Nat->List Oper->Act->Prop
 | _,[],a=>T a
 | i,o :: l,a=>sQ_ P ops C R G s pl i o a/\∀v,bt_ P ops C R G s pl T (i+1) l (a.put o.dst v)
def jp_ (a b:Nat):(a == b)=(b == a):=by by_cases e:a=b;{rw [e]};rw [beq_eq_false_iff_ne.2 e,beq_eq_false_iff_ne.2 (Ne.symm e)]
theorem fN_ {T':Act->Prop} (hR:∀w w',R w w'->∀j v,G j v w->G j v w') (hT:∀a,T a->T' a):∀(l:List Oper) (i:Nat) (a:Act),bt_ P ops C R G s pl T i l a->bG_ (Γ:=Unit) P ops (fun _ d w=>C (d s) w) (fun _=>G) s pl T' i l a
 | [],_,a,h=>hT a h
 | o :: l,i,a,h=>⟨fun g d w hn hp hC hd K hK=>h.1 (d s) w (fun hb=>⟨fun e=>(by rw [e] at hn;rw [hn] at hb;cases hb),hp hb⟩) hC hd K fun v w' h1 h2 h3=>hK () v w' (by
   show C (d s||s == i) w'
   rw [show (s == i)=(i == s) from jp_ s i];exact h1) (fun j u hg=>hR w w' h2 j u hg) h3,fun v=>fN_ hR hT l (i+1) _ (h.2 v)⟩
def fe_ (m s:Nat) (pl:Nat->Bool) (C:Bool->World->Prop) (R:World->World->Prop) (G:Nat->Value->World->Prop)
  (hm:P.follows .mixedOrders=true) (hB:fk_ l.toArray m s pl=true) (hs:a.tmps.size=m) (hC:C false {w with drawn:=w.drawn+1}) (hR:∀w w',R w w'->∀j v,G j v w->G j v w') (hs0:∀(i:Nat) (o:Oper),l.toArray[i]?=some o->o.dst=none->∀v w,G i v w->G i undef w)
  (h:bt_ P l.toArray C R G s pl (fun a'=>∀w',C true w'->(∀j,j<l.toArray.size->G j (cv_ l.toArray a' j) w')->wpList P l.toArray Q [] a' w') 0 l a):(Code.region id l.toArray true).wp P Q a w:=by have c:s<l.toArray.size:=(by have:=hB;simp only[fk_,Bool.and_eq_true,decide_eq_true_eq] at this;exact this.1.2);refine au_ (Γ:=Unit) m s pl (fun _ d w=>C (d s) w) (fun _=>G) () hm hB hs hC (fun i o f b _ v w n=>hs0 i o f b v w n) (fN_ hR (fun a' g _ d w' b hC k=>g w' (by rw [b s c] at hC;exact hC) k) l 0 a h)
def e_ (hp:pl i=true) (his:(i == s)=false)
  (h1:∀w,C false w->(∀j,Region.waitsFor .any ops i j=true->G j (cv_ ops a j) w)->∀K:Act->World->Prop,(∀v w',C false w'->R w w'->G i v w'->K (a.put o.dst v) w')->Oper.wp P o a w K cN_)
  (h2:∀v,bt_ P ops C R G s pl T (i+1) l (a.put o.dst v)):bt_ P ops C R G s pl T i (o :: l) a:=by refine ⟨fun b w hb hC hG K hK=>?_,h2⟩;cases b with|true=>rw [(hb rfl).2] at hp;cases hp|false=>exact h1 w hC hG K fun v w' h=>hK v w' (by rw [his];exact h)
def E_
  (h1:∀w,C false w->(∀j,Region.waitsFor .any ops s j=true->G j (cv_ ops a j) w)->∀K:Act->World->Prop,(∀v w',C true w'->R w w'->G s v w'->K (a.put o.dst v) w')->Oper.wp P o a w K cN_)
  (h2:∀v,bt_ P ops C R G s pl T (s+1) l (a.put o.dst v)):bt_ P ops C R G s pl T s (o :: l) a:=by refine ⟨fun b w hb hC hG K hK=>?_,h2⟩;cases b with|true=>exact absurd rfl (hb rfl).1|false=>exact h1 w hC hG K fun v w' h=>hK v w' (by simpa using h)
def ad_ (his:(i == s)=false) (hR:∀w,R w w)
  (h1:∀w,(∀j,Region.waitsFor .any ops i j=true->G j (cv_ ops a j) w)->∀K:Act->World->Prop,(∀v,G i v w->K (a.put o.dst v) w)->Oper.wp P o a w K cN_)
  (h2:∀v,bt_ P ops C R G s pl T (i+1) l (a.put o.dst v)):bt_ P ops C R G s pl T i (o :: l) a:=
 ⟨fun b w hb hC hG K hK=>h1 w hG K fun v hv=>hK v w (by rw [his,Bool.or_false];exact hC) (hR w) hv,h2⟩
def N_ (h:T a):bt_ P ops C R G s pl T i [] a:=h
def uM_ (ops:Array Oper) (s:Nat):Bool:=(List.range ops.size).all fun i=>match ops[i]? with | some o=>o.dst.isSome||i == s | none=>true
def iw_ (ops:Array Oper) (m s:Nat) (pl:Nat->Bool):Bool:=fk_ ops m s pl&&uM_ ops s
def f2_ {s:Nat} {pl:Nat->Bool} (h:iw_ ops m s pl=true):fk_ ops m s pl=true/\∀(i:Nat) (o:Oper),ops[i]?=some o->o.dst=none->i=s:=by unfold iw_ at h;rw [Bool.and_eq_true] at h;refine ⟨h.1,fun i o a b=>?_⟩;have:=List.all_eq_true.1 h.2 i (List.mem_range.2 (Array.getElem?_eq_some_iff.1 a).1);rw [a] at this;simpa [b] using this
def e4_ (m s:Nat) (pl:Nat->Bool) (C:Bool->World->Prop) (R:World->World->Prop) (G:Nat->Value->World->Prop)
  (hm:P.follows .mixedOrders=true) (hB:iw_ l.toArray m s pl=true) (hs:a.tmps.size=m) (hC:C false {w with drawn:=w.drawn+1}) (hR:∀w w',R w w'->∀j v,G j v w->G j v w') (hs0:∀w,G s undef w)
  (h:bt_ P l.toArray C R G s pl (fun a'=>∀w',C true w'->(∀j,j<l.toArray.size->G j (cv_ l.toArray a' j) w')->wpList P l.toArray Q [] a' w') 0 l a):(Code.region id l.toArray true).wp P Q a w:=
 fe_ m s pl C R G hm (f2_ hB).1 hs hC hR (fun i o ho hd v w _=>by rw [(f2_ hB).2 i o ho hd];exact hs0 w) h
def QK (K:Act->World->Prop):Exit->Act->World->Prop
 | .normal,a,w=>K a w
 | _,_,_=>False
def ap_ (hg:o.guard=none) (h:wpList P ops (QK K) [o] a w):o.wp P a w K cN_:=by have g:¬LetsOut (QK K):=fun ⟨_,_,hf⟩=>hf;unfold wpList at h;have b:Region.wanted o (yielded ops a.tmps)=true:=(by simp [Region.wanted,hg]);rw [if_pos b] at h;rcases h with h | h;{unfold Oper.wp at *;generalize (execOp a.eval o).run P w=r at *;cases r with|ok n w'=>(cases n <;> simp only[Oper.upon] at h ⊢;(case value u=>exact h);(case skip=>exact h);(case defer x=>exact h);(case enter f args=>refine CM h fun e i d=>?_;cases e with|returned u=>exact d|panicked c=>exact d.elim|outgrown=>exact absurd d g);case row row args=>exact Rows.mono h fun u i d=>d)|halt x w'=>cases x <;> simp only[Oper.upon] at h ⊢;exact h.elim};exact absurd h.2 g
def L_ (hgd:o.guard=none) (ty:TypeId) (x y:Operand) (ho:o.op = .store ty x y)
  (hd:o.dst=none) (cells:Array Value) (hx:a.eval x = P_ g) (hy:a.eval y = .agg cells)
  (t:TypeId) (old:Array Value) (hg:w.heap[g]?=some (.cells old t (0,0))) (hi:(P.info? ty).map (·.size)=some cells.size)
  (hold:old.size=cells.size) (h1:cells.all (·.oneCell')=true) (h:K a (w.setRow g cells)):o.wp P a w K cN_:=
 ap_ (ops:=#[]) hgd (wR_ hgd ty x y ho hd g cells hx hy t old hg hi hold h1 h)
end
def r_ (S:Nat->Prop) (w w':World):Prop:=w.heap.size<=w'.heap.size/\∀z,S z->z<w.heap.size->w'.heap[z]?=w.heap[z]?
def r_.refl (w:World):r_ S w w:=⟨lR_ _,fun _ _ _=>rfl⟩
def K_:r_ S w w:=r_.refl w
structure SK (S:Nat->Prop) where
 p:Value->World->Prop
 st:∀v w w',r_ S w w'->p v w->p v w'
def SK.eq {S:Nat->Prop} (x:Value):SK S:=⟨fun v _=>v=x,fun _ _ _ _ h=>h⟩
def SK.any {S:Nat->Prop}:SK S:=⟨fun _ _=>True,fun _ _ _ _ h=>h⟩
def GK {S:Nat->Prop} (ls:List (SK S)) (j:Nat) (v:Value) (w:World):Prop:=(ls.getD j SK.any).p v w
def GK.keep {ls:List (SK S)} (hr:r_ S w w') (j:Nat) (v:Value) (h:GK ls j v w):GK ls j v w':=(ls.getD j SK.any).st v w w' hr h
def CB (W:World) (D:World->Prop):Bool->World->Prop
 | false,w=>s_ W w
 | true,w=>D w
def az_ (m s:Nat) (pl:Nat->Bool) (D:World->Prop) (ls:List (SK S))
  (hm:P.follows .mixedOrders=true) (hB:iw_ l.toArray m s pl=true) (hs:a.tmps.size=m) (hs0:∀w,GK ls s undef w)
  (h:bt_ P l.toArray (CB W D) (r_ S) (GK ls) s pl (fun a'=>∀w',D w'->(∀j,j<l.toArray.size->GK ls j (cv_ l.toArray a' j) w')->wpList P l.toArray Q [] a' w') 0 l a):(Code.region id l.toArray true).wp P Q a W:=
 e4_ m s pl (CB W D) (r_ S) (GK ls) hm hB hs (B_.drew) (fun x y hr=>GK.keep hr) hs0 h
end
end Go.Proofs.YtehfhnbpnaiogaaGreatDoor
