/-
  Lemmas and contracts for the laws of this seat, part 1; several texts joined by a program.
-/
import Derived.Test.YtehfhnbpnaiogaaGreatDoorE00
import Derived.ArgAppend
import Derived.Deep.AppendLies
import Derived.Deep.MidRow
import Derived.Great.BuildSlice
import Derived.StillTail
namespace Go.Proofs.YtehfhnbpnaiogaaGreatDoor
set_option linter.unusedVariables false
set_option linter.unusedSimpArgs false
set_option maxRecDepth 100000
set_option maxHeartbeats 16000000
open Go.RowKit Go.Proofs.Tryz IntKind
variable {A:Option Addr} {C:World->Prop} {G:Nat->Value->World->Prop} {K:Act->World->Prop} {P:Program} {Q:Exit->Act->World->Prop} {R:World->World->Prop} {S:Nat->Prop} {W w w' w0 y:World} {a:Act} {b base cap g i id k m n s:Nat} {d:Tmp} {l:List Oper} {o:Oper} {ops:Array Oper} {pl:Nat→Bool} {r:Option Nat} {rows:List (List Value)} {t:TypeId} {v x:Value} {zs:List Int}
section
section
variable {P:Program} {ops:Array Oper} {C:World->Prop} {R:World->World->Prop} {G:Nat->Value->World->Prop}
def eS (ops:Array Oper) (a:Act) (j:Nat):Value:=
 match (ops[j]?).bind (·.dst) with
 | some d=>a.eval (.tmp d)
 | none=>undef
def fH:Exit->Act->World->Prop:=fun _ _ _=>False
def hq_ (P:Program) (ops:Array Oper) (C:World->Prop) (R:World->World->Prop) (G:Nat->Value->World->Prop) (i:Nat) (o:Oper) (a:Act):Prop:=
 ∀w,C w->(∀j,Region.waitsFor .any ops i j=true->G j (eS ops a j) w)->∀K:Act->World->Prop,(∀v w',C w'->R w w'->G i v w'->K (a.put o.dst v) w')->Oper.wp P o a w K fH
def fT (P:Program) (ops:Array Oper) (C:World->Prop) (R:World->World->Prop) (G:Nat->Value->World->Prop) (T:Act->Prop):Nat->List Oper->Act->Prop
 | _,[],a=>T a
 | i,o :: l,a=>hq_ P ops C R G i o a/\∀v,fT P ops C R G T (i+1) l (a.put o.dst v)
def dK (vals:Nat->Value):Nat->List Oper->Act->Act
 | _,[],a=>a
 | i,o :: l,a=>dK vals (i+1) l (a.put o.dst (vals i))
theorem uX {T:Act->Prop} (vals:Nat->Value):∀(l:List Oper) (s:Nat) (a:Act),fT P ops C R G T s l a->∀k o,l[k]?=some o->hq_ P ops C R G (s+k) o (dK vals s (l.take k) a)
 | [],_,_,_,k,o,hk=>by simp at hk
 | x :: l,s,a,h,0,o,hk=>by
  obtain rfl:x=o:=by simpa using hk
  simpa [dK] using h.1
 | x :: l,s,a,h,k+1,o,hk=>by
  have:=uX vals l (s+1) _ (h.2 (vals s)) k o (by simpa using hk);rw [show s+(k+1)=s+1+k from by omega]
  simpa [dK] using this
theorem rW {T:Act->Prop} (vals:Nat->Value):∀(l:List Oper) (s:Nat) (a:Act),fT P ops C R G T s l a->T (dK vals s l a)
 | [],_,_,h=>h
 | _ :: l,s,_,h=>rW vals l (s+1) _ (h.2 (vals s))
theorem pU (a:Act) (d:Option Tmp) (v:Value):(a.put d v).tmps.size=a.tmps.size:=by cases d <;> simp [Act.put]
theorem nD (a:Act) (d:Option Tmp) (v:Value):(a.put d v).defers=a.defers:=by cases d <;> rfl
theorem fR (h:d<a.tmps.size):(a.put (some d) v).eval (.tmp d)=v:=by simp [Act.put,Act.eval,h]
theorem kE {x:Option Tmp} (h:x≠some d):(a.put x v).eval (.tmp d)=a.eval (.tmp d):=
 Act.eval_put (fun e he hx=>h (by rw [he];injection hx with hx;rw [hx]))
theorem gK (vals:Nat->Value):∀(l:List Oper) (s:Nat) (a:Act),(dK vals s l a).tmps.size=a.tmps.size
 | [],_,_=>rfl
 | o :: l,s,a=>by rw [dK,gK vals l,pU]
theorem rH (vals:Nat->Value):∀(l:List Oper) (s:Nat) (a:Act),(dK vals s l a).defers=a.defers
 | [],_,_=>rfl
 | o :: l,s,a=>by rw [dK,rH vals l,nD]
theorem fC (vals:Nat->Value) (t:Tmp):∀(l:List Oper) (s:Nat) (a:Act),(∀(k:Nat) (o:Oper),l[k]?=some o->o.dst≠some t)->(dK vals s l a).eval (.tmp t)=a.eval (.tmp t)
 | [],_,_,_=>rfl
 | o :: l,s,a,h=>by
  rw [dK,fC vals t l (s+1) _ (fun k o' hk=>h (k+1) o' (by simpa using hk)),kE (h 0 o z_)]
theorem iW (vals:Nat->Value) (t:Tmp):∀(l:List Oper) (s:Nat) (a:Act) (k:Nat) (o:Oper),l[k]?=some o->o.dst=some t->(∀(k':Nat) (o':Oper),k<k'->l[k']?=some o'->o'.dst≠some t)->t<a.tmps.size->
  (dK vals s l a).eval (.tmp t)=vals (s+k)
 | [],_,_,k,o,hk,_,_,_=>by simp at hk
 | x :: l,s,a,0,o,hk,hd,hx,ht=>by
  obtain rfl:x=o:=by simpa using hk
  rw [dK,fC vals t l (s+1) _ (fun k' o' b=>hx (k'+1) o' O_ (by simpa using b)),hd,fR ht]
  rfl
 | x :: l,s,a,k+1,o,hk,hd,hx,ht=>by
  rw [dK,iW vals t l (s+1) _ k o (by simpa using hk) hd (fun k' o' h1 h2=>hx (k'+1) o' O_ (by simpa using h2)) (by rw [pU];exact ht)]
  congr 1;omega
def hF_ (ops:Array Oper) (n m:Nat):Bool:=
 (List.range n).all fun i=>match ops[i]? with
  | none=>false
  | some o=>o.guard.isNone&&(match o.dst with | some d=>decide (d<m)&&(List.range i).all (fun j=>match ops[j]? with | some oj=>oj.dst != some d | none=>true) | none=>false) &&
   o.after.all (fun e=>!Region.binds .any e||decide (e.on<i)) &&
   (List.range n).all (fun j=>match (ops[j]?).bind (·.dst) with | some d=>!(o.looksAt ops).contains d||Region.waitsFor .any ops i j | none=>true)
def fh_ (ops:Array Oper) (n m:Nat):Bool:=
 Region.noSelect ops&&decide (n<ops.size)&&Region.sinkB .any ops n&&Region.chainB .any ops n&&Region.seqB .any ops (ops.size - n) n (Array.replicate n true ++ Array.replicate (ops.size - n) false)&&hF_ ops n m
theorem eF (h:hF_ ops n m=true) (hi:i<n):∃o d,ops[i]?=some o/\o.guard=none/\o.dst=some d/\d<m/\
  (∀j oj,j<i->ops[j]?=some oj->oj.dst≠some d)/\(∀e ∈ o.after,Region.binds .any e=true->e.on<i)/\(∀j oj d',j<n->ops[j]?=some oj->oj.dst=some d'->d' ∈ o.looksAt ops->Region.waitsFor .any ops i j=true):=by
 have h1:=List.all_eq_true.1 h i (List.mem_range.2 hi)
 cases ho:ops[i]? with
 | none=>rw [ho] at h1;cases h1
 | some o=>
  rw [ho] at h1;simp only[Bool.and_eq_true] at h1;obtain ⟨⟨⟨p,b⟩,g⟩,hl⟩:=h1
  cases hdst:o.dst with
  | none=>rw [hdst] at b;cases b
  | some d=>
   rw [hdst] at b;simp only[Bool.and_eq_true,decide_eq_true_eq] at b;refine ⟨o,d,rfl,by simpa using p,hdst,b.1,?_,?_,?_⟩
   ·intro j oj f a;have:=List.all_eq_true.1 b.2 j (List.mem_range.2 f);rw [a] at this
    simpa using this
   ·intro e l k;have:=(Array.all_eq_true_iff_forall_mem.1 g) e l
    simpa [k] using this
   ·intro j oj d' f a c q;have:=List.all_eq_true.1 hl j (List.mem_range.2 f);rw [a] at this;simp only[Option.bind_some,c] at this
    simpa [q] using this
theorem fF_ {b:Act} {Z:Value->World->Prop} (hd:o.dst=some d) (hb:d<b.tmps.size) (he:execOp a.eval o=execOp b.eval o)
  (h:Oper.wp P o b w (fun a' w'=>a'.defers=b.defers/\Z (a'.eval (.tmp d)) w') fH) (hk:∀v w',Z v w'->K (a.put o.dst v) w'):Oper.wp P o a w K Q:=by
 unfold Oper.wp at *;rw [he];generalize (execOp b.eval o).run P w=r at *
 cases r with
 | ok n w'=>
  cases n <;> simp only[Oper.upon] at h ⊢
  case value u=>exact hk u w' (by have:=h.2;rw [hd,fR hb] at this;exact this)
  case skip=>exact hk undef w' (by have:=h.2;rw [hd,fR hb] at this;exact this)
  case defer x=>
   have h1:=h.1;rw [nD] at h1;have:=congrArg List.length h1;simp at this
  case enter f args=>
   refine CM h fun e g he=>?_
   cases e with
   | returned u=>exact hk u g (by have:=he.2;rw [hd,fR hb] at this;exact this)
   | panicked c=>exact he.elim
   | outgrown=>obtain ⟨_,_,hf⟩:=he;exact hf.elim
  case row row args=>exact Rows.mono h fun u g he=>hk u g (by have:=he.2;rw [hd,fR hb] at this;exact this)
 | halt x w'=>cases x <;> simp only[Oper.upon] at h ⊢;exact h.elim
def lM (ls:Array Bool):Nat->Nat
 | 0=>0
 | k+1=>lM ls k+if ls.getD k false=true then 0 else 1
theorem mU (ls:Array Bool):∀n,lM ls n=0->∀j,j<n->ls.getD j false=true
 | 0,_,j,hj=>by omega
 | n+1,h,j,hj=>by
  simp only[lM] at h
  by_cases hn:ls.getD n false=true
  ·by_cases hjn:j=n
   ·subst hjn;exact hn
   ·exact mU ls n O_ j O_
  ·rw [if_neg hn] at h;omega
theorem zU (ls:Array Bool) (i:Nat):∀n,n<=i->lM (ls.setIfInBounds i true) n=lM ls n
 | 0,_=>rfl
 | n+1,h=>by simp only[lM];rw [zU ls i n O_,getD_set_ne false O_]
theorem tU (ls:Array Bool) (i:Nat) (hi:i<ls.size) (hu:ls.getD i false=false):∀n,i<n->lM (ls.setIfInBounds i true) n+1=lM ls n
 | 0,h=>by omega
 | n+1,h=>by
  simp only[lM]
  by_cases hin:i=n
  ·subst hin;rw [zU ls i i (aQ _),hu];simp [hi]
  ·have:=tU ls i hi hu n O_;rw [getD_set_ne false hin];omega
theorem oM (ls:Array Bool):∀n,lM ls n≠0->∃i,i<n/\ls.getD i false=false/\∀j,j<i->ls.getD j false=true
 | 0,h=>absurd rfl h
 | n+1,h=>by
  by_cases h0:lM ls n=0
  ·refine ⟨n,O_,?_,mU ls n h0⟩
   cases hb:ls.getD n false with
   | false=>rfl
   | true=>simp only[lM,h0,hb] at h;exact absurd rfl h
  ·obtain ⟨i,hi,h1,h2⟩:=oM ls n h0;exact ⟨i,O_,h1,h2⟩
theorem aT_ {j:Nat} (h:Region.waitsFor .any ops i j=true) (ho:ops[i]?=some o):∃e ∈ o.after,Region.binds .any e=true/\e.on=j:=by
 obtain ⟨oj,hoj,e,he,hb,hon⟩:=Region.waitsFor_spec h;have:oj=o:=aP (hoj.symm.trans ho);subst this;exact ⟨e,he,hb,hon⟩
theorem bU_ {b:Act} (hs:a.tmps.size=b.tmps.size) (hd:a.defers=b.defers) (h:∀t,t<a.tmps.size->a.eval (.tmp t)=b.eval (.tmp t)):a=b:=by
 obtain ⟨ta,da⟩:=a;obtain ⟨tb,db⟩:=b;simp only at hs hd;subst hd
 congr 1
 apply Array.ext hs;intro i h1 h2;have:=h i h1
 simpa [Act.eval,h1,h2] using this
theorem a4_ {n m:Nat} {Q:Exit->Act->World->Prop} {T:Act->Prop} {l:List Oper} {a0:Act} (hops:ops=l.toArray) (hB:fh_ ops n m=true) (hm:a0.tmps.size=m)
  (hR:∀w w',R w w'->∀j v,G j v w->G j v w') (hW:fT P ops C R G T 0 (l.take n) a0)
  (hT:∀a w,T a->C w->(∀j,j<n->G j (eS ops a j) w)->wpList P ops Q (l.drop n) a w) :
  ∀(f:Nat) (ls:Array Bool) (a:Act) (w:World),lM ls n=f->HeadInv .any ops n ls->a.tmps.size=m->a.defers=a0.defers->C w->(∃vals:Nat->Value,
   (∀j o d,j<n->ls.getD j false=true->ops[j]?=some o->o.dst=some d->a.eval (.tmp d)=vals j/\G j (vals j) w)/\
   (∀t,(∀j o,j<n->ls.getD j false=true->ops[j]?=some o->o.dst≠some t)->a.eval (.tmp t)=a0.eval (.tmp t)))->
   wpAny P .any ops Q (f+(ops.size - n)) ls a w:=by
 simp only[fh_,Bool.and_eq_true,decide_eq_true_eq] at hB;obtain ⟨⟨⟨⟨⟨ai,hn⟩,hs⟩,hc⟩,aj⟩,g⟩:=hB;have z:∀j:Nat,ops[j]?=l[j]?:=fun j=>by rw [hops];simp
 have q:∀(k:Nat) (o:Oper),(l.take n)[k]?=some o->k<n/\ops[k]?=some o:=fun k o B=>by
  rw [List.getElem?_take] at B
  split at B
  ·exact ⟨by assumption,by rw [z];exact B⟩
  ·cases B
 intro f
 induction f with
 | zero=>
  intro ls a w hf inv K W hC ⟨vals,hv1,hv2⟩;have y:=mU ls n hf;have ap:ls=Array.replicate n true ++ Array.replicate (ops.size - n) false:=by
   apply Array.ext
   ·rw [inv.size];simp;omega
   ·intro i h1 h2
    by_cases hi:i<n
    ·have:=y i hi;simp [h1] at this;simp [Array.getElem_append,hi,this]
    ·have hz:=inv.tail i O_ (by rw [<-inv.size];exact h1);simp [h1] at hz;simp [Array.getElem_append,hi,hz]
  have ha:a=dK vals 0 (l.take n) a0:=by
   apply bU_
   ·rw [gK,K,hm]
   ·rw [rH,W]
   ·intro t ht
    by_cases hx:∃(k:Nat) (o:Oper),k<n/\ops[k]?=some o/\o.dst=some t
    ·obtain ⟨k,o,B,ho,N⟩:=hx;rw [(hv1 k o t B (y k B) ho N).1];have a2:(l.take n)[k]?=some o:=by rw [List.getElem?_take,if_pos B,<-z];exact ho
     rw [iW vals t (l.take n) 0 a0 k o a2 N ?_ (by rw [hm,<-K];exact ht),Nat.zero_add];intro k' o' a1 a4;obtain ⟨ad,af⟩:=q k' o' a4;obtain ⟨o2,U,D,_,L,_,g3,_⟩:=eF g ad;have:o2=o':=aP (D.symm.trans af);subst this;rw [L];intro r;injection r with r
     subst r;exact g3 k o a1 ho N
    ·rw [hv2 t (fun j o u _ ho N=>hx ⟨j,o,u,ho,N⟩),fC vals t (l.take n) 0 a0 (fun k o B N=>hx ⟨k,o,(q k o B).1,(q k o B).2,N⟩)]
  have a8:=rW vals (l.take n) 0 a0 hW;rw [<-ha] at a8;have hw:=hT a w a8 hC (fun j u=>by
   obtain ⟨o,d,D,_,L,_⟩:=eF g u;have:=hv1 j o d u (y j u) D L;unfold eS;rw [D];simp only[Option.bind_some,L];rw [this.1];exact this.2)
  have a9:(l.drop n).length=ops.size - n:=by rw [hops];simp
  have:=wpAny_of_seq (md:= .any) (Q':=Q) (l.drop n) n ls a w (fun j=>by rw [z,List.getElem?_drop]) (by rw [a9,ap];exact aj) hw;rw [a9] at this;rw [Nat.zero_add];exact this
 | succ f ih=>
  intro ls a w hf inv K W hC ⟨vals,hv1,hv2⟩;obtain ⟨i0,ac,ak,F⟩:=oM ls n O_;have ah:i0 ∈ Region.ready .any ops ls:=by
   obtain ⟨o,d,D,_,_,_,_,g4,_⟩:=eF g ac;exact mem_ready.2 ⟨getD_in (by rw [inv.size];omega) ak,o,D,fun e he hb=>F _ (g4 e he hb)⟩
  rw [show f+1+(ops.size - n)=(f+(ops.size - n))+1 by omega];refine ⟨fun h=>(by rw [h] at ah;cases ah),fun i X=>?_⟩;have J:i<n:=by
   rcases Nat.lt_or_ge i n with h | h
   ·exact h
   ·exact absurd X (tail_waits hs hc hn inv _ i0 rfl ac (getD_in (by rw [inv.size];omega) ak) i h)
  obtain ⟨o,d,D,gg,L,g3,gd,g4,g5⟩:=eF g J;obtain ⟨au,o',a4,y⟩:=mem_ready.1 X;obtain rfl:o'=o:=aP (a4.symm.trans D);have a2:(l.take n)[i]?=some o':=by rw [List.getElem?_take,if_pos J,<-z];exact D
  have ag:=uX vals (l.take n) 0 a0 hW i o' a2;rw [Nat.zero_add] at ag;have H:∀j p M,j<i->ops[j]?=some p->p.dst=some M->(dK vals 0 ((l.take n).take i) a0).eval (.tmp M)=vals j:=by
   intro j p M u c s;have ao:((l.take n).take i)[j]?=some p:=by rw [List.getElem?_take,if_pos u,List.getElem?_take,if_pos O_,<-z];exact c
   obtain ⟨o2,U,k1,_,S,k3,_⟩:=eF g (show j<n by omega);obtain rfl:o2=p:=aP (k1.symm.trans c);have al:U=M:=aP (S.symm.trans s);subst al;rw [iW vals U _ 0 a0 j o2 ao S ?_ (by rw [hm];exact k3),Nat.zero_add];intro k' a7 a1 E;have an:k'<i/\ops[k']?=some a7:=by
    rw [List.getElem?_take] at E
    split at E
    ·exact ⟨by assumption,(q k' a7 E).2⟩
    ·cases E
   obtain ⟨o3,d3,m1,_,m2,_,m3,_⟩:=eF g (show k'<n by omega);obtain rfl:o3=a7:=aP (m1.symm.trans an.2);rw [m2];intro r;injection r with r
   subst r;exact m3 j o2 a1 c S
  have ab:∀t,(∀j p,j<n->ops[j]?=some p->p.dst≠some t)->(dK vals 0 ((l.take n).take i) a0).eval (.tmp t)=a0.eval (.tmp t):=fun t ht=>
   fC vals t _ 0 a0 (fun k ok B=>by
    rw [List.getElem?_take] at B
    split at B
    ·exact ht k ok (q k ok B).1 (q k ok B).2
    ·cases B)
  have I:∀j,Region.waitsFor .any ops i j=true->j<i/\ls.getD j false=true:=fun j u=>by
   obtain ⟨e,he,hb,ar⟩:=aT_ u D;subst ar;exact ⟨g4 e he hb,y e he hb⟩
  have am:execOp a.eval o'=execOp (dK vals 0 ((l.take n).take i) a0).eval o':=by
   refine execOp_congr o' (fun cs b=>Region.noSelect_spec ai i o' cs b D) (fun x hx=>?_)
   cases x with
   | tmp t=>
    have a3:t ∈ o'.looksAt ops:=List.mem_append_left _ (List.mem_filterMap.2 ⟨.tmp t,by simpa using hx,rfl⟩)
    by_cases aa:∃(j:Nat) (p:Oper),j<n/\ops[j]?=some p/\p.dst=some t
    ·obtain ⟨j,p,u,c,s⟩:=aa;obtain ⟨A,Y⟩:=I j (g5 j p t u c s a3);rw [(hv1 j p t u Y c s).1,H j p t A c s]
    ·have ae:∀j p,j<n->ops[j]?=some p->p.dst≠some t:=fun j p u c N=>aa ⟨j,p,u,c,N⟩;rw [hv2 t (fun j p u _ c=>ae j p u c),ab t ae]
   | _=>rfl
  have a5:=ag w hC (fun j u=>by
   obtain ⟨A,Y⟩:=I j u;obtain ⟨o2,U,k1,_,S,_⟩:=eF g (show j<n by omega);unfold eS;rw [k1];simp only[Option.bind_some,S];rw [H j o2 U A k1 S];exact (hv1 j o2 U O_ Y k1 S).2)
   (fun a' w'=>a'.defers=(dK vals 0 ((l.take n).take i) a0).defers/\(C w'/\R w w'/\G i (a'.eval (.tmp d)) w'))
   (fun v w' h1 h2 h3=>⟨nD _ _ _,h1,h2,by rw [L,fR (by rw [gK,hm];exact g3)];exact h3⟩)
  have a6:Region.wanted o' (yielded ops a.tmps)=true:=by simp [Region.wanted,gg]
  unfold wpOp;rw [D];simp only[a6,if_true];refine .inl (fF_ (Z:=fun v w'=>C w'/\R w w'/\G i v w') L (by rw [gK,hm];exact g3) am a5 fun v w' ⟨hC',hRw,hGi⟩=>?_);have V:i<ls.size:=by rw [inv.size];omega
  refine ih (ls.setIfInBounds i true) (a.put o'.dst v) w' (by have:=tU ls i V (getD_both au) n J;omega) (inv.set X J) (by rw [pU,K]) (by rw [nD,W]) hC' ⟨fun j=>if j=i then v else vals j,?_,?_⟩
  ·intro j p M u O c s
   by_cases A:j=i
   ·subst A;obtain rfl:p=o':=aP (c.symm.trans D);have:M=d:=aP (s.symm.trans L);subst this
    show (a.put p.dst v).eval (.tmp M)=(if j=j then v else vals j)/\G j (if j=j then v else vals j) w'
    rw [if_pos rfl,s,fR (by rw [K];exact g3)];exact ⟨rfl,hGi⟩
   ·rw [getD_set_ne false (Ne.symm A)] at O;have h1:=hv1 j p M u O c s
    show (a.put o'.dst v).eval (.tmp M)=(if j=i then v else vals j)/\G j (if j=i then v else vals j) w'
    rw [if_neg A];refine ⟨?_,hR _ _ hRw _ _ h1.2⟩;rw [kE ?_]
    ·exact h1.1
    ·rw [L];intro r;injection r with r
     subst r
     rcases Nat.lt_or_gt_of_ne A with hlt | yX
     ·exact gd j p hlt c s
     ·obtain ⟨o2,U,k1,_,S,_,k3,_⟩:=eF g u;obtain rfl:o2=p:=aP (k1.symm.trans c);have:U=d:=aP (S.symm.trans s);subst this;exact k3 i o' yX D L
  ·intro t ht;have aq:o'.dst≠some t:=ht i o' J (by simp [V]) D;rw [kE aq];refine hv2 t (fun j p u O c=>ht j p u (getD_set_true O) c)
theorem vX (n m:Nat) (G:Nat->Value->World->Prop)
  (hm:P.follows .mixedOrders=true) (hB:fh_ l.toArray n m=true) (hs:a.tmps.size=m) (hC:C {w with drawn:=w.drawn+1}) (hR:∀w w',R w w'->∀j v,G j v w->G j v w')
  (h:fT P l.toArray C R G (fun a'=>∀w',C w'->(∀j,j<n->G j (eS l.toArray a' j) w')->wpList P l.toArray Q (l.drop n) a' w') 0 (l.take n) a):(Code.region id l.toArray true).wp P Q a w:=by
 refine wp_region_any hm ?_;have b:=hB;simp only[fh_,Bool.and_eq_true,decide_eq_true_eq] at b;have s:n<l.toArray.size:=b.1.1.1.1.2;have c:∀k,lM (Array.replicate l.toArray.size false) k=k:=by
  intro k
  induction k with
  | zero=>rfl
  | succ k ih=>simp only[lM,ih,getD_replicate_false];simp
 have f:HeadInv .any l.toArray n (Array.replicate l.toArray.size false):=
  ⟨z_,fun j u _ hl=>(by rw [getD_replicate_false] at hl;cases hl),fun t _ q=>getD_in (by simpa using q) (getD_replicate_false _ _)⟩
 have:=a4_ (P:=P) (ops:=l.toArray) (C:=C) (R:=R) (G:=G) (n:=n) (m:=m) (Q:=Q) (l:=l) (a0:=a) rfl hB hs hR h (fun a' w' p g i=>p w' g i) n (Array.replicate l.toArray.size false) a {w with drawn:=w.drawn+1} (c n) f hs rfl hC
  ⟨fun _=>undef,fun j o d r hl=>(by rw [getD_replicate_false] at hl;cases hl),fun t _=>rfl⟩
 rw [show n+(l.toArray.size - n)=l.toArray.size by omega] at this;exact this
theorem e_ {T:Act->Prop}
  (h1:∀w,C w->(∀j,Region.waitsFor .any ops i j=true->G j (eS ops a j) w)->∀K:Act->World->Prop,(∀v w',C w'->R w w'->G i v w'->K (a.put o.dst v) w')->Oper.wp P o a w K fH)
  (h2:∀v,fT P ops C R G T (i+1) l (a.put o.dst v)):fT P ops C R G T i (o :: l) a:=⟨h1,h2⟩
theorem aA {T:Act->Prop} (h:T a):fT P ops C R G T i [] a:=h
end
end
section
structure SP where
 p:Value->World->Prop
 st:∀v w w',q_ w w'->p v w->p v w'
def SP.eq (x:Value):SP:=⟨fun v _=>v=x,fun _ _ _ _ h=>h⟩
def SP.any:SP:=⟨fun _ _=>True,fun _ _ _ _ h=>h⟩
def GS (ls:List SP) (j:Nat) (v:Value) (w:World):Prop:=(ls.getD j SP.any).p v w
theorem GS.keep {ls:List SP} (hr:q_ w w') (j:Nat) (v:Value) (h:GS ls j v w):GS ls j v w':=(ls.getD j SP.any).st v w w' hr h
theorem T_ (n m:Nat) (ls:List SP)
  (hm:P.follows .mixedOrders=true) (hB:fh_ l.toArray n m=true) (hs:a.tmps.size=m)
  (h:fT P l.toArray (fun x=>q_ W x) (fun x y=>q_ x y) (GS ls) (fun a'=>∀w',q_ W w'->(∀j,j<n->GS ls j (eS l.toArray a' j) w')->wpList P l.toArray Q (l.drop n) a' w') 0 (l.take n) a):(Code.region id l.toArray true).wp P Q a W:=
 vX n m (GS ls) hm hB hs (B_.drew) (fun x y hr=>GS.keep hr) h
end
section
theorem i_ {w w':World} {x:Obj} (h:w.heap[g]?=some x) (hb:q_ w w'):w'.heap[g]?=some x:=(hb.block _ (Array.getElem?_eq_some_iff.1 h).1).trans h
theorem m_ {x:Obj} (h:w.heap[g]?=some x) (o:Obj):(w.alloc o).heap[g]?=some x:=i_ h (B_.alloc (aQ _) _)
theorem p_ {x:Obj} (h:w.heap[g]?=some x):g<w:=(Array.getElem?_eq_some_iff.1 h).1
theorem g_ (w:World) (o:Obj):(w.alloc o).heap[w.heap.size]?=some o:=heap_alloc_new w o
theorem l_ (w:World) (o:Obj) (n:Nat) (h:w.heap.size=n):(w.alloc o).heap[n]?=some o:=by subst h;exact heap_alloc_new w o
theorem aM {x:Obj} (h:w.heap[g]?=some x) (p:Addr) (v:Value) (hn:g≠p.block):(w.setCell p v).heap[g]?=some x:=(jO w p v g hn).trans h
theorem R_ {g i:Nat} {cs:Array Value} {fr:Nat × Nat} (h:w.heap[g]?=some (.cells cs t fr)) (v:Value):(w.setCell ⟨g,i,none⟩ v).heap[g]?=some (.cells (cs.setIfInBounds i v) t fr):=by
 simp [World.setCell,Array.getElem?_modify,h]
theorem dA {B sz:Nat} {xs:List Value} (h:w.ownsRow B t sz v n xs) (hb:q_ w w'):w'.ownsRow B t sz v n xs:=
 h.kept (row:=none) ⟨hb.os,hb.tape,hb.output,hb.size,fun k hk _=>hb.block k hk⟩ (by cases h:v.ownBlock with | none=>exact .inl rfl | some b=>exact .inr z_)
def SP.blk (c:Nat) (cs:Array Value) (t:TypeId):SP:=⟨fun v w=>∃g,v = S_ (some ⟨g,0,none⟩) c c/\w.heap[g]?=some (.cells cs t (0,0)),fun v w w' hb ⟨g,h1,h2⟩=>⟨g,h1,i_ h2 hb⟩⟩
theorem fA {x:Int} (h:-1000000<=x/\x<=1000000):i64.wrap x=x:=IntWalk.i64_in _ O_
def ZA (w:World) (A:Option Addr) (zs:List Int):Prop:=
 zs=[]\/∃b o,A=some ⟨b,o,none⟩/\b<w.heap.size/\∀i z,zs[i]?=some z->w.cell? ⟨b,o+i,none⟩=some (I_ z)
theorem ZA.step (h:ZA w A zs) (hb:q_ w w'):ZA w' A zs:=by
 rcases h with h | ⟨b,o,h1,h2,h3⟩
 ·exact .inl h
 ·exact .inr ⟨b,o,h1,iS h2 hb.size,fun i z hi=>(hb.cell (p:=⟨b,_,none⟩) h2).trans (h3 i z hi)⟩
theorem ZA.alloc (h:ZA w A zs) (o:Obj):ZA (w.alloc o) A zs:=h.step (B_.alloc (aQ _) _)
theorem ZA.at_ (h:ZA w A zs) {i:Nat} (hi:i<zs.length):∃b o z,A=some ⟨b,o,none⟩/\b<w.heap.size/\zs[i]?=some z/\w.cell? ⟨b,o+i,none⟩=some (I_ z):=by
 rcases h with h | ⟨b,o,h1,h2,h3⟩
 ·subst h;simp at hi
 ·have he:zs[i]?=some zs[i]:=cU hi;exact ⟨b,o,_,h1,h2,he,h3 i _ he⟩
def ZAs (w:World) (v:Value) (zs:List Int):Prop:=∃A cap,v = S_ A zs.length cap/\zs.length<=maxLen/\ZA w A zs
theorem ZAs.nil (w:World):ZAs w (S_ none 0 0) []:=⟨none,0,rfl,z_,.inl rfl⟩
theorem ZAs.step (h:ZAs w v zs) (hb:q_ w w'):ZAs w' v zs:=by
 obtain ⟨A,cap,e,hm,h⟩:=h;exact ⟨A,cap,e,hm,h.step hb⟩
theorem ZAs.of_own (h:w.ownsRow base t 1 v zs.length (zs.map (Value.int i64))) (hm:zs.length<=maxLen):ZAs w v zs:=by
 by_cases h0:zs=[]
 ·subst h0
  rcases h.2 with ⟨h1,_⟩ | ⟨g,cap,cur,h1,_⟩
  ·rw [h1];exact ZAs.nil w
  ·exact ⟨_,cap,h1,hm,.inl rfl⟩
 ·obtain ⟨g,cap,hv,_,a⟩:=h.form (List.length_pos_iff.2 h0);subst hv;refine ⟨_,cap,rfl,hm,.inr ⟨g,0,rfl,a,fun i z b=>?_⟩⟩;have c:i<zs.length:=bK b;rw [Nat.zero_add,h.cellAt i O_,gP_,b]
  rfl
theorem uI:(prog.info? 3).map (fun i=>(i.zero,i.size,i.bytes))=some (some (I_ 0),1,8):=by kernel_rfl
end
section
section
variable {P:Program} {ops:Array Oper} {s:Nat} {pl:Nat->Bool}
def hG_ (ops:Array Oper) (m s:Nat) (pl:Nat->Bool):Bool:=
 (List.range ops.size).all fun i=>match ops[i]? with
  | none=>false
  | some o=>o.guard.isNone&&(match o.dst with | some d=>decide (d<m)&&(List.range i).all (fun j=>match ops[j]? with | some oj=>oj.dst != some d | none=>true) | none=>true) &&
   o.after.all (fun e=>!Region.binds .any e||decide (e.on<i)) &&
   (List.range ops.size).all (fun j=>match (ops[j]?).bind (·.dst) with | some d=>!(o.looksAt ops).contains d||Region.waitsFor .any ops i j | none=>true) &&
   (!pl i||(List.range ops.size).any (fun j=>decide (i<j)&&Region.waitsFor .any ops j i&&(j == s||pl j)))
def mL (ops:Array Oper) (m s:Nat) (pl:Nat->Bool):Bool:=Region.noSelect ops&&decide (s<ops.size)&&hG_ ops m s pl
theorem dW (h:hG_ ops m s pl=true) (hi:i<ops.size):∃o,ops[i]?=some o/\o.guard=none/\(∀d,o.dst=some d->d<m/\
  (∀j oj,j<i->ops[j]?=some oj->oj.dst≠some d))/\(∀e ∈ o.after,Region.binds .any e=true->e.on<i)/\(∀j oj d',j<ops.size->ops[j]?=some oj->oj.dst=some d'->d' ∈ o.looksAt ops->Region.waitsFor .any ops i j=true)/\
  (pl i=true->∃j,i<j/\j<ops.size/\Region.waitsFor .any ops j i=true/\(j=s\/pl j=true)):=by
 have h1:=List.all_eq_true.1 h i (List.mem_range.2 hi)
 cases ho:ops[i]? with
 | none=>rw [ho] at h1;cases h1
 | some o=>
  rw [ho] at h1;simp only[Bool.and_eq_true] at h1;obtain ⟨⟨⟨⟨r,g⟩,n⟩,hl⟩,a⟩:=h1;refine ⟨o,rfl,by simpa using r,fun d c=>?_,?_,?_,?_⟩
  ·rw [c] at g;simp only[Bool.and_eq_true,decide_eq_true_eq] at g;refine ⟨g.1,fun j oj f b=>?_⟩;have:=List.all_eq_true.1 g.2 j (List.mem_range.2 f);rw [b] at this
   simpa using this
  ·intro e q p;have:=(Array.all_eq_true_iff_forall_mem.1 n) e q
   simpa [p] using this
  ·intro j oj d' f b k t;have:=List.all_eq_true.1 hl j (List.mem_range.2 f);rw [b] at this;simp only[Option.bind_some,k] at this
   simpa [t] using this
  ·intro l;rw [l] at a;simp only[Bool.not_true,Bool.false_or] at a;obtain ⟨j,f,a⟩:=List.any_eq_true.1 a;simp only[Bool.and_eq_true,decide_eq_true_eq,Bool.or_eq_true,beq_iff_eq] at a;exact ⟨j,a.1.1,List.mem_range.1 f,a.1.2,a.2⟩
theorem nC {b:Act} {d:Option Tmp} {u:Value} (hb:∀t,d=some t->t<b.tmps.size) (h:b.put d u=b.put d v):a.put d u=a.put d v:=by
 cases d with
 | none=>rfl
 | some t=>
  have ht:=hb t rfl;have:=congrArg (fun x:Act=>x.eval (.tmp t)) h;simp only[fR ht] at this;rw [this]
theorem dx_ {b:Act} {Z:Value->World->Prop} (hb:∀t,o.dst=some t->t<b.tmps.size) (he:execOp a.eval o=execOp b.eval o)
  (h:Oper.wp P o b w (fun a' w'=>∃v,a'=b.put o.dst v/\Z v w') fH) (hk:∀v w',Z v w'->K (a.put o.dst v) w'):Oper.wp P o a w K Q:=by
 unfold Oper.wp at *;rw [he];generalize (execOp b.eval o).run P w=r at *
 cases r with
 | ok n w'=>
  cases n <;> simp only[Oper.upon] at h ⊢
  case value u=>obtain ⟨v,h1,h2⟩:=h;rw [nC hb h1];exact hk v w' h2
  case skip=>obtain ⟨v,h1,h2⟩:=h;rw [nC hb h1];exact hk v w' h2
  case defer x=>
   obtain ⟨v,h1,_⟩:=h;have:=congrArg (fun x:Act=>x.defers.length) h1;simp only[nD] at this;simp at this
  case enter f args=>
   refine CM h fun e d he=>?_
   cases e with
   | returned u=>obtain ⟨v,h1,h2⟩:=he;show K (a.put o.dst u) d;rw [nC hb h1];exact hk v d h2
   | panicked c=>exact he.elim
   | outgrown=>obtain ⟨_,_,hf⟩:=he;exact hf.elim
  case row row args=>exact Rows.mono h fun u d ⟨v,h1,h2⟩=>by rw [nC hb h1];exact hk v d h2
 | halt x w'=>cases x <;> simp only[Oper.upon] at h ⊢;exact h.elim
end
section
variable {Γ:Type} {P:Program} {ops:Array Oper} {C:Γ->(Nat->Bool)->World->Prop} {G:Γ->Nat->Value->World->Prop} {s:Nat} {pl:Nat->Bool}
def Y_ (d:Nat->Bool) (i:Nat) (j:Nat):Bool:=d j||j == i
def dI_ (P:Program) (ops:Array Oper) (C:Γ->(Nat->Bool)->World->Prop) (G:Γ->Nat->Value->World->Prop) (s:Nat) (pl:Nat->Bool) (i:Nat) (o:Oper) (a:Act):Prop:=
 ∀g d w,d i=false->(d s=true->pl i=false)->C g d w->(∀j,Region.waitsFor .any ops i j=true->G g j (eS ops a j) w)->∀K:Act->World->Prop,(∀g' v w',C g' (Y_ d i) w'->(∀j u,G g j u w->G g' j u w')->G g' i v w'->K (a.put o.dst v) w')->Oper.wp P o a w K fH
def dC (P:Program) (ops:Array Oper) (C:Γ->(Nat->Bool)->World->Prop) (G:Γ->Nat->Value->World->Prop) (s:Nat) (pl:Nat->Bool) (T:Act->Prop):Nat->List Oper->Act->Prop
 | _,[],a=>T a
 | i,o :: l,a=>dI_ P ops C G s pl i o a/\∀v,dC P ops C G s pl T (i+1) l (a.put o.dst v)
theorem rV {T:Act->Prop} (vals:Nat->Value):∀(l:List Oper) (s0:Nat) (a:Act),dC P ops C G s pl T s0 l a->∀k o,l[k]?=some o->dI_ P ops C G s pl (s0+k) o (dK vals s0 (l.take k) a)
 | [],_,_,_,k,o,hk=>by simp at hk
 | x :: l,s0,a,h,0,o,hk=>by
  obtain rfl:x=o:=by simpa using hk
  simpa [dK] using h.1
 | x :: l,s0,a,h,k+1,o,hk=>by
  have:=rV vals l (s0+1) _ (h.2 (vals s0)) k o (by simpa using hk);rw [show s0+(k+1)=s0+1+k from by omega]
  simpa [dK] using this
theorem pW {T:Act->Prop} (vals:Nat->Value):∀(l:List Oper) (s0:Nat) (a:Act),dC P ops C G s pl T s0 l a->T (dK vals s0 l a)
 | [],_,_,h=>h
 | _ :: l,s0,_,h=>pW vals l (s0+1) _ (h.2 (vals s0))
theorem zL {m:Nat} {Q:Exit->Act->World->Prop} {T:Act->Prop} {l:List Oper} {a0:Act} (hops:ops=l.toArray) (hB:mL ops m s pl=true) (hm:a0.tmps.size=m)
  (hs0:∀(i:Nat) (o:Oper),ops[i]?=some o->o.dst=none->∀g v w,G g i v w->G g i undef w) (hW:dC P ops C G s pl T 0 l a0)
  (hT:∀g d a w,T a->(∀j,j<ops.size->d j=true)->C g d w->(∀j,j<ops.size->G g j (eS ops a j) w)->Q .normal a w) :
  ∀(f:Nat) (ls:Array Bool) (a:Act) (w:World),lM ls ops.size=f->HeadInv .any ops ops.size ls->a.tmps.size=m->a.defers=a0.defers->(∃(γ:Γ) (vals:Nat->Value),C γ (fun j=>ls.getD j false) w/\
   (∀j o,ls.getD j false=true->ops[j]?=some o->(∀d,o.dst=some d->a.eval (.tmp d)=vals j)/\(o.dst=none->vals j=undef)/\G γ j (vals j) w)/\
   (∀t,(∀j o,ls.getD j false=true->ops[j]?=some o->o.dst≠some t)->a.eval (.tmp t)=a0.eval (.tmp t)))->
   wpAny P .any ops Q f ls a w:=by
 simp only[mL,Bool.and_eq_true,decide_eq_true_eq] at hB;obtain ⟨⟨ak,aw⟩,p⟩:=hB;have z:∀j:Nat,ops[j]?=l[j]?:=fun j=>by rw [hops];simp
 have B:∀(k:Nat) (o:Oper),ops[k]?=some o->k<ops.size:=fun k o H=>(Array.getElem?_eq_some_iff.1 H).1;intro f
 induction f with
 | zero=>
  intro ls a w hf inv R a1 ⟨γ,vals,hC,hv1,hv2⟩;have A:=mU ls _ hf;have ha:a=dK vals 0 l a0:=by
   apply bU_
   ·rw [gK,R,hm]
   ·rw [rH,a1]
   ·intro t ht
    by_cases hx:∃(k:Nat) (o:Oper),k<ops.size/\ops[k]?=some o/\o.dst=some t
    ·obtain ⟨k,o,H,ho,y⟩:=hx;rw [(hv1 k o (A k H) ho).1 t y];rw [iW vals t l 0 a0 k o (by rw [<-z];exact ho) y ?_ (by rw [hm,<-R];exact ht),Nat.zero_add];intro k' o' a4 O;rw [<-z] at O;obtain ⟨o2,D,_,g2,_⟩:=dW p (B _ _ O);have:o2=o':=aP (D.symm.trans O);subst this;intro J;exact (g2 t J).2 k o a4 ho y
    ·rw [hv2 t (fun j o _ ho y=>hx ⟨j,o,B _ _ ho,ho,y⟩),fC vals t l 0 a0 (fun k o H y=>hx ⟨k,o,B k o (by rw [z];exact H),by rw [z];exact H,y⟩)]
  have aa:=pW vals l 0 a0 hW;rw [<-ha] at aa;refine ⟨?_,hT γ _ a w aa A hC (fun j U=>by
   obtain ⟨o,D,_⟩:=dW p U;obtain ⟨k1,k2,k3⟩:=hv1 j o (A j U) D;unfold eS;rw [D];simp only[Option.bind_some]
   cases y:o.dst with
   | none=>rw [k2 y] at k3;exact k3
   | some d=>simp only;rw [k1 d y];exact k3)⟩
  cases hr:Region.ready .any ops ls with
  | nil=>rfl
  | cons i r=>
   have hi:i ∈ Region.ready .any ops ls:=by rw [hr];exact List.mem_cons_self ..
   obtain ⟨S,o,ho,_⟩:=mem_ready.1 hi;have:=A i (B _ _ ho);rw [getD_both S] at this
   cases this
 | succ f ih=>
  intro ls a w hf inv R a1 ⟨γ,vals,hC,hv1,hv2⟩;obtain ⟨i0,ap,av,K⟩:=oM ls ops.size O_;have aj:i0 ∈ Region.ready .any ops ls:=by
   obtain ⟨o,D,_,_,g4,_⟩:=dW p ap;exact mem_ready.2 ⟨getD_in (by rw [inv.size];omega) av,o,D,fun e he W=>K _ (g4 e he W)⟩
  refine ⟨fun h=>(by rw [h] at aj;cases aj),fun i ad=>?_⟩;obtain ⟨S,o,D,A⟩:=mem_ready.1 ad;have X:i<ops.size:=B _ _ D;obtain ⟨o',O,gg,g2,g4,g5,g6⟩:=dW p X;obtain rfl:o'=o:=aP (O.symm.trans D);have ai:=rV vals l 0 a0 hW i o' (by rw [<-z];exact D);rw [Nat.zero_add] at ai;have al:∀(k:Nat) (ok:Oper),(l.take i)[k]?=some ok->k<i/\ops[k]?=some ok:=fun k ok H=>by
   rw [List.getElem?_take] at H
   split at H
   ·exact ⟨by assumption,by rw [z];exact H⟩
   ·cases H
  have L:∀j n dj,j<i->ops[j]?=some n->n.dst=some dj->(dK vals 0 (l.take i) a0).eval (.tmp dj)=vals j:=by
   intro j n dj U c F;have ar:(l.take i)[j]?=some n:=by rw [List.getElem?_take,if_pos U,<-z];exact c
   obtain ⟨o2,k1,_,k2,_⟩:=dW p (B _ _ c);obtain rfl:o2=n:=aP (k1.symm.trans c);rw [iW vals dj _ 0 a0 j o2 ar F ?_ (by rw [hm];exact (k2 dj F).1),Nat.zero_add];intro k' am a4 ag;obtain ⟨_,ah⟩:=al k' am ag;obtain ⟨o3,m1,_,m2,_⟩:=dW p (B _ _ ah);obtain rfl:o3=am:=aP (m1.symm.trans ah);intro J;exact (m2 dj J).2 j o2 a4 c F
  have ac:∀t,(∀(j:Nat) (n:Oper),ops[j]?=some n->n.dst≠some t)->(dK vals 0 (l.take i) a0).eval (.tmp t)=a0.eval (.tmp t):=fun t ht=>
   fC vals t _ 0 a0 (fun k ok H=>ht k ok (al k ok H).2)
  have M:∀j,Region.waitsFor .any ops i j=true->j<i/\ls.getD j false=true:=fun j U=>by
   obtain ⟨e,he,W,a6⟩:=aT_ U D;subst a6;exact ⟨g4 e he W,A e he W⟩
  have an:execOp a.eval o'=execOp (dK vals 0 (l.take i) a0).eval o':=by
   refine execOp_congr o' (fun cs b=>Region.noSelect_spec ak i o' cs b D) (fun x hx=>?_)
   cases x with
   | tmp t=>
    have a5:t ∈ o'.looksAt ops:=List.mem_append_left _ (List.mem_filterMap.2 ⟨.tmp t,by simpa using hx,rfl⟩)
    by_cases ab:∃(j:Nat) (n:Oper),ops[j]?=some n/\n.dst=some t
    ·obtain ⟨j,n,c,F⟩:=ab;obtain ⟨E,a3⟩:=M j (g5 j n t (B _ _ c) c F a5);rw [(hv1 j n a3 c).1 t F,L j n t E c F]
    ·have af:∀(j:Nat) (n:Oper),ops[j]?=some n->n.dst≠some t:=fun j n c y=>ab ⟨j,n,c,y⟩;rw [hv2 t (fun j n _ c=>af j n c),ac t af]
   | _=>rfl
  have V:∀(k j:Nat),ops.size - j=k->j<ops.size->pl j=true->ls.getD j false=false->ls.getD s false=false:=by
   intro k
   induction k using Nat.strongRecOn with
   | _ k ihk=>
    intro j H U hp hu;obtain ⟨_,_,_,_,_,_,q⟩:=dW p U;obtain ⟨j',ax,aq,hw,a7⟩:=q hp;obtain ⟨n,c,e,he,W,a6⟩:=Region.waitsFor_spec hw;have ae:ls.getD j' false=false:=by
     cases hl:ls.getD j' false with
     | false=>rfl
     | true=>have:=inv.closed j' n c hl e he W;rw [a6,hu] at this;cases this
    rcases a7 with rfl | a7
    ·exact ae
    ·exact ihk (ops.size - j') O_ j' rfl aq a7 ae
  have N:i<ls.size:=by rw [inv.size];omega
  have a8:=ai γ (fun j=>ls.getD j false) w (getD_both S) (fun W=>by
    cases hp:pl i with
    | false=>rfl
    | true=>have:=V _ i rfl X hp (getD_both S);rw [this] at W;cases W) hC (fun j U=>by
   obtain ⟨E,a3⟩:=M j U;obtain ⟨o2,k1,_⟩:=dW p (show j<ops.size by omega);obtain ⟨q1,q2,q3⟩:=hv1 j o2 a3 k1;unfold eS;rw [k1];simp only[Option.bind_some]
   cases y:o2.dst with
   | none=>rw [q2 y] at q3;exact q3
   | some d=>simp only;rw [L j o2 d E k1 y];exact q3)
   (fun a' w'=>∃v,a'=(dK vals 0 (l.take i) a0).put o'.dst v/\∃I,C I (Y_ (fun j=>ls.getD j false) i) w'/\(∀j u,G γ j u w->G I j u w')/\G I i v w')
   (fun I v w' h1 h2 h3=>⟨v,rfl,I,h1,h2,h3⟩)
  have a9:Region.wanted o' (yielded ops a.tmps)=true:=by simp [Region.wanted,gg]
  unfold wpOp;rw [D];simp only[a9,if_true];refine .inl (dx_ (Z:=fun v w'=>∃I,C I (Y_ (fun j=>ls.getD j false) i) w'/\(∀j u,G γ j u w->G I j u w')/\G I i v w') (fun t ht=>by rw [gK,hm];exact (g2 t ht).1) an a8 fun v w' ⟨I,hC',hRw,hGi⟩=>?_);have ao:(fun j=>(ls.setIfInBounds i true).getD j false)=Y_ (fun j=>ls.getD j false) i:=by
   funext j
   unfold Y_
   by_cases a2:i=j
   ·subst a2;simp [N]
   ·rw [getD_set_ne false a2];simp [Ne.symm a2]
  refine ih (ls.setIfInBounds i true) (a.put o'.dst v) w' (by have:=tU ls i N (getD_both S) ops.size X;omega) (inv.set ad X) (by rw [pU,R]) (by rw [nD,a1]) ⟨I,fun j=>if j=i then (if o'.dst=none then undef else v) else vals j,by rw [ao];exact hC',?_,?_⟩
  ·intro j n Y c
   by_cases E:j=i
   ·subst E;obtain rfl:n=o':=aP (c.symm.trans D)
    show (∀d,n.dst=some d->(a.put n.dst v).eval (.tmp d)=(if j=j then (if n.dst=none then undef else v) else vals j))/\(n.dst=none->(if j=j then (if n.dst=none then undef else v) else vals j)=undef)/\G I j (if j=j then (if n.dst=none then undef else v) else vals j) w'
    rw [if_pos rfl];refine ⟨fun d y=>?_,fun y=>by rw [if_pos y],?_⟩
    ·rw [if_neg (by rw [y];simp),y,fR (by rw [R];exact (g2 d y).1)]
    ·cases y:n.dst with
     | none=>rw [if_pos rfl];exact hs0 j n D y I v w' hGi
     | some d=>rw [if_neg z_];exact hGi
   ·rw [getD_set_ne false (Ne.symm E)] at Y;obtain ⟨q1,q2,q3⟩:=hv1 j n Y c
    show (∀d,n.dst=some d->(a.put o'.dst v).eval (.tmp d)=(if j=i then (if o'.dst=none then undef else v) else vals j))/\(n.dst=none->(if j=i then (if o'.dst=none then undef else v) else vals j)=undef)/\G I j (if j=i then (if o'.dst=none then undef else v) else vals j) w'
    rw [if_neg E];refine ⟨fun d y=>?_,q2,hRw _ _ q3⟩;rw [kE ?_]
    ·exact q1 d y
    ·intro J
     rcases Nat.lt_or_gt_of_ne E with hlt' | yX
     ·exact (g2 d J).2 j n hlt' c y
     ·obtain ⟨o2,k1,_,k2,_⟩:=dW p (B _ _ c);obtain rfl:o2=n:=aP (k1.symm.trans c);exact (k2 d y).2 i o' yX D J
  ·intro t ht;have au:o'.dst≠some t:=ht i o' (by simp [N]) D;rw [kE au];exact hv2 t (fun j n Y c=>ht j n (getD_set_true Y) c)
theorem bU (m s:Nat) (pl:Nat->Bool) (C:Γ->(Nat->Bool)->World->Prop) (G:Γ->Nat->Value->World->Prop) (γ:Γ)
  (hm:P.follows .mixedOrders=true) (hB:mL l.toArray m s pl=true) (hs:a.tmps.size=m) (hC:C γ (fun _=>false) {w with drawn:=w.drawn+1}) (hs0:∀(i:Nat) (o:Oper),l.toArray[i]?=some o->o.dst=none->∀g v w,G g i v w->G g i undef w)
  (h:dC P l.toArray C G s pl (fun a'=>∀g d w',(∀j,j<l.toArray.size->d j=true)->C g d w'->(∀j,j<l.toArray.size->G g j (eS l.toArray a' j) w')->wpList P l.toArray Q [] a' w') 0 l a):(Code.region id l.toArray true).wp P Q a w:=by
 refine wp_region_any hm ?_;have f:=hB;simp only[mL,Bool.and_eq_true,decide_eq_true_eq] at f;have b:∀k,lM (Array.replicate l.toArray.size false) k=k:=by
  intro k
  induction k with
  | zero=>rfl
  | succ k ih=>simp only[lM,ih,getD_replicate_false];simp
 have c:HeadInv .any l.toArray l.toArray.size (Array.replicate l.toArray.size false):=
  ⟨z_,fun j x _ hl=>(by rw [getD_replicate_false] at hl;cases hl),fun t _ u=>getD_in (by simpa using u) (getD_replicate_false _ _)⟩
 exact zL (P:=P) (ops:=l.toArray) (C:=C) (G:=G) (m:=m) (Q:=Q) (l:=l) (a0:=a) rfl hB hs hs0 h (fun g d a' w' q r n p=>q g d w' r n p) l.toArray.size (Array.replicate l.toArray.size false) a {w with drawn:=w.drawn+1} (b _) c hs rfl
  ⟨γ,fun _=>undef,by simpa only [getD_replicate_false] using hC,fun j o hl=>(by rw [getD_replicate_false] at hl;cases hl),fun t _=>rfl⟩
theorem h_ {T:Act->Prop}
  (h1:∀g d w,d i=false->(d s=true->pl i=false)->C g d w->(∀j,Region.waitsFor .any ops i j=true->G g j (eS ops a j) w)->∀K:Act->World->Prop,(∀g' v w',C g' (Y_ d i) w'->(∀j u,G g j u w->G g' j u w')->G g' i v w'->K (a.put o.dst v) w')->Oper.wp P o a w K fH)
  (h2:∀v,dC P ops C G s pl T (i+1) l (a.put o.dst v)):dC P ops C G s pl T i (o :: l) a:=⟨h1,h2⟩
theorem dD {T:Act->Prop} (h:T a):dC P ops C G s pl T i [] a:=h
end
section
variable {P:Program} {ops:Array Oper} {C:Bool->World->Prop} {R:World->World->Prop} {G:Nat->Value->World->Prop} {s:Nat} {pl:Nat->Bool}
def hW_ (P:Program) (ops:Array Oper) (C:Bool->World->Prop) (R:World->World->Prop) (G:Nat->Value->World->Prop) (s:Nat) (pl:Nat->Bool) (i:Nat) (o:Oper) (a:Act):Prop:=
 ∀b w,(b=true->i≠s/\pl i=false)->C b w->(∀j,Region.waitsFor .any ops i j=true->G j (eS ops a j) w)->∀K:Act->World->Prop,(∀v w',C (b||i == s) w'->R w w'->G i v w'->K (a.put o.dst v) w')->Oper.wp P o a w K fH
def cR (P:Program) (ops:Array Oper) (C:Bool->World->Prop) (R:World->World->Prop) (G:Nat->Value->World->Prop) (s:Nat) (pl:Nat->Bool) (T:Act->Prop):Nat->List Oper->Act->Prop
 | _,[],a=>T a
 | i,o :: l,a=>hW_ P ops C R G s pl i o a/\∀v,cR P ops C R G s pl T (i+1) l (a.put o.dst v)
theorem vZ (a b:Nat):(a == b)=(b == a):=by
 by_cases e:a=b
 ·rw [e]
 ·rw [beq_eq_false_iff_ne.2 e,beq_eq_false_iff_ne.2 (Ne.symm e)]
theorem nY {T T':Act->Prop} (hR:∀w w',R w w'->∀j v,G j v w->G j v w') (hT:∀a,T a->T' a):∀(l:List Oper) (i:Nat) (a:Act),cR P ops C R G s pl T i l a->dC (Γ:=Unit) P ops (fun _ d w=>C (d s) w) (fun _=>G) s pl T' i l a
 | [],_,a,h=>hT a h
 | o :: l,i,a,h=>⟨fun g d w hn hp hC hd K hK=>h.1 (d s) w (fun hb=>⟨fun e=>(by rw [e] at hn;rw [hn] at hb;cases hb),hp hb⟩) hC hd K fun v w' h1 h2 h3=>hK () v w' (by
   show C (d s||s == i) w'
   rw [show (s == i)=(i == s) from vZ s i];exact h1) (fun j u hg=>hR w w' h2 j u hg) h3,fun v=>nY hR hT l (i+1) _ (h.2 v)⟩
theorem vI (m s:Nat) (pl:Nat->Bool) (C:Bool->World->Prop) (R:World->World->Prop) (G:Nat->Value->World->Prop)
  (hm:P.follows .mixedOrders=true) (hB:mL l.toArray m s pl=true) (hs:a.tmps.size=m) (hC:C false {w with drawn:=w.drawn+1}) (hR:∀w w',R w w'->∀j v,G j v w->G j v w') (hs0:∀(i:Nat) (o:Oper),l.toArray[i]?=some o->o.dst=none->∀v w,G i v w->G i undef w)
  (h:cR P l.toArray C R G s pl (fun a'=>∀w',C true w'->(∀j,j<l.toArray.size->G j (eS l.toArray a' j) w')->wpList P l.toArray Q [] a' w') 0 l a):(Code.region id l.toArray true).wp P Q a w:=by
 have c:s<l.toArray.size:=by
  have:=hB;simp only[mL,Bool.and_eq_true,decide_eq_true_eq] at this;exact this.1.2
 refine bU (Γ:=Unit) m s pl (fun _ d w=>C (d s) w) (fun _=>G) () hm hB hs hC (fun i o n b _ v w k=>hs0 i o n b v w k) (nY hR (fun a' g _ d w' b hC f=>g w' (by rw [b s c] at hC;exact hC) f) l 0 a h)
theorem k_ {T:Act->Prop} (hp:pl i=true) (his:(i == s)=false)
  (h1:∀w,C false w->(∀j,Region.waitsFor .any ops i j=true->G j (eS ops a j) w)->∀K:Act->World->Prop,(∀v w',C false w'->R w w'->G i v w'->K (a.put o.dst v) w')->Oper.wp P o a w K fH)
  (h2:∀v,cR P ops C R G s pl T (i+1) l (a.put o.dst v)):cR P ops C R G s pl T i (o :: l) a:=by
 refine ⟨fun b w hb hC hG K hK=>?_,h2⟩
 cases b with
 | true=>rw [(hb rfl).2] at hp;cases hp
 | false=>exact h1 w hC hG K fun v w' h=>hK v w' (by rw [his];exact h)
theorem aL {T:Act->Prop}
  (h1:∀w,C false w->(∀j,Region.waitsFor .any ops s j=true->G j (eS ops a j) w)->∀K:Act->World->Prop,(∀v w',C true w'->R w w'->G s v w'->K (a.put o.dst v) w')->Oper.wp P o a w K fH)
  (h2:∀v,cR P ops C R G s pl T (s+1) l (a.put o.dst v)):cR P ops C R G s pl T s (o :: l) a:=by
 refine ⟨fun b w hb hC hG K hK=>?_,h2⟩
 cases b with
 | true=>exact absurd rfl (hb rfl).1
 | false=>exact h1 w hC hG K fun v w' h=>hK v w' (by simpa using h)
theorem cD {T:Act->Prop} (his:(i == s)=false) (hR:∀w,R w w)
  (h1:∀w,(∀j,Region.waitsFor .any ops i j=true->G j (eS ops a j) w)->∀K:Act->World->Prop,(∀v,G i v w->K (a.put o.dst v) w)->Oper.wp P o a w K fH)
  (h2:∀v,cR P ops C R G s pl T (i+1) l (a.put o.dst v)):cR P ops C R G s pl T i (o :: l) a:=
 ⟨fun b w hb hC hG K hK=>h1 w hG K fun v hv=>hK v w (by rw [his,Bool.or_false];exact hC) (hR w) hv,h2⟩
theorem aY {T:Act->Prop} (h:T a):cR P ops C R G s pl T i [] a:=h
def jV_ (ops:Array Oper) (s:Nat):Bool:=(List.range ops.size).all fun i=>match ops[i]? with | some o=>o.dst.isSome||i == s | none=>true
def uW (ops:Array Oper) (m s:Nat) (pl:Nat->Bool):Bool:=mL ops m s pl&&jV_ ops s
theorem oU {pl:Nat->Bool} (h:uW ops m s pl=true):mL ops m s pl=true/\∀(i:Nat) (o:Oper),ops[i]?=some o->o.dst=none->i=s:=by
 unfold uW at h;rw [Bool.and_eq_true] at h;refine ⟨h.1,fun i o a b=>?_⟩;have:=List.all_eq_true.1 h.2 i (List.mem_range.2 (Array.getElem?_eq_some_iff.1 a).1);rw [a] at this
 simpa [b] using this
theorem mR (m s:Nat) (pl:Nat->Bool) (C:Bool->World->Prop) (R:World->World->Prop) (G:Nat->Value->World->Prop)
  (hm:P.follows .mixedOrders=true) (hB:uW l.toArray m s pl=true) (hs:a.tmps.size=m) (hC:C false {w with drawn:=w.drawn+1}) (hR:∀w w',R w w'->∀j v,G j v w->G j v w') (hs0:∀w,G s undef w)
  (h:cR P l.toArray C R G s pl (fun a'=>∀w',C true w'->(∀j,j<l.toArray.size->G j (eS l.toArray a' j) w')->wpList P l.toArray Q [] a' w') 0 l a):(Code.region id l.toArray true).wp P Q a w:=
 vI m s pl C R G hm (oU hB).1 hs hC hR (fun i o ho hd v w _=>by rw [(oU hB).2 i o ho hd];exact hs0 w) h
def QK (K:Act->World->Prop):Exit->Act->World->Prop
 | .normal,a,w=>K a w
 | _,_,_=>False
theorem aO (hg:o.guard=none) (h:wpList P ops (QK K) [o] a w):o.wp P a w K fH:=by
 have g:¬LetsOut (QK K):=fun ⟨_,_,hf⟩=>hf;unfold wpList at h;have b:Region.wanted o (yielded ops a.tmps)=true:=by simp [Region.wanted,hg]
 rw [if_pos b] at h
 rcases h with h | h
 ·unfold Oper.wp at *;generalize (execOp a.eval o).run P w=r at *
  cases r with
  | ok n w'=>
   cases n <;> simp only[Oper.upon] at h ⊢
   case value u=>exact h
   case skip=>exact h
   case defer x=>exact h
   case enter f args=>
    refine CM h fun e i d=>?_
    cases e with
    | returned u=>exact d
    | panicked c=>exact d.elim
    | outgrown=>exact absurd d g
   case row row args=>exact Rows.mono h fun u i d=>d
  | halt x w'=>cases x <;> simp only[Oper.upon] at h ⊢;exact h.elim
 ·exact absurd h.2 g
theorem cK (hgd:o.guard=none) (ty:TypeId) (x y:Operand) (ho:o.op = .store ty x y)
  (hd:o.dst=none) (cells:Array Value) (hx:a.eval x = P_ g) (hy:a.eval y = .agg cells)
  (t:TypeId) (old:Array Value) (hg:w.heap[g]?=some (.cells old t (0,0))) (hi:(P.info? ty).map (·.size)=some cells.size)
  (hold:old.size=cells.size) (h1:cells.all (·.oneCell')=true) (h:K a (w.setRow g cells)):o.wp P a w K fH:=
 aO (ops:=#[]) hgd (cV hgd ty x y ho hd g cells hx hy t old hg hi hold h1 h)
end
def r_ (S:Nat->Prop) (w w':World):Prop:=w.heap.size<=w'.heap.size/\∀z,S z->z<w.heap.size->w'.heap[z]?=w.heap[z]?
theorem r_.refl (w:World):r_ S w w:=⟨aQ _,fun _ _ _=>rfl⟩
theorem K_:r_ S w w:=r_.refl w
structure SK (S:Nat->Prop) where
 p:Value->World->Prop
 st:∀v w w',r_ S w w'->p v w->p v w'
def SK.eq {S:Nat->Prop} (x:Value):SK S:=⟨fun v _=>v=x,fun _ _ _ _ h=>h⟩
def SK.any {S:Nat->Prop}:SK S:=⟨fun _ _=>True,fun _ _ _ _ h=>h⟩
def GK {S:Nat->Prop} (ls:List (SK S)) (j:Nat) (v:Value) (w:World):Prop:=(ls.getD j SK.any).p v w
theorem GK.keep {ls:List (SK S)} (hr:r_ S w w') (j:Nat) (v:Value) (h:GK ls j v w):GK ls j v w':=(ls.getD j SK.any).st v w w' hr h
def CB (W:World) (D:World->Prop):Bool->World->Prop
 | false,w=>q_ W w
 | true,w=>D w
theorem bG {S:Nat->Prop} (m s:Nat) (pl:Nat->Bool) (D:World->Prop) (ls:List (SK S))
  (hm:P.follows .mixedOrders=true) (hB:uW l.toArray m s pl=true) (hs:a.tmps.size=m) (hs0:∀w,GK ls s undef w)
  (h:cR P l.toArray (CB W D) (r_ S) (GK ls) s pl (fun a'=>∀w',D w'->(∀j,j<l.toArray.size->GK ls j (eS l.toArray a' j) w')->wpList P l.toArray Q [] a' w') 0 l a):(Code.region id l.toArray true).wp P Q a W:=
 mR m s pl (CB W D) (r_ S) (GK ls) hm hB hs (B_.drew) (fun x y hr=>GK.keep hr) hs0 h
end
section
section
variable {P:Program} {ops:Array Oper} {T:Act→Prop} {i:Nat} {o:Oper} {l:List Oper} {a:Act}
theorem qC {C:World→Prop} {R:World→World→Prop} {G:Nat→Value→World→Prop}
  (h2:∀v,fT P ops C R G T (i+1) l (a.put o.dst v))
  (h1:∀w,C w→(∀j,Region.waitsFor .any ops i j=true→G j (eS ops a j) w)→∀K:Act→World→Prop,(∀v w',C w'→R w w'→G i v w'→K (a.put o.dst v) w')→Oper.wp P o a w K fH:=by
   intro xw hC hd K hK
   (try obtain rfl:v0=_:=hd 0 (by decide +kernel))
   (try obtain rfl:v1=_:=hd 1 (by decide +kernel))
   (try obtain rfl:v2=_:=hd 2 (by decide +kernel))
   (try obtain rfl:v3=_:=hd 3 (by decide +kernel))
   (try obtain rfl:v4=_:=hd 4 (by decide +kernel))
   (try obtain rfl:v5=_:=hd 5 (by decide +kernel))
   (try obtain rfl:v6=_:=hd 6 (by decide +kernel))
   (try obtain rfl:v7=_:=hd 7 (by decide +kernel))
   (try obtain rfl:v8=_:=hd 8 (by decide +kernel))
   (try obtain rfl:v9=_:=hd 9 (by decide +kernel))
   (try obtain rfl:v10=_:=hd 10 (by decide +kernel))
   (try obtain rfl:v11=_:=hd 11 (by decide +kernel))
   (try obtain rfl:v12=_:=hd 12 (by decide +kernel))
   (try obtain rfl:v13=_:=hd 13 (by decide +kernel))
   (try obtain rfl:v14=_:=hd 14 (by decide +kernel))
   (try obtain rfl:v15=_:=hd 15 (by decide +kernel))
   (try obtain rfl:v16=_:=hd 16 (by decide +kernel))
   (try obtain rfl:v17=_:=hd 17 (by decide +kernel))
   (try obtain rfl:v18=_:=hd 18 (by decide +kernel))
   (try obtain rfl:v19=_:=hd 19 (by decide +kernel))
   (try obtain rfl:v20=_:=hd 20 (by decide +kernel))
   (try obtain rfl:v21=_:=hd 21 (by decide +kernel))
   (try obtain rfl:v22=_:=hd 22 (by decide +kernel))
   (try obtain rfl:v23=_:=hd 23 (by decide +kernel))
   go_simp
   exact hK _ _ hC (Below.refl _ _) rfl):fT P ops C R G T i (o :: l) a:=⟨h1,h2⟩
theorem qP {C:Bool→World→Prop} {R:World→World→Prop} {G:Nat→Value→World→Prop}
  (h2:∀v,cR P ops C R G s pl T (i+1) l (a.put o.dst v)) (hp:pl i=true:=by rfl) (his:(i == s)=false:=by rfl)
  (h1:∀w,C false w→(∀j,Region.waitsFor .any ops i j=true→G j (eS ops a j) w)→∀K:Act→World→Prop,(∀v w',C false w'→R w w'→G i v w'→K (a.put o.dst v) w')→Oper.wp P o a w K fH:=by
   intro xw hC hd K hK
   (try obtain rfl:v0=_:=hd 0 (by decide +kernel))
   (try obtain rfl:v1=_:=hd 1 (by decide +kernel))
   (try obtain rfl:v2=_:=hd 2 (by decide +kernel))
   (try obtain rfl:v3=_:=hd 3 (by decide +kernel))
   (try obtain rfl:v4=_:=hd 4 (by decide +kernel))
   (try obtain rfl:v5=_:=hd 5 (by decide +kernel))
   (try obtain rfl:v6=_:=hd 6 (by decide +kernel))
   (try obtain rfl:v7=_:=hd 7 (by decide +kernel))
   (try obtain rfl:v8=_:=hd 8 (by decide +kernel))
   (try obtain rfl:v9=_:=hd 9 (by decide +kernel))
   (try obtain rfl:v10=_:=hd 10 (by decide +kernel))
   (try obtain rfl:v11=_:=hd 11 (by decide +kernel))
   (try obtain rfl:v12=_:=hd 12 (by decide +kernel))
   (try obtain rfl:v13=_:=hd 13 (by decide +kernel))
   (try obtain rfl:v14=_:=hd 14 (by decide +kernel))
   (try obtain rfl:v15=_:=hd 15 (by decide +kernel))
   (try obtain rfl:v16=_:=hd 16 (by decide +kernel))
   (try obtain rfl:v17=_:=hd 17 (by decide +kernel))
   (try obtain rfl:v18=_:=hd 18 (by decide +kernel))
   (try obtain rfl:v19=_:=hd 19 (by decide +kernel))
   (try obtain rfl:v20=_:=hd 20 (by decide +kernel))
   (try obtain rfl:v21=_:=hd 21 (by decide +kernel))
   (try obtain rfl:v22=_:=hd 22 (by decide +kernel))
   (try obtain rfl:v23=_:=hd 23 (by decide +kernel))
   go_simp
   exact hK _ _ hC (r_.refl _) rfl):cR P ops C R G s pl T i (o :: l) a:=k_ hp his h1 h2
theorem qE {Γ:Type} {C:Γ→(Nat→Bool)→World→Prop} {G:Γ→Nat→Value→World→Prop}
  (h2:∀v,dC P ops C G s pl T (i+1) l (a.put o.dst v))
  (h1:∀g d w,d i=false→(d s=true→pl i=false)→C g d w→(∀j,Region.waitsFor .any ops i j=true→G g j (eS ops a j) w)→∀K:Act→World→Prop,(∀g' v w',C g' (Y_ d i) w'→(∀j u,G g j u w→G g' j u w')→G g' i v w'→K (a.put o.dst v) w')→Oper.wp P o a w K fH:=by
   intro gg dn xw hdi hpl hC hd K hK
   (try obtain rfl:v0=_:=hd 0 (by decide +kernel))
   (try obtain rfl:v1=_:=hd 1 (by decide +kernel))
   (try obtain rfl:v2=_:=hd 2 (by decide +kernel))
   (try obtain rfl:v3=_:=hd 3 (by decide +kernel))
   (try obtain rfl:v4=_:=hd 4 (by decide +kernel))
   (try obtain rfl:v5=_:=hd 5 (by decide +kernel))
   (try obtain rfl:v6=_:=hd 6 (by decide +kernel))
   (try obtain rfl:v7=_:=hd 7 (by decide +kernel))
   (try obtain rfl:v8=_:=hd 8 (by decide +kernel))
   (try obtain rfl:v9=_:=hd 9 (by decide +kernel))
   (try obtain rfl:v10=_:=hd 10 (by decide +kernel))
   (try obtain rfl:v11=_:=hd 11 (by decide +kernel))
   (try obtain rfl:v12=_:=hd 12 (by decide +kernel))
   (try obtain rfl:v13=_:=hd 13 (by decide +kernel))
   (try obtain rfl:v14=_:=hd 14 (by decide +kernel))
   (try obtain rfl:v15=_:=hd 15 (by decide +kernel))
   (try obtain rfl:v16=_:=hd 16 (by decide +kernel))
   (try obtain rfl:v17=_:=hd 17 (by decide +kernel))
   (try obtain rfl:v18=_:=hd 18 (by decide +kernel))
   (try obtain rfl:v19=_:=hd 19 (by decide +kernel))
   (try obtain rfl:v20=_:=hd 20 (by decide +kernel))
   (try obtain rfl:v21=_:=hd 21 (by decide +kernel))
   (try obtain rfl:v22=_:=hd 22 (by decide +kernel))
   (try obtain rfl:v23=_:=hd 23 (by decide +kernel))
   go_simp
   first
    | exact hK gg _ _ (hC.more (by decide) (by decide)) (fun _ _ h=>h) rfl
    | exact hK gg _ _ (hC.more rfl) (fun _ _ h=>h) rfl
    | exact hK gg _ _ (hC.pure _ rfl rfl rfl) (fun _ _ h=>h) rfl
    | exact hK gg _ _ (hC.more (by decide) (by decide) (Below.refl _ _)) (fun _ _ h=>h) rfl
    | exact hK gg _ _ (hC.more rfl rfl rfl rfl) (fun _ _ h=>h) rfl):dC P ops C G s pl T i (o :: l) a:=⟨h1,h2⟩
end
end
section
theorem jF_ {x n:Int} (h1:1<=n) (h2:n<=9223372036854775807) :
  C_ 15 #[I_ x,I_ n] w fun e w'=>e = .returned (I_ (cS_ x n))/\w=w':=by
 go_enter func15,ntmps15;go_wp2;go_ret;exact ⟨yN (ge_ x n h1 h2),rfl⟩
def gD (w:World) (b:Nat):Prop:=
 ∃(a:Option Addr) (len cap k:Nat),w.heap[b]?=some (.cells #[S_ a len cap,I_ (k:Int)] 76 (0,0))/\k<=len/\len<=maxLen/\
  ∀i,i<len->∃(c o:Nat) (x:Int),a=some ⟨c,o,none⟩/\c<b/\w.cell? ⟨c,o+i,none⟩=some (I_ x)
theorem gD.kept {w w':World} {row:Option Nat} (h:gD w b) (hg:w.grownBy w' row) (hb:some b≠row)
  (hr:∀k,row=some k->∀(a:Option Addr) (len cap:Nat) (k':Int),w.heap[b]?=some (.cells #[S_ a len cap,I_ k'] 76 (0,0))->∀x,a=some x->x.block≠k):gD w' b:=by
 obtain ⟨a,len,cap,k,h1,h2,h3,f⟩:=h;refine ⟨a,len,cap,k,?_,h2,h3,?_⟩
 ·rw [hg.block b (Array.getElem?_eq_some_iff.1 h1).1 hb];exact h1
 ·intro i g;obtain ⟨c,o,x,d,hc,j⟩:=f i g;refine ⟨c,o,x,d,hc,hg.cell j ?_⟩;intro e;exact hr c e.symm a len cap k h1 _ d rfl
theorem eR_ (n:Int) (w:World) (b len cap:Nat) (a:Option Addr)
  (h1:w.cell? ⟨b,0,none⟩=some (S_ a len cap)) (h2:w.cell? ⟨b,1,none⟩=some (I_ (len:Int))) (hm:len<=maxLen) :
  C_ 9 #[P_ b,I_ n] w fun e w'=>e = .returned (I_ 0)/\∃m,w'=w.drewN m:=by
 unfold maxLen at hm;go_enter func9,ntmps9;go_wp2;go_quiet (fail);go_wp2;go_ret;exact ⟨rfl,nq,rfl⟩
theorem c9_ (n:Int) (w:World) (b len cap c o k:Nat) (x:Int) (h1n:1<=n) (h2n:n<=9223372036854775807)
  (h1:w.cell? ⟨b,0,none⟩=some (S_ (some ⟨c,o,none⟩) len cap)) (h2:w.cell? ⟨b,1,none⟩=some (I_ (k:Int))) (hf:w.frozen? ⟨b,1,none⟩=false) (hm:len<=maxLen)
  (hk:k<len) (hx:w.cell? ⟨c,o+k,none⟩=some (I_ x)) (hc:c≠b) :
  C_ 9 #[P_ b,I_ n] w fun e w'=>e = .returned (I_ (cS_ x n))/\∃m,w'=(w.setCell ⟨b,1,none⟩ (I_ (k+1))).drewN m:=by
 unfold maxLen at hm;go_enter func9,ntmps9;go_wp2;have a:i64.wrap ((k:Int)+1 - 1)=(k:Int):=by rw [show (k:Int)+1 - 1=k from by omega];exact IntWalk.i64_in _ O_
 have d:(0:Int)<=(k:Int):=O_
 have f:(k:Int)<(len:Int):=O_
 have g:((k:Int)).toNat=k:=O_
 go_wp2_with fail
 go_quiet (fail)
 go_wp2_with fail
 go_quiet ((go_at_call 15;exact Calls.quiet_of_eq (jF_ h1n h2n)));go_wp2;go_ret;exact ⟨rfl,_,ei_⟩
def kj_ (n:Int) (b:Nat) (w:World) (e:Ending) (w':World):Prop:=∃x,e = .returned (I_ x)/\0<=x/\x<n/\w.grownBy w' (some b)/\gD w' b
theorem iB_ (n:Int) (h1n:1<=n) (h2n:n<=9223372036854775807) (h:gD w b) :
  C_ 9 #[P_ b,I_ n] w (kj_ n b w):=by
 obtain ⟨a,len,cap,k,h1,h2,h3,d⟩:=h;have c0:w.cell? ⟨b,0,none⟩=some (S_ a len cap):=by rw [a_ h1];rfl
 have c1:w.cell? ⟨b,1,none⟩=some (I_ (k:Int)):=by rw [a_ h1];rfl
 by_cases g:k<len
 ·obtain ⟨c,o,x,rfl,hc,t⟩:=d k g;refine (c9_ n w b len cap c o k x h1n h2n c0 c1 (t_ h1 1) h3 g t O_).mono ?_;rintro e w' ⟨rfl,m,rfl⟩;have p:=tW x n h1n;have l:w.grownBy ((w.setCell ⟨b,1,none⟩ (I_ (k+1))).drewN m) (some b):=bF (v_ w ⟨b,1,none⟩ _) (gP _ _ _);refine ⟨_,rfl,p.1,p.2,l,some ⟨c,o,none⟩,len,cap,k+1,?_,g,h3,?_⟩
  ·show (w.setCell ⟨b,1,none⟩ (I_ (k+1))).heap[b]?=_
   simp [World.setCell,Array.getElem?_modify,h1]
  ·intro i s;obtain ⟨q,o',x',r,f,j⟩:=d i s;exact ⟨q,o',x',r,f,l.cell j (by simp;omega)⟩
 ·obtain rfl:k=len:=O_
  refine (eR_ n w b k cap a c0 c1 h3).mono ?_;rintro e w' ⟨rfl,m,rfl⟩;exact ⟨0,rfl,O_,O_,gP _ _ _,a,k,cap,k,h1,aQ _,h3,d⟩
theorem gD.alloc (h:gD w b) (o:Obj):gD (w.alloc o) b:=
 h.kept (gA_ w o none) z_ z_
theorem aO_ {a:Option Addr} {len:Nat} (h:bP_ .i64 w a len cap zs) :
  gD (w.alloc (.cells #[S_ a len cap,I_ 0] 76)) w.heap.size:=by
 refine ⟨a,len,cap,0,?_,Nat.zero_le _,?_,?_⟩
 ·show (w.heap.push _)[w.heap.size]?=_
  simp
 ·rcases h with ⟨_,rfl,_⟩ | ⟨x,_,h1,h2,_⟩
  ·exact Nat.zero_le _
  ·exact dO h1 h2
 ·intro i j
  rcases h with ⟨_,rfl,_⟩ | ⟨x,rfl,h1,h2,h3,h4,h5⟩
  ·omega
  ·obtain ⟨c,o,g⟩:=x;have hc:=h4 i O_;have b:=h4 0 O_;have f:g=none:=by simpa [Addr.add] using World.cell?_spot b
   subst f;have e:(⟨c,o,none⟩:Addr).add i=⟨c,o+i,none⟩:=by
    unfold Addr.add
    split
    ·rename_i h;subst h;rfl
    ·rfl
   rw [e] at hc;have d:=World.block_lt_of_cell? w ⟨c,o+i,none⟩ hc;exact ⟨c,o,zs.getD i 0,rfl,by simpa using d,(gA_ w _ none).cell hc z_⟩
def Tp (W:World) (b:Nat) (w:World):Prop:=gD w b/\q_ W w/\W<=b
theorem Tp.start {a:Option Addr} {len:Nat} (h:bP_ .i64 w a len cap zs) :
  Tp w (w) (w.alloc (.cells #[S_ a len cap,I_ 0] 76)):=
 ⟨aO_ h,B_.alloc (aQ _) _,aQ _⟩
theorem Tp.alloc (h:Tp W b w) (o:Obj):Tp W b (w.alloc o):=⟨h.1.alloc o,h.2.1.alloc h.2.1.size o,h.2.2⟩
theorem Tp.below (h:Tp W b w):q_ W w:=h.2.1
theorem Tp.lt (h:Tp W b w):b<w:=by
 obtain ⟨⟨a,len,cap,k,h1,_⟩,_⟩:=h;exact (Array.getElem?_eq_some_iff.1 h1).1
def jc_ (n:Int) (W:World) (b:Nat) (w:World) (e:Ending) (w':World):Prop:=∃x,e = .returned (I_ x)/\0<=x/\x<n/\Tp W b w'/\w.grownBy w' (some b)
theorem rC (n:Int) (h1n:1<=n) (h2n:n<=9223372036854775807) (h:Tp W b w) :
  C_ 9 #[P_ b,I_ n] w (jc_ n W b w):=by
 refine (iB_ n h1n h2n h.1).mono ?_;rintro e w' ⟨x,rfl,h0,h1,hg,ht⟩;exact ⟨x,rfl,h0,h1,⟨ht,h.2.1.grown hg h.2.1.size (by intro k hk;have h2:=h.2.2;simp at hk;omega),h.2.2⟩,hg⟩
theorem Tp.step (h:Tp W b w) (hb:q_ w w'):Tp W b w':=by
 have hg:w.grownBy w' none:=⟨hb.os,hb.tape,hb.output,hb.size,fun k hk _=>hb.block k hk⟩;refine ⟨h.1.kept hg z_ z_,h.2.1.trans (hb.mono h.2.1.size),h.2.2⟩
theorem Tp.drew (h:Tp W b w):Tp W b w.drew:=⟨h.1,h.2.1.drew,h.2.2⟩
theorem gD.set (h:gD w b) (p:Addr) (v:Value) (hp:b<p.block):gD (w.setCell p v) b:=by
 have d:=v_ w p v;obtain ⟨a,len,cap,k,h1,h2,h3,f⟩:=h;refine ⟨a,len,cap,k,?_,h2,h3,?_⟩
 ·rw [d.block b (Array.getElem?_eq_some_iff.1 h1).1 (by simp;omega)];exact h1
 ·intro i j;obtain ⟨c,o,x,g,hc,l⟩:=f i j;exact ⟨c,o,x,g,hc,d.cell l (by simp;omega)⟩
theorem Tp.set (h:Tp W b w) (p:Addr) (v:Value) (hp:b<p.block):Tp W b (w.setCell p v):=
 ⟨h.1.set p v hp,h.2.1.setCell (dO h.2.2 (Nat.le_of_lt hp)) v,h.2.2⟩
end
section
theorem iO {o:Obj} (hg:w.grownBy w' (some b)) (hn:g≠b) (h:w.heap[g]?=some o):w'.heap[g]?=some o:=
 (hg.block _ (Array.getElem?_eq_some_iff.1 h).1 (by simpa using hn)).trans h
theorem bV (hb:q_ w w') (row:Option Nat):w.grownBy w' row:=⟨hb.os,hb.tape,hb.output,hb.size,fun k hk _=>hb.block k hk⟩
structure TQ (b:Nat) where
 p:Value->World->Prop
 st:∀v w w',w.grownBy w' (some b)->p v w->p v w'
def TQ.any {b:Nat}:TQ b:=⟨fun _ _=>True,fun _ _ _ _ h=>h⟩
def TQ.eq {b:Nat} (x:Value):TQ b:=⟨fun v _=>v=x,fun _ _ _ _ h=>h⟩
def TQ.int {b:Nat} (lo hi:Int):TQ b:=⟨fun v _=>∃y:Int,v = I_ y/\lo<=y/\y<hi,fun _ _ _ _ h=>h⟩
def j1_ (l:List Int) (t:TypeId):Obj:= .cells (l.map (Value.int i64)).toArray t (0,0)
def TQ.row {b:Nat} (l:List Int) (t:TypeId):TQ b:=⟨fun v w=>∃g,v = S_ (some ⟨g,0,none⟩) l.length l.length/\g≠b/\w.heap[g]?=some (j1_ l t),fun _ _ _ hg ⟨g,h1,h2,h3⟩=>⟨g,h1,h2,iO hg h2 h3⟩⟩
def TQ.at_ {b:Nat} (l:List Int) (t:TypeId):TQ b:=⟨fun v w=>∃g i:Nat,v = .pointer (some ⟨g,i,none⟩)/\i<l.length/\g≠b/\w.heap[g]?=some (j1_ l t),fun _ _ _ hg ⟨g,i,h1,h2,h3,h4⟩=>⟨g,i,h1,h2,h3,iO hg h3 h4⟩⟩
def TQ.box {b:Nat} (B:Nat) (o:Obj):TQ b:=⟨fun v w=>∃g,v = P_ g/\g≠b/\B<=g/\w.heap[g]?=some o,fun _ _ _ hg ⟨g,h1,h2,h0,h3⟩=>⟨g,h1,h2,h0,iO hg h2 h3⟩⟩
theorem gE (w:World) (g:Nat) (cs:Array Value):w.grownBy (w.setRow g cs) (some g):=
 ⟨rfl,rfl,rfl,by simp [World.setRow],fun k _ hk=>setRow_other w g k cs fun e=>hk (by rw [e])⟩
theorem Tp.gb (h:Tp W b w) (hg:w.grownBy w' (some g)) (hb:b<g):Tp W b w':=by
 refine ⟨?_,h.2.1.grown hg h.2.1.size (fun k l=>by have:=h.2.2;injection l;omega),h.2.2⟩;obtain ⟨a,len,cap,k,h1,h2,h3,d⟩:=h.1;refine ⟨a,len,cap,k,?_,h2,h3,?_⟩
 ·rw [hg.block b (Array.getElem?_eq_some_iff.1 h1).1 (by simp;omega)];exact h1
 ·intro i j;obtain ⟨c,o,x,f,hc,m⟩:=d i j;exact ⟨c,o,x,f,hc,hg.cell m (by simp;omega)⟩
theorem Tp.gb' (h:Tp W b w) (hg:w.grownBy w' r) (hr:∀k,r=some k->b<k):Tp W b w':=by
 cases r with
 | none=>exact h.step ⟨hg.os,hg.tape,hg.output,hg.size,fun z hz=>hg.block z hz z_⟩
 | some k=>exact h.gb hg (hr k rfl)
def GT {b:Nat} (ls:List (TQ b)) (j:Nat) (v:Value) (w:World):Prop:=(ls.getD j TQ.any).p v w
theorem GT.keep {ls:List (TQ b)} (hr:w.grownBy w' (some b)) (j:Nat) (v:Value) (h:GT ls j v w):GT ls j v w':=(ls.getD j TQ.any).st v w w' hr h
def CT (W:World) (b:Nat) (w0 x:World):Prop:=Tp W b x/\w0.grownBy x (some b)
theorem CT.alloc {x:World} (h:CT W b w0 x) (o:Obj):CT W b w0 (x.alloc o):=⟨h.1.alloc o,bF h.2 (gA_ _ _ _)⟩
theorem CT.step {x:World} (h:CT W b w0 x) (hb:q_ x y):CT W b w0 y:=⟨h.1.step hb,bF h.2 (bV hb _)⟩
theorem CT.drew {x:World} (h:CT W b w0 x) (hT:Tp W b y) (hg:x.grownBy y (some b)):CT W b w0 y:=⟨hT,bF h.2 hg⟩
end
section
theorem r_.trans {a b c:World} (h:r_ S a b) (g:r_ S b c):r_ S a c:=
 ⟨dO h.1 g.1,fun z hz hl=>(g.2 z hz (iS hl h.1)).trans (h.2 z hz hl)⟩
theorem r_.of_below (hb:q_ w w'):r_ S w w':=⟨hb.size,fun z _ h=>hb.block z h⟩
theorem r_.of_gb (hg:w.grownBy w' r) (hr:∀k,r=some k->¬S k):r_ S w w':=
 ⟨hg.size,fun z hz h=>hg.block z h fun e=>hr z e.symm hz⟩
theorem gW (g:Nat):∀(vs:List Value) (o:Nat) (w:World) (z:Nat),z≠g->(w.setCells g o vs).heap[z]?=w.heap[z]?
 | [],_,_,_,_=>rfl
 | v :: vs,o,w,z,hz=>by
  rw [World.setCells,gW g vs (o+1) _ z hz];exact jO w ⟨g,o,none⟩ v z hz
theorem cM (g:Nat):∀(vs:List Value) (o:Nat) (w:World),(w.setCells g o vs).heap.size=w.heap.size
 | [],_,_=>rfl
 | v :: vs,o,w=>by rw [World.setCells,cM g vs];simp [World.setCell]
theorem r_.of_setCells (w:World) (g o:Nat) (vs:List Value) (hg:¬S g):r_ S w (w.setCells g o vs):=
 ⟨Nat.le_of_eq (cM g vs o w).symm,fun z hz _=>gW g vs o w z (fun e=>hg (e ▸ hz))⟩
theorem r_.of_setCell (w:World) (p:Addr) (v:Value) (hg:¬S p.block):r_ S w (w.setCell p v):=
 ⟨by simp [World.setCell],fun z hz _=>jO w p v z fun e=>hg (e ▸ hz)⟩
theorem r_.of_setRow {S:Nat->Prop} (w:World) (X:Nat) (cs:Array Value) (h:¬S X):r_ S w (w.setRow X cs):=
 ⟨Nat.le_of_eq (by simp [World.setRow]),fun z b _=>by
  show (w.setRow X cs).heap[z]?=_
  have a:z≠X:=fun e=>h (e ▸ b);simp only[World.setRow,Array.getElem?_modify];rw [if_neg (fun e=>a e.symm)]⟩
theorem r_.of_alloc (w:World) (o:Obj):r_ S w (w.alloc o):=r_.of_below (B_.alloc (aQ _) _)
theorem uE:∀(rows:List (List Value)),(∀r ∈ rows,r.length=k)->∀(i:Nat) (r:List Value) (j:Nat) (u:Value),rows[i]?=some r->r[j]?=some u->rows.flatten[i*k+j]?=some u
 | [],_,i,r,j,u,hi,_=>by simp at hi
 | x :: rows,h,0,r,j,u,hi,hj=>by
  have hx:x=r:=by simpa using hi
  subst hx;rw [Nat.zero_mul,Nat.zero_add,List.flatten_cons,gL_ ((bK hj))];exact hj
 | x :: rows,h,i+1,r,j,u,hi,hj=>by
  have hx:x.length=k:=h x (List.mem_cons_self ..);rw [List.flatten_cons,List.getElem?_append_right (by rw [hx,Nat.succ_mul];omega)];rw [show (i+1)*k+j - x.length=i*k+j by rw [hx,Nat.succ_mul];omega];exact uE rows (fun r a=>h r (List.mem_cons_of_mem _ a)) i r j u (by simpa using hi) hj
theorem yA:∀(rows:List (List Value)),(∀r ∈ rows,r.length=k)->∀(n:Nat) (u:Value),rows.flatten[n]?=some u->∃(i:Nat) (r:List Value) (j:Nat),rows[i]?=some r/\r[j]?=some u/\n=i*k+j
 | [],_,n,u,hn=>by simp at hn
 | x :: rows,h,n,u,hn=>by
  have hx:x.length=k:=h x (List.mem_cons_self ..)
  by_cases a:n<x.length
  ·rw [List.flatten_cons,gL_ a] at hn;exact ⟨0,x,n,rfl,hn,O_⟩
  ·rw [List.flatten_cons,List.getElem?_append_right O_] at hn;obtain ⟨i,r,j,h1,h2,h3⟩:=yA rows (fun r b=>h r (List.mem_cons_of_mem _ b)) _ u hn;exact ⟨i+1,r,j,by simpa using h1,h2,by rw [Nat.succ_mul];omega⟩
theorem jY:∀(rows:List (List Value)),(∀r ∈ rows,r.length=k)->rows.flatten.length=rows.length*k
 | [],_=>by simp
 | x :: rows,h=>by
  rw [List.flatten_cons,aL_,h x (List.mem_cons_self ..),jY rows (fun r hr=>h r (List.mem_cons_of_mem _ hr)),cL_,Nat.succ_mul];omega
def vJ (k:Nat) (rows:List (List Value)):Prop:=∀r ∈ rows,r.length=k/\∀u ∈ r,u.oneCell'=true
theorem vJ.len (h:vJ k rows):∀r ∈ rows,r.length=k:=fun r hr=>(h r hr).1
theorem vJ.one (h:vJ k rows):∀u ∈ rows.flatten,u.oneCell'=true:=fun u hu=>by
 obtain ⟨r,hr,hu⟩:=List.mem_flatten.1 hu;exact (h r hr).2 u hu
theorem vJ.map {α:Type} {f:α->List Value} (hf:∀a,(f a).length=k/\∀u ∈ f a,u.oneCell'=true) (l:List α):vJ k (l.map f):=fun r hr=>by
 obtain ⟨a,_,rfl⟩:=List.mem_map.1 hr;exact hf a
theorem vJ.nil:vJ k []:=fun r hr=>by simp at hr
theorem vJ.sub {l l':List (List Value)} (h:vJ k l) (hs:∀r ∈ l',r ∈ l):vJ k l':=fun r hr=>h r (hs r hr)
theorem vJ.set {l:List (List Value)} (h:vJ k l) {i:Nat} {r:List Value} (hr:r.length=k/\∀u ∈ r,u.oneCell'=true):vJ k (l.set i r):=fun x hx=>by
 rcases List.mem_or_eq_of_mem_set hx with hx | rfl
 ·exact h x hx
 ·exact hr
def RW (k:Nat) (w:World) (S:Nat->Prop) (v:Value) (rows:List (List Value)):Prop:=
 ∃A cap,v = S_ A rows.length cap/\rows.length<=cap/\cap<=maxLen/\vJ k rows/\
  (rows=[]\/∃b o,A=some ⟨b,o,none⟩/\b<w.heap.size/\S b/\∀(i:Nat) (r:List Value) (j:Nat) (u:Value),rows[i]?=some r->r[j]?=some u->w.cell? ⟨b,o+i*k+j,none⟩=some u)
theorem c_ {o:Nat} (h:w'.heap[b]?=w.heap[b]?):w'.cell? ⟨b,o,none⟩=w.cell? ⟨b,o,none⟩:=World.cell?_of_block (a:=⟨b,o,none⟩) h
theorem RW.kept {w w':World} (h:RW k w S v rows) (hk:r_ S w w'):RW k w' S v rows:=by
 obtain ⟨A,cap,e,h1,h2,h3,a⟩:=h;refine ⟨A,cap,e,h1,h2,h3,?_⟩
 rcases a with a | ⟨b,o,e1,hb,hS,hc⟩
 ·exact .inl a
 ·exact .inr ⟨b,o,e1,iS hb hk.1,hS,fun i r j u c d=>(c_ (hk.2 b hS hb)).trans (hc i r j u c d)⟩
theorem RW.step (h:RW k w S v rows) (hb:q_ w w'):RW k w' S v rows:=h.kept (r_.of_below hb)
theorem RW.alloc (h:RW k w S v rows) (o:Obj):RW k (w.alloc o) S v rows:=h.kept (r_.of_alloc w o)
theorem RW.weak {S S':Nat->Prop} (h:RW k w S v rows) (hS:∀b,b<w.heap.size->S b->S' b):RW k w S' v rows:=by
 obtain ⟨A,cap,e,h1,h2,h3,h4⟩:=h;refine ⟨A,cap,e,h1,h2,h3,?_⟩
 rcases h4 with h4 | ⟨b,o,e1,hb,hs,hc⟩
 ·exact .inl h4
 ·exact .inr ⟨b,o,e1,hb,hS b hb hs,hc⟩
theorem RW.nil (k:Nat) (w:World) (S:Nat->Prop):RW k w S (S_ none 0 0) []:=⟨none,0,rfl,z_,by unfold maxLen;omega,vJ.nil,.inl rfl⟩
theorem RW.form (h:RW k w S v rows):∃A cap,v = S_ A rows.length cap/\rows.length<=cap/\cap<=maxLen:=by
 obtain ⟨A,cap,e,h1,h2,_⟩:=h;exact ⟨A,cap,e,h1,h2⟩
theorem RW.at_ (h:RW k w S v rows) {i:Nat} (hi:i<rows.length):∃b o cap,v = S_ (some ⟨b,o,none⟩) rows.length cap/\rows.length<=cap/\cap<=maxLen/\b<w.heap.size/\S b/\
  ∀(i:Nat) (r:List Value) (j:Nat) (u:Value),rows[i]?=some r->r[j]?=some u->w.cell? ⟨b,o+i*k+j,none⟩=some u:=by
 obtain ⟨A,cap,e,h1,h2,h3,h4⟩:=h
 rcases h4 with h4 | ⟨b,o,e1,hb,hS,hc⟩
 ·subst h4;simp at hi
 ·subst e1;exact ⟨b,o,cap,e,h1,h2,hb,hS,hc⟩
theorem RW.of_own {S:Nat->Prop} (h:w.ownsRow base t k v rows.length rows.flatten) (hs:vJ k rows) (hS:∀b,v.ownBlock=some b->S b):RW k w S v rows:=by
 rcases h.2 with ⟨h1,h2⟩ | ⟨g,cap,cur,h1,h2,h3,h4,h5,h6,h7⟩
 ·exact ⟨none,0,by rw [h1,h2],O_,by unfold maxLen;omega,hs,.inl (List.eq_nil_of_length_eq_zero h2)⟩
 ·refine ⟨_,cap,h1,h4,h5,hs,.inr ⟨g,0,rfl,p_ h3,hS g (by rw [h1];rfl),fun i r j u a c=>?_⟩⟩;have hf:=uE rows hs.len i r j u a c;rw [<-h7,List.getElem?_take] at hf
  split at hf
  ·rw [Nat.zero_add]
   simpa [World.cell?,h3] using hf
  ·cases hf
def WR (k:Nat) (w:World) (g:Nat) (rows:List (List Value)):Prop:=
 w.there g 0 (rows.length*k)/\g<w/\vJ k rows/\∀(i:Nat) (r:List Value) (j:Nat) (u:Value),rows[i]?=some r->r[j]?=some u->w.cell? ⟨g,i*k+j,none⟩=some u
theorem WR.of_own (h:w.ownsRow base t k v rows.length rows.flatten) (hs:vJ k rows) (h0:0<rows.length):∃g cap,v = S_ (some ⟨g,0,none⟩) rows.length cap/\rows.length<=cap/\cap<=maxLen/\base<=g/\WR k w g rows:=by
 rcases h.2 with ⟨h1,h2⟩ | ⟨g,cap,cur,h1,h2,h3,h4,h5,h6,h7⟩
 ·omega
 ·have b:rows.length*k<=cap*k:=Nat.mul_le_mul_right _ h4;refine ⟨g,cap,h1,h4,h5,h2,fun j a=>?_,p_ h3,hs,fun i r j u c a=>?_⟩
  ·rw [Nat.zero_add,a_ h3,t_ h3];exact ⟨by rw [Array.getElem?_eq_getElem O_];rfl,rfl⟩
  ·have hf:=uE rows hs.len i r j u c a;rw [<-h7,List.getElem?_take] at hf
   split at hf
   ·simpa [World.cell?,h3] using hf
   ·cases hf
theorem WR.rw (h:WR k w g rows) (hg:S g) (h1:rows.length<=cap) (h2:cap<=maxLen):RW k w S (S_ (some ⟨g,0,none⟩) rows.length cap) rows:=
 ⟨_,cap,rfl,h1,h2,h.2.2.1,.inr ⟨g,0,rfl,h.2.1,hg,fun i r j u hi hj=>by rw [Nat.zero_add];exact h.2.2.2 i r j u hi hj⟩⟩
theorem WR.block (h:WR k w g rows) (hb:w'.heap[g]?=w.heap[g]?) (hs:w.heap.size<=w'.heap.size):WR k w' g rows:=by
 obtain ⟨h1,h2,h3,d⟩:=h;refine ⟨fun j c=>?_,O_,h3,fun i r j u f c=>(c_ hb).trans (d i r j u f c)⟩;obtain ⟨a,b⟩:=h1 j c;exact ⟨by rw [c_ hb];exact a,by rw [World.frozen?_of_block (a:=⟨g,0+j,none⟩) hb];exact b⟩
theorem WR.step (h:WR k w g rows) (hb:q_ w w'):WR k w' g rows:=h.block (hb.block g h.2.1) hb.size
theorem WR.alloc (h:WR k w g rows) (o:Obj):WR k (w.alloc o) g rows:=h.step (B_.alloc (aQ _) _)
theorem WR.kept {w w':World} (h:WR k w g rows) (hk:r_ S w w') (hS:S g):WR k w' g rows:=h.block (hk.2 g hS h.2.1) hk.1
theorem WR.setPart (h:WR k w g rows) {i p:Nat} {r vs r':List Value} (hi:rows[i]?=some r) (hp:p+vs.length<=k) (hr':r'=r.take p ++ vs ++ r.drop (p+vs.length)) (h1:∀u ∈ vs,u.oneCell'=true) :
  WR k (w.setCells g (i*k+p) vs) g (rows.set i r'):=by
 obtain ⟨a1,a2,a3,a4⟩:=h;have m:=bK hi;have D:r.length=k:=a3.len r (fF hi);have n:r'.length=k:=by rw [hr'];simp;omega
 have B:i*k+k<=rows.length*k:=by rw [<-Nat.succ_mul];exact Nat.mul_le_mul_right _ m
 have t:w.there g (i*k+p) vs.length:=fun j c=>by
  have:=a1 (i*k+p+j) O_;rw [Nat.zero_add] at this;exact this
 have l:=World.rangeAt_setCells_same w g (i*k+p) vs t;refine ⟨by rw [lL];exact World.there_setCells a1 _ _ _,by rw [cM];exact a2,a3.set ⟨n,fun u f=>?_⟩,fun b x j u a c=>?_⟩
 ·rw [hr'] at f;have y:=(a3 r (fF hi)).2
  rcases List.mem_append.1 f with f | f
  ·rcases List.mem_append.1 f with f | f
   ·exact y u (List.mem_of_mem_take f)
   ·exact h1 u f
  ·exact y u (List.mem_of_mem_drop f)
 ·by_cases o:b=i
  ·subst o;rw [nU m] at a;injection a with a
   subst a;have s:j<k:=by have:=bK c;omega
   rw [hr'] at c
   by_cases q:j<p
   ·rw [List.append_assoc,gL_ (by rw [List.length_take];omega),List.getElem?_take,if_pos q] at c;have:=World.rangeAt_setCells_apart (w:=w) (b':=g) (o':=b*k+j) (cs:=[u]) (fun z v d=>by
     match z with
     | 0=>simp at d;rw [<-d];exact a4 b r j u hi c
     | z+1=>simp at d) g (b*k+p) vs (.inr (.inl (by simp;omega)))
    exact this 0 u rfl
   ·by_cases C:j<p+vs.length
    ·rw [List.append_assoc,List.getElem?_append_right (by rw [List.length_take];omega),gL_ (by rw [List.length_take];omega)] at c;have:=l _ _ c;rw [show b*k+p+(j - (r.take p).length)=b*k+j by rw [List.length_take];omega] at this;exact this
    ·rw [List.getElem?_append_right (by simp;omega),List.getElem?_drop] at c;rw [show p+vs.length+(j - (r.take p ++ vs).length)=j by simp;omega] at c;have:=World.rangeAt_setCells_apart (w:=w) (b':=g) (o':=b*k+j) (cs:=[u]) (fun z v d=>by
      match z with
      | 0=>simp at d;rw [<-d];exact a4 b r j u hi c
      | z+1=>simp at d) g (b*k+p) vs (.inr (.inr O_))
     exact this 0 u rfl
  ·rw [gN_ (fun e=>o e.symm)] at a;have s:j<k:=by have:=bK c;have:=a3.len x (fF a);omega
   have A:b*k+1+j<=i*k+p\/i*k+p+vs.length<=b*k+j:=by
    rcases Nat.lt_or_gt_of_ne o with hlt | yX
    ·left
     have:(b+1)*k<=i*k:=Nat.mul_le_mul_right _ hlt;rw [Nat.succ_mul] at this;omega
    ·right
     have:(i+1)*k<=b*k:=Nat.mul_le_mul_right _ yX;rw [Nat.succ_mul] at this;omega
   have:=World.rangeAt_setCells_apart (w:=w) (b':=g) (o':=b*k+j) (cs:=[u]) (fun z v d=>by
    match z with
    | 0=>simp at d;rw [<-d];exact a4 b x j u a c
    | z+1=>simp at d) g (i*k+p) vs (.inr (by simp;omega))
   exact this 0 u rfl
theorem WR.setRow (h:WR k w g rows) {vs:List Value} (hi:i<rows.length) (hv:vs.length=k) (h1:∀u ∈ vs,u.oneCell'=true):WR k (w.setCells g (i*k) vs) g (rows.set i vs):=by
 have a:(rows[i]).length=k:=h.2.2.1.len _ (gM_ hi);have:=h.setPart (i:=i) (p:=0) (r:=rows[i]) (vs:=vs) (r':=vs) (cU hi) O_ (by rw [List.take_zero,List.nil_append,Nat.zero_add,hv,<-a,List.drop_length,List.append_nil]) h1;exact this
theorem WR.there_ (h:WR k w g rows) {p:Nat} (hi:i<rows.length) (hp:p+n<=k):w.there g (i*k+p) n:=fun j hj=>by
 have hik:i*k+k<=rows.length*k:=by rw [<-Nat.succ_mul];exact Nat.mul_le_mul_right _ hi
 have:=h.1 (i*k+p+j) O_;rw [Nat.zero_add] at this;exact this
theorem zM {P:Program} (t ty e:TypeId) (i:TypeInfo) (ht:P.underlying t=some (.slice e)) (hi:P.info? e=some i) (B:Option Addr) (c:Nat) (w:World) :
  (Builtin.append_ #[t,t] ty #[S_ none 0 0,S_ B 0 c]).run P w = .ok (S_ none 0 0) w:=by
 cases B <;> simp [Builtin.append_,storeCells,run_underlying ht,sizeOf,typeInfo,hi,Builtin.lenOf,Builtin.firstCells,loadCells,loadCellsFrom]
theorem rK {rest:List Oper}
  (hg:o.guard=none) (s x:Operand) (t:TypeId) (hop:o.op=Op.call {callee:=Callee.builtin Builtin.append,args:=#[s,x],argTypes:=#[t,t]})
  (e:TypeId) (i:TypeInfo) (z:Value)(bytes:Nat) (h1:P.underlying t=some (.slice e)) (h2:P.info? e=some i) (h3:i.zero=some z) (h4:i.size=k) (h5:i.bytes=bytes) (h6:z.cells.size=k) (h7:0<k)
  (hs:a.eval s = S_ none 0 0) (hx:a.eval x=v) (hR:RW k w S v rows) (hb:bytes<=1000) (hn:rows.length<=1000000)
  (hK:∀v' w',w'.ownsRow (w) e k v' rows.length rows.flatten->w.grownBy w' none->wpList P ops Q rest (a.put o.dst v') w'):wpList P ops Q (o :: rest) a w:=by
 obtain ⟨A,cap,hv,q,y,d,hc⟩:=hR
 by_cases h0:rows=[]
 ·subst h0;refine wpList_plain hg fun K g=>?_;have f:=zM (P:=P) t o.type e i h1 h2 A cap w;unfold Oper.wp execOp;simp only[hop,resolve,invoke,builtin,Sem.run_bind,Sem.run_pure,Result.andThen_ok,List.map_toArray,List.map_cons,List.map_nil,hs,hx,hv,List.length_nil,f];exact g _ _ (hK _ _ (World.ownsRow_nil _ _ _ _) (World.grownBy.refl _ _))
 ·rcases hc with hc | ⟨b,o',e1,hb',hS,hc⟩
  ·exact absurd hc h0
  ·subst e1;have p:0<rows.length:=List.length_pos_iff.2 h0;refine wpList_append_grows w hg s x t hop e i z k bytes h1 h2 h3 h4 h5 h6 h7 none 0 0 [] hs (fun _=>⟨rfl,rfl⟩) z_ (fun b hb=>by cases hb) ⟨b,o',none⟩ rows.length cap rows.flatten (hx.trans hv) (jY rows d.len) (fun j u B=>?_) d.one O_ (by unfold maxLen;omega) ?_ (fun v' w' c l=>?_)
   ·obtain ⟨C,r,D,m,n,rfl⟩:=yA rows d.len j u B;rw [Addr.add_mid,<-Nat.add_assoc];exact hc C r D u m n
   ·have:(0+rows.length)*bytes<=1000000*1000:=Nat.mul_le_mul O_ hb;omega
   ·rw [Nat.zero_add,List.nil_append] at c;exact hK v' w' c l
end
section
inductive T where
 | mk (kids:List T) (v m:Int)
def T.kids:T->List T | .mk ks _ _=>ks
def T.val:T->Int | .mk _ v _=>v
def T.marks:T->Int | .mk _ _ m=>m
def T.nil:T:= .mk [] 0 0
def rP (n:Nat) (v m:Int):Bool:=decide (n=0)&&(decide (v=0)&&decide (m=0))
def T.emB (t:T):Bool:=rP t.kids.length t.val t.marks
def wJ (n:Nat) (v m:Int):Bool:=decide (n=0/\v≠0/\0<=m/\m<=7/\(0<v\/m=0))
def T.lfB (t:T):Bool:=wJ t.kids.length t.val t.marks
abbrev lG (A:Option Addr) (n cap:Nat) (v m:Int):Value:= .agg #[S_ A n cap,I_ v,I_ m]
def NC (w:World) (b o:Nat) (A:Option Addr) (n cap:Nat) (v m:Int):Prop:=
 w.cell? ⟨b,o,none⟩=some (S_ A n cap)/\w.cell? ⟨b,o+1,none⟩=some (I_ v)/\w.cell? ⟨b,o+2,none⟩=some (I_ m)
inductive NK (w:World) (S:Nat->Prop):Option Addr->List T->Prop
 | nil (A:Option Addr):NK w S A []
 | mk (b o:Nat) (ks:List T) (A:Nat->Option Addr) (cap:Nat->Nat) (hb:S b) (hlt:b<w)
   (hc:∀i k,ks[i]?=some k->NC w b (o+i*3) (A i) k.kids.length (cap i) k.val k.marks) (hl:∀i k,ks[i]?=some k->k.kids.length<=maxLen/\k.kids.length<=cap i)
   (hk:∀i k,ks[i]?=some k->NK w S (A i) k.kids):NK w S (some ⟨b,o,none⟩) ks
theorem NC.block {o:Nat} {v m:Int} (h:NC w b o A n cap v m) (hb:w'.heap[b]?=w.heap[b]?):NC w' b o A n cap v m:=by
 obtain ⟨h1,h2,h3⟩:=h;exact ⟨(World.cell?_of_block (a:=⟨b,_,none⟩) hb).trans h1,(World.cell?_of_block (a:=⟨b,_,none⟩) hb).trans h2,(World.cell?_of_block (a:=⟨b,_,none⟩) hb).trans h3⟩
theorem NK.kept {w w':World} {ks:List T} (h:NK w S A ks) (hs:w.heap.size<=w'.heap.size) (hb:∀b,S b->b<w.heap.size->w'.heap[b]?=w.heap[b]?):NK w' S A ks:=by
 induction h with
 | nil A=>exact .nil A
 | mk b o ks A cap hS hlt hc hl hk ih=>exact .mk b o ks A cap hS O_ (fun i k hi=>(hc i k hi).block (hb b hS hlt)) hl ih
theorem NK.step {ks:List T} (h:NK w S A ks) (hb:q_ w w'):NK w' S A ks:=h.kept hb.size (fun b _ hlt=>hb.block b hlt)
theorem NK.alloc {ks:List T} (h:NK w S A ks) (o:Obj):NK (w.alloc o) S A ks:=h.step (B_.alloc (aQ _) _)
theorem NK.weak {S S':Nat->Prop} {ks:List T} (h:NK w S A ks) (hs:∀b,b<w.heap.size->S b->S' b):NK w S' A ks:=by
 induction h with
 | nil A=>exact .nil A
 | mk b o ks A cap hS hlt hc hl hk ih=>exact .mk b o ks A cap (hs b hlt hS) hlt hc hl ih
theorem NK.at_ {ks:List T} (h:NK w S A ks) {i:Nat} (hi:i<ks.length):∃b o k A' cap,A=some ⟨b,o,none⟩/\S b/\b<w.heap.size/\ks[i]?=some k/\
  NC w b (o+i*3) A' k.kids.length cap k.val k.marks/\k.kids.length<=maxLen/\k.kids.length<=cap/\NK w S A' k.kids:=by
 cases h with
 | nil A=>simp at hi
 | mk b o ks A cap hS hlt hc hl hk=>
  have he:ks[i]?=some ks[i]:=cU hi;exact ⟨b,o,_,_,_,rfl,hS,hlt,he,hc i _ he,(hl i _ he).1,(hl i _ he).2,hk i _ he⟩
def NV (w:World) (S:Nat->Prop) (x:Value) (t:T):Prop:=∃A cap,x=lG A t.kids.length cap t.val t.marks/\t.kids.length<=maxLen/\t.kids.length<=cap/\NK w S A t.kids
theorem NV.step {t:T} (h:NV w S x t) (hb:q_ w w'):NV w' S x t:=by
 obtain ⟨A,cap,e,h1,h2,h⟩:=h;exact ⟨A,cap,e,h1,h2,h.step hb⟩
theorem NV.kept {w w':World} {t:T} (h:NV w S x t) (hs:w.heap.size<=w'.heap.size) (hb:∀b,S b->b<w.heap.size->w'.heap[b]?=w.heap[b]?):NV w' S x t:=by
 obtain ⟨A,cap,e,h1,h2,h⟩:=h;exact ⟨A,cap,e,h1,h2,h.kept hs hb⟩
theorem NV.weak {S S':Nat->Prop} {t:T} (h:NV w S x t) (hs:∀b,b<w.heap.size->S b->S' b):NV w S' x t:=by
 obtain ⟨A,cap,e,h1,h2,h⟩:=h;exact ⟨A,cap,e,h1,h2,h.weak hs⟩
theorem NV.alloc {t:T} (h:NV w S x t) (o:Obj):NV (w.alloc o) S x t:=h.step (B_.alloc (aQ _) _)
def gL (_:Nat):Prop:=True
theorem NV.any {t:T} (h:NV w S x t):NV w gL x t:=h.weak fun _ _ _=>trivial
section
theorem fK (A:Option Addr) (n cap:Nat) (v m:Int) (w:World):C_ 217 #[lG A n cap v m] w (cP (rP n v m) w):=by
  have a:=H_ ((aI (w) w).alloc (aQ _) (.cells #[S_ A n cap,I_ v,I_ m] 56));unfold rP
  rcases n with _ | n
  ·by_cases h1:v=0
   ·subst h1
    by_cases h2:m=0
    ·subst h2;go_enter func217,ntmps217;go_wp2;go_ret;exact ⟨z_,a.out⟩
    ·have b:decide (m=0)=false:=dF h2;go_enter func217,ntmps217;go_wp2;go_ret;exact ⟨by simp [h2],a.out⟩
   ·have b:decide (v=0)=false:=dF h1;go_enter func217,ntmps217;go_wp2;go_ret;exact ⟨by simp [h1],a.out⟩
  ·have h0:((n:Int)+1=0)=False:=by simp;omega
   go_enter func217,ntmps217;go_wp2;go_ret;exact ⟨z_,a.out⟩
theorem mK (A:Option Addr) (n cap:Nat) (v m:Int) (w:World):C_ 204 #[lG A n cap v m] w (cP (rP n v m) w):=by
  have a:=H_ ((aI (w) w).alloc (aQ _) (.cells #[S_ A n cap,I_ v,I_ m] 56));unfold rP
  rcases n with _ | n
  ·by_cases h1:v=0
   ·subst h1
    by_cases h2:m=0
    ·subst h2;go_enter func204,ntmps204;go_wp2;go_ret;exact ⟨z_,a.out⟩
    ·have b:decide (m=0)=false:=dF h2;go_enter func204,ntmps204;go_wp2;go_ret;exact ⟨by simp [h2],a.out⟩
   ·have b:decide (v=0)=false:=dF h1;go_enter func204,ntmps204;go_wp2;go_ret;exact ⟨by simp [h1],a.out⟩
  ·have h0:((n:Int)+1=0)=False:=by simp;omega
   go_enter func204,ntmps204;go_wp2;go_ret;exact ⟨z_,a.out⟩
theorem it_ (A:Option Addr) (n cap:Nat) (v m:Int) (w:World):C_ 227 #[lG A n cap v m] w (cP (wJ n v m) w):=by
 have b:=H_ ((aI (w) w).alloc (aQ _) (.cells #[S_ A n cap,I_ v,I_ m] 56))
 rcases n with _ | n
 ·by_cases h1:v=0
  ·have a:=H_ (show wJ 0 v m=false from dF O_);subst h1;go_enter func227,ntmps227;go_wp2;go_ret;exact ⟨A_ a.symm,b.out⟩
  ·have f:decide (v=0)=false:=dF h1;have d:(v == 0)=false:=by simpa using h1
   by_cases h2:0<=m
   ·by_cases h3:m<=7
    ·by_cases i:0<v
     ·have a:=H_ (show wJ 0 v m=true from dT O_);go_enter func227,ntmps227;go_wp2;go_ret;exact ⟨A_ (by rw [a.out];simpa using h1),b.out⟩
     ·by_cases c:m=0
      ·have a:=H_ (show wJ 0 v m=true from dT O_);subst c;go_enter func227,ntmps227;go_wp2;go_ret;exact ⟨A_ (by rw [a.out];simpa using h1),b.out⟩
      ·have a:=H_ (show wJ 0 v m=false from dF O_);have g:decide (m=0)=false:=dF c;go_enter func227,ntmps227;go_wp2;go_ret;exact ⟨A_ (a.symm ▸ by first | rfl | assumption | simp [c]),b.out⟩
    ·have a:=H_ (show wJ 0 v m=false from dF O_);go_enter func227,ntmps227;go_wp2;go_ret;exact ⟨A_ a.symm,b.out⟩
   ·have a:=H_ (show wJ 0 v m=false from dF O_);go_enter func227,ntmps227;go_wp2;go_ret;exact ⟨A_ a.symm,b.out⟩
 ·have a:=H_ (show wJ (n+1) v m=false from dF O_);have h0:((n:Int)+1=0)=False:=by simp;omega
  go_enter func227,ntmps227;go_wp2;go_ret;exact ⟨A_ a.symm,b.out⟩
end
end
end Go.Proofs.YtehfhnbpnaiogaaGreatDoor
