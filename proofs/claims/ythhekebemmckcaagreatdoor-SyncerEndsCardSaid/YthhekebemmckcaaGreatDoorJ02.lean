/-
  Lemmas and contracts for the laws of synchronisations (layer 43), part 2; several texts joined by a program.
-/
import Derived.Test.YthhekebemmckcaaGreatDoorJ01
import Derived.Great.BuildSlice
namespace Go.Proofs.YthhekebemmckcaaGreatDoor
set_option linter.unusedVariables false
set_option linter.unusedSimpArgs false
set_option maxRecDepth 100000
set_option maxHeartbeats 16000000
open Go.RowKit
section
section
variable {P:Program} {ops:Array Oper} {s:Nat} {pl:Nat→Bool}
def headC (ops:Array Oper) (m s:Nat) (pl:Nat→Bool):Bool:=
 (List.range ops.size).all fun i=>match ops[i]? with
  | none=>false
  | some o=>o.guard.isNone&&(match o.dst with | some d=>decide (d<m)&&(List.range i).all (fun j=>match ops[j]? with | some oj=>oj.dst != some d | none=>true) | none=>true) &&
   o.after.all (fun e=>!Region.binds .any e||decide (e.on<i)) &&
   (List.range ops.size).all (fun j=>match (ops[j]?).bind (·.dst) with | some d=>!(o.looksAt ops).contains d||Region.waitsFor .any ops i j | none=>true) &&
   (!pl i||(List.range ops.size).any (fun j=>decide (i<j)&&Region.waitsFor .any ops j i&&(j == s||pl j)))
def relBC (ops:Array Oper) (m s:Nat) (pl:Nat→Bool):Bool:=Region.noSelect ops&&decide (s<ops.size)&&headC ops m s pl
theorem headC_spec {m:Nat} (h:headC ops m s pl=true) {i:Nat} (hi:i<ops.size):∃o,ops[i]?=some o∧o.guard=none∧(∀d,o.dst=some d→d<m∧
  (∀j oj,j<i→ops[j]?=some oj→oj.dst≠some d))∧(∀e ∈ o.after,Region.binds .any e=true→e.on<i)∧(∀j oj d',j<ops.size→ops[j]?=some oj→oj.dst=some d'→d' ∈ o.looksAt ops→Region.waitsFor .any ops i j=true)∧
  (pl i=true→∃j,i<j∧j<ops.size∧Region.waitsFor .any ops j i=true∧(j=s∨pl j=true)):=by
 have h1:=List.all_eq_true.1 h i (List.mem_range.2 hi)
 cases ho:ops[i]? with
 | none=>rw [ho] at h1;cases h1
 | some o=>
  rw [ho] at h1
  simp only [Bool.and_eq_true] at h1
  obtain ⟨⟨⟨⟨hg,hd⟩,ha⟩,hl⟩,hp⟩:=h1
  refine ⟨o,rfl,by simpa using hg,fun d hdst=>?_,?_,?_,?_⟩
  ·rw [hdst] at hd
   simp only [Bool.and_eq_true,decide_eq_true_eq] at hd
   refine ⟨hd.1,fun j oj hj hoj=>?_⟩
   have:=List.all_eq_true.1 hd.2 j (List.mem_range.2 hj)
   rw [hoj] at this
   simpa using this
  ·intro e he hb
   have:=(Array.all_eq_true_iff_forall_mem.1 ha) e he
   simpa [hb] using this
  ·intro j oj d' hj hoj hd' hm
   have:=List.all_eq_true.1 hl j (List.mem_range.2 hj)
   rw [hoj] at this
   simp only [Option.bind_some,hd'] at this
   simpa [hm] using this
  ·intro hpi
   rw [hpi] at hp
   simp only [Bool.not_true,Bool.false_or] at hp
   obtain ⟨j,hj,hp⟩:=List.any_eq_true.1 hp
   simp only [Bool.and_eq_true,decide_eq_true_eq,Bool.or_eq_true,beq_iff_eq] at hp
   exact ⟨j,hp.1.1,List.mem_range.1 hj,hp.1.2,hp.2⟩
theorem put_congr {a b:Act} {d:Option Tmp} {u v:Value} (hb:∀t,d=some t→t<b.tmps.size) (h:b.put d u=b.put d v):a.put d u=a.put d v:=by
 cases d with
 | none=>rfl
 | some t=>
  have ht:=hb t rfl
  have:=congrArg (fun x:Act=>x.eval (.tmp t)) h
  simp only [put_same _ _ _ ht] at this
  rw [this]
theorem wp_carryA {o:Oper} {a b:Act} {w:World} {Z:Value→World→Prop} {K:Act→World→Prop} {Q:Exit→Act→World→Prop} (hb:∀t,o.dst=some t→t<b.tmps.size) (he:execOp a.eval o=execOp b.eval o)
  (h:Oper.wp P o b w (fun a' w'=>∃v,a'=b.put o.dst v∧Z v w') QNone) (hk:∀v w',Z v w'→K (a.put o.dst v) w'):Oper.wp P o a w K Q:=by
 unfold Oper.wp at *
 rw [he]
 generalize (execOp b.eval o).run P w=r at *
 cases r with
 | ok n w'=>
  cases n <;> simp only [Oper.upon] at h ⊢
  case value u=>obtain ⟨v,h1,h2⟩:=h;rw [put_congr hb h1];exact hk v w' h2
  case skip=>obtain ⟨v,h1,h2⟩:=h;rw [put_congr hb h1];exact hk v w' h2
  case defer x=>
   obtain ⟨v,h1,_⟩:=h
   have:=congrArg (fun x:Act=>x.defers.length) h1
   simp only [put_def] at this
   simp at this
  case enter f args=>
   refine CM h fun e w'' he=>?_
   cases e with
   | returned u=>obtain ⟨v,h1,h2⟩:=he;show K (a.put o.dst u) w'';rw [put_congr hb h1];exact hk v w'' h2
   | panicked c=>exact he.elim
   | outgrown=>obtain ⟨_,_,hf⟩:=he;exact hf.elim
  case row row args=>exact Rows.mono h fun u w'' ⟨v,h1,h2⟩=>by rw [put_congr hb h1];exact hk v w'' h2
 | halt x w'=>cases x <;> simp only [Oper.upon] at h ⊢;exact h.elim
end
section
variable {Γ:Type} {P:Program} {ops:Array Oper} {C:Γ→(Nat→Bool)→World→Prop} {G:Γ→Nat→Value→World→Prop} {s:Nat} {pl:Nat→Bool}
def doneA (d:Nat→Bool) (i:Nat) (j:Nat):Bool:=d j||j == i
def RelOpE (P:Program) (ops:Array Oper) (C:Γ→(Nat→Bool)→World→Prop) (G:Γ→Nat→Value→World→Prop) (s:Nat) (pl:Nat→Bool) (i:Nat) (o:Oper) (a:Act):Prop:=
 ∀g d w,d i=false→(d s=true→pl i=false)→C g d w→(∀j,Region.waitsFor .any ops i j=true→G g j (atOp ops a j) w)→∀K:Act→World→Prop,(∀g' v w',C g' (doneA d i) w'→(∀j u,G g j u w→G g' j u w')→G g' i v w'→K (a.put o.dst v) w')→Oper.wp P o a w K QNone
def relWalkE (P:Program) (ops:Array Oper) (C:Γ→(Nat→Bool)→World→Prop) (G:Γ→Nat→Value→World→Prop) (s:Nat) (pl:Nat→Bool) (T:Act→Prop):Nat→List Oper→Act→Prop
 | _,[],a=>T a
 | i,o :: l,a=>RelOpE P ops C G s pl i o a∧∀v,relWalkE P ops C G s pl T (i+1) l (a.put o.dst v)
theorem relWalkE_at {T:Act→Prop} (vals:Nat→Value):∀(l:List Oper) (s0:Nat) (a:Act),relWalkE P ops C G s pl T s0 l a→∀k o,l[k]?=some o→RelOpE P ops C G s pl (s0+k) o (putsR vals s0 (l.take k) a)
 | [],_,_,_,k,o,hk=>by simp at hk
 | x :: l,s0,a,h,0,o,hk=>by
  obtain rfl:x=o:=by simpa using hk
  simpa [putsR] using h.1
 | x :: l,s0,a,h,k+1,o,hk=>by
  have:=relWalkE_at vals l (s0+1) _ (h.2 (vals s0)) k o (by simpa using hk)
  rw [show s0+(k+1)=s0+1+k from by omega]
  simpa [putsR] using this
theorem relWalkE_end {T:Act→Prop} (vals:Nat→Value):∀(l:List Oper) (s0:Nat) (a:Act),relWalkE P ops C G s pl T s0 l a→T (putsR vals s0 l a)
 | [],_,_,h=>h
 | _ :: l,s0,_,h=>relWalkE_end vals l (s0+1) _ (h.2 (vals s0))
theorem any_of_relE {m:Nat} {Q:Exit→Act→World→Prop} {T:Act→Prop} {l:List Oper} {a0:Act} (hops:ops=l.toArray) (hB:relBC ops m s pl=true) (hm:a0.tmps.size=m)
  (hs0:∀(i:Nat) (o:Oper),ops[i]?=some o→o.dst=none→∀g v w,G g i v w→G g i undef w) (hW:relWalkE P ops C G s pl T 0 l a0)
  (hT:∀g d a w,T a→(∀j,j<ops.size→d j=true)→C g d w→(∀j,j<ops.size→G g j (atOp ops a j) w)→Q .normal a w) :
  ∀(f:Nat) (ls:Array Bool) (a:Act) (w:World),cntR ls ops.size=f→HeadInv .any ops ops.size ls→a.tmps.size=m→a.defers=a0.defers→(∃(γ:Γ) (vals:Nat→Value),C γ (fun j=>ls.getD j false) w∧
   (∀j o,ls.getD j false=true→ops[j]?=some o→(∀d,o.dst=some d→a.eval (.tmp d)=vals j)∧(o.dst=none→vals j=undef)∧G γ j (vals j) w)∧
   (∀t,(∀j o,ls.getD j false=true→ops[j]?=some o→o.dst≠some t)→a.eval (.tmp t)=a0.eval (.tmp t)))→
   wpAny P .any ops Q f ls a w:=by
 simp only [relBC,Bool.and_eq_true,decide_eq_true_eq] at hB
 obtain ⟨⟨hsel,hsz0⟩,hhead⟩:=hB
 have hget:∀j:Nat,ops[j]?=l[j]?:=fun j=>by rw [hops];simp
 have hlt:∀(k:Nat) (o:Oper),ops[k]?=some o→k<ops.size:=fun k o hk=>(Array.getElem?_eq_some_iff.1 hk).1
 intro f
 induction f with
 | zero=>
  intro ls a w hf inv hsz hdf ⟨γ,vals,hC,hv1,hv2⟩
  have hall:=cntR_zero ls _ hf
  have ha:a=putsR vals 0 l a0:=by
   apply act_ext
   ·rw [putsR_size,hsz,hm]
   ·rw [putsR_def,hdf]
   ·intro t ht
    by_cases hx:∃(k:Nat) (o:Oper),k<ops.size∧ops[k]?=some o∧o.dst=some t
    ·obtain ⟨k,o,hk,ho,hd⟩:=hx
     rw [(hv1 k o (hall k hk) ho).1 t hd]
     rw [putsR_same vals t l 0 a0 k o (by rw [←hget];exact ho) hd ?_ (by rw [hm,←hsz];exact ht),Nat.zero_add]
     intro k' o' hk' ho'
     rw [←hget] at ho'
     obtain ⟨o2,g1,_,g2,_⟩:=headC_spec hhead (hlt _ _ ho')
     have:o2=o':=Option.some.inj (g1.symm.trans ho')
     subst this
     intro hdd
     exact (g2 t hdd).2 k o hk' ho hd
    ·rw [hv2 t (fun j o _ ho hd=>hx ⟨j,o,hlt _ _ ho,ho,hd⟩),putsR_other vals t l 0 a0 (fun k o hk hd=>hx ⟨k,o,hlt k o (by rw [hget];exact hk),by rw [hget];exact hk,hd⟩)]
  have hTa:=relWalkE_end vals l 0 a0 hW
  rw [←ha] at hTa
  refine ⟨?_,hT γ _ a w hTa hall hC (fun j hj=>by
   obtain ⟨o,g1,_⟩:=headC_spec hhead hj
   obtain ⟨k1,k2,k3⟩:=hv1 j o (hall j hj) g1
   unfold atOp
   rw [g1]
   simp only [Option.bind_some]
   cases hd:o.dst with
   | none=>rw [k2 hd] at k3;exact k3
   | some d=>simp only;rw [k1 d hd];exact k3)⟩
  cases hr:Region.ready .any ops ls with
  | nil=>rfl
  | cons i r=>
   have hi:i ∈ Region.ready .any ops ls:=by rw [hr];exact List.mem_cons_self ..
   obtain ⟨hun,o,ho,_⟩:=mem_ready.1 hi
   have:=hall i (hlt _ _ ho)
   rw [getD_both hun] at this
   cases this
 | succ f ih=>
  intro ls a w hf inv hsz hdf ⟨γ,vals,hC,hv1,hv2⟩
  obtain ⟨i0,hi0,hu0,hbefore⟩:=cntR_first ls ops.size (by omega)
  have hr0:i0 ∈ Region.ready .any ops ls:=by
   obtain ⟨o,g1,_,_,g4,_⟩:=headC_spec hhead hi0
   exact mem_ready.2 ⟨getD_in (by rw [inv.size];omega) hu0,o,g1,fun e he hb=>hbefore _ (g4 e he hb)⟩
  refine ⟨fun h=>(by rw [h] at hr0;cases hr0),fun i hir=>?_⟩
  obtain ⟨hun,o,g1,hall⟩:=mem_ready.1 hir
  have hin:i<ops.size:=hlt _ _ g1
  obtain ⟨o',ho',gg,g2,g4,g5,g6⟩:=headC_spec hhead hin
  obtain rfl:o'=o:=Option.some.inj (ho'.symm.trans g1)
  have hop:=relWalkE_at vals l 0 a0 hW i o' (by rw [←hget];exact g1)
  rw [Nat.zero_add] at hop
  have htk:∀(k:Nat) (ok:Oper),(l.take i)[k]?=some ok→k<i∧ops[k]?=some ok:=fun k ok hk=>by
   rw [List.getElem?_take] at hk
   split at hk
   ·exact ⟨by assumption,by rw [hget];exact hk⟩
   ·cases hk
  have hcano:∀j oj dj,j<i→ops[j]?=some oj→oj.dst=some dj→(putsR vals 0 (l.take i) a0).eval (.tmp dj)=vals j:=by
   intro j oj dj hj hoj hdj
   have hl':(l.take i)[j]?=some oj:=by rw [List.getElem?_take,if_pos hj,←hget];exact hoj
   obtain ⟨o2,k1,_,k2,_⟩:=headC_spec hhead (hlt _ _ hoj)
   obtain rfl:o2=oj:=Option.some.inj (k1.symm.trans hoj)
   rw [putsR_same vals dj _ 0 a0 j o2 hl' hdj ?_ (by rw [hm];exact (k2 dj hdj).1),Nat.zero_add]
   intro k' o'' hk' ho''
   obtain ⟨_,ho3⟩:=htk k' o'' ho''
   obtain ⟨o3,m1,_,m2,_⟩:=headC_spec hhead (hlt _ _ ho3)
   obtain rfl:o3=o'':=Option.some.inj (m1.symm.trans ho3)
   intro hdd
   exact (m2 dj hdd).2 j o2 hk' hoj hdj
  have hfar:∀t,(∀(j:Nat) (oj:Oper),ops[j]?=some oj→oj.dst≠some t)→(putsR vals 0 (l.take i) a0).eval (.tmp t)=a0.eval (.tmp t):=fun t ht=>
   putsR_other vals t _ 0 a0 (fun k ok hk=>ht k ok (htk k ok hk).2)
  have hdone:∀j,Region.waitsFor .any ops i j=true→j<i∧ls.getD j false=true:=fun j hj=>by
   obtain ⟨e,he,hb,hon⟩:=waits_of hj g1
   subst hon
   exact ⟨g4 e he hb,hall e he hb⟩
  have hev:execOp a.eval o'=execOp (putsR vals 0 (l.take i) a0).eval o':=by
   refine execOp_congr o' (fun cs b=>Region.noSelect_spec hsel i o' cs b g1) (fun x hx=>?_)
   cases x with
   | tmp t=>
    have hlook:t ∈ o'.looksAt ops:=List.mem_append_left _ (List.mem_filterMap.2 ⟨.tmp t,by simpa using hx,rfl⟩)
    by_cases hex:∃(j:Nat) (oj:Oper),ops[j]?=some oj∧oj.dst=some t
    ·obtain ⟨j,oj,hoj,hdj⟩:=hex
     obtain ⟨hji,hjd⟩:=hdone j (g5 j oj t (hlt _ _ hoj) hoj hdj hlook)
     rw [(hv1 j oj hjd hoj).1 t hdj,hcano j oj t hji hoj hdj]
    ·have hno:∀(j:Nat) (oj:Oper),ops[j]?=some oj→oj.dst≠some t:=fun j oj hoj hd=>hex ⟨j,oj,hoj,hd⟩
     rw [hv2 t (fun j oj _ hoj=>hno j oj hoj),hfar t hno]
   | _=>rfl
  have hahead:∀(k j:Nat),ops.size - j=k→j<ops.size→pl j=true→ls.getD j false=false→ls.getD s false=false:=by
   intro k
   induction k using Nat.strongRecOn with
   | _ k ihk=>
    intro j hk hj hp hu
    obtain ⟨_,_,_,_,_,_,q⟩:=headC_spec hhead hj
    obtain ⟨j',hjj,hj',hw,hps⟩:=q hp
    obtain ⟨oj,hoj,e,he,hb,hon⟩:=Region.waitsFor_spec hw
    have hju:ls.getD j' false=false:=by
     cases hl:ls.getD j' false with
     | false=>rfl
     | true=>have:=inv.closed j' oj hoj hl e he hb;rw [hon,hu] at this;cases this
    rcases hps with rfl | hps
    ·exact hju
    ·exact ihk (ops.size - j') (by omega) j' rfl hj' hps hju
  have hils:i<ls.size:=by rw [inv.size];omega
  have hstep:=hop γ (fun j=>ls.getD j false) w (getD_both hun) (fun hb=>by
    cases hp:pl i with
    | false=>rfl
    | true=>have:=hahead _ i rfl hin hp (getD_both hun);rw [this] at hb;cases hb) hC (fun j hj=>by
   obtain ⟨hji,hjd⟩:=hdone j hj
   obtain ⟨o2,k1,_⟩:=headC_spec hhead (show j<ops.size by omega)
   obtain ⟨q1,q2,q3⟩:=hv1 j o2 hjd k1
   unfold atOp
   rw [k1]
   simp only [Option.bind_some]
   cases hd:o2.dst with
   | none=>rw [q2 hd] at q3;exact q3
   | some d=>simp only;rw [hcano j o2 d hji k1 hd];exact q3)
   (fun a' w'=>∃v,a'=(putsR vals 0 (l.take i) a0).put o'.dst v∧∃γ',C γ' (doneA (fun j=>ls.getD j false) i) w'∧(∀j u,G γ j u w→G γ' j u w')∧G γ' i v w')
   (fun γ' v w' h1 h2 h3=>⟨v,rfl,γ',h1,h2,h3⟩)
  have hwant:Region.wanted o' (yielded ops a.tmps)=true:=by simp [Region.wanted,gg]
  unfold wpOp
  rw [g1]
  simp only [hwant,if_true]
  refine .inl (wp_carryA (Z:=fun v w'=>∃γ',C γ' (doneA (fun j=>ls.getD j false) i) w'∧(∀j u,G γ j u w→G γ' j u w')∧G γ' i v w') (fun t ht=>by rw [putsR_size,hm];exact (g2 t ht).1) hev hstep fun v w' ⟨γ',hC',hRw,hGi⟩=>?_)
  have hgs:(fun j=>(ls.setIfInBounds i true).getD j false)=doneA (fun j=>ls.getD j false) i:=by
   funext j
   unfold doneA
   by_cases his:i=j
   ·subst his;simp [hils]
   ·rw [getD_set_ne false his];simp [Ne.symm his]
  refine ih (ls.setIfInBounds i true) (a.put o'.dst v) w' (by have:=cntR_set ls i hils (getD_both hun) ops.size hin;omega) (inv.set hir hin) (by rw [put_size,hsz]) (by rw [put_def,hdf]) ⟨γ',fun j=>if j=i then (if o'.dst=none then undef else v) else vals j,by rw [hgs];exact hC',?_,?_⟩
  ·intro j oj hjl hoj
   by_cases hji:j=i
   ·subst hji
    obtain rfl:oj=o':=Option.some.inj (hoj.symm.trans g1)
    show (∀d,oj.dst=some d→(a.put oj.dst v).eval (.tmp d)=(if j=j then (if oj.dst=none then undef else v) else vals j))∧(oj.dst=none→(if j=j then (if oj.dst=none then undef else v) else vals j)=undef)∧G γ' j (if j=j then (if oj.dst=none then undef else v) else vals j) w'
    rw [if_pos rfl]
    refine ⟨fun d hd=>?_,fun hd=>by rw [if_pos hd],?_⟩
    ·rw [if_neg (by rw [hd];simp),hd,put_same _ _ _ (by rw [hsz];exact (g2 d hd).1)]
    ·cases hd:oj.dst with
     | none=>rw [if_pos rfl];exact hs0 j oj g1 hd γ' v w' hGi
     | some d=>rw [if_neg (by simp)];exact hGi
   ·rw [getD_set_ne false (Ne.symm hji)] at hjl
    obtain ⟨q1,q2,q3⟩:=hv1 j oj hjl hoj
    show (∀d,oj.dst=some d→(a.put o'.dst v).eval (.tmp d)=(if j=i then (if o'.dst=none then undef else v) else vals j))∧(oj.dst=none→(if j=i then (if o'.dst=none then undef else v) else vals j)=undef)∧G γ' j (if j=i then (if o'.dst=none then undef else v) else vals j) w'
    rw [if_neg hji]
    refine ⟨fun d hd=>?_,q2,hRw _ _ q3⟩
    rw [put_other _ _ _ _ ?_]
    ·exact q1 d hd
    ·intro hdd
     rcases Nat.lt_or_gt_of_ne hji with hlt' | hgt
     ·exact (g2 d hdd).2 j oj hlt' hoj hd
     ·obtain ⟨o2,k1,_,k2,_⟩:=headC_spec hhead (hlt _ _ hoj)
      obtain rfl:o2=oj:=Option.some.inj (k1.symm.trans hoj)
      exact (k2 d hd).2 i o' hgt g1 hdd
  ·intro t ht
   have hne:o'.dst≠some t:=ht i o' (by simp [hils]) g1
   rw [put_other _ _ _ _ hne]
   exact hv2 t (fun j oj hjl hoj=>ht j oj (getD_set_true hjl) hoj)
theorem wp_region_relE {id:Nat} {Q:Exit→Act→World→Prop} {a:Act} {w:World} {l:List Oper} (m s:Nat) (pl:Nat→Bool) (C:Γ→(Nat→Bool)→World→Prop) (G:Γ→Nat→Value→World→Prop) (γ:Γ)
  (hm:P.follows .mixedOrders=true) (hB:relBC l.toArray m s pl=true) (hs:a.tmps.size=m) (hC:C γ (fun _=>false) {w with drawn:=w.drawn+1}) (hs0:∀(i:Nat) (o:Oper),l.toArray[i]?=some o→o.dst=none→∀g v w,G g i v w→G g i undef w)
  (h:relWalkE P l.toArray C G s pl (fun a'=>∀g d w',(∀j,j<l.toArray.size→d j=true)→C g d w'→(∀j,j<l.toArray.size→G g j (atOp l.toArray a' j) w')→wpList P l.toArray Q [] a' w') 0 l a):(Code.region id l.toArray true).wp P Q a w:=by
 refine wp_region_any hm ?_
 have hB':=hB
 simp only [relBC,Bool.and_eq_true,decide_eq_true_eq] at hB'
 have hcnt:∀k,cntR (Array.replicate l.toArray.size false) k=k:=by
  intro k
  induction k with
  | zero=>rfl
  | succ k ih=>simp only [cntR,ih,getD_replicate_false];simp
 have inv0:HeadInv .any l.toArray l.toArray.size (Array.replicate l.toArray.size false):=
  ⟨by simp,fun j oj _ hl=>(by rw [getD_replicate_false] at hl;cases hl),fun t _ ht=>getD_in (by simpa using ht) (getD_replicate_false _ _)⟩
 exact any_of_relE (P:=P) (ops:=l.toArray) (C:=C) (G:=G) (m:=m) (Q:=Q) (l:=l) (a0:=a) rfl hB hs hs0 h (fun g d a' w' hT hd hC' hG=>hT g d w' hd hC' hG) l.toArray.size (Array.replicate l.toArray.size false) a {w with drawn:=w.drawn+1} (hcnt _) inv0 hs rfl
  ⟨γ,fun _=>undef,by simpa only [getD_replicate_false] using hC,fun j o hl=>(by rw [getD_replicate_false] at hl;cases hl),fun t _=>rfl⟩
theorem rE {T:Act→Prop} {i:Nat} {o:Oper} {l:List Oper} {a:Act}
  (h1:∀g d w,d i=false→(d s=true→pl i=false)→C g d w→(∀j,Region.waitsFor .any ops i j=true→G g j (atOp ops a j) w)→∀K:Act→World→Prop,(∀g' v w',C g' (doneA d i) w'→(∀j u,G g j u w→G g' j u w')→G g' i v w'→K (a.put o.dst v) w')→Oper.wp P o a w K QNone)
  (h2:∀v,relWalkE P ops C G s pl T (i+1) l (a.put o.dst v)):relWalkE P ops C G s pl T i (o :: l) a:=⟨h1,h2⟩
theorem relWalkE_nil {T:Act→Prop} {i:Nat} {a:Act} (h:T a):relWalkE P ops C G s pl T i [] a:=h
end
section
variable {P:Program} {ops:Array Oper} {C:Bool→World→Prop} {R:World→World→Prop} {G:Nat→Value→World→Prop} {s:Nat} {pl:Nat→Bool}
def RelOpA (P:Program) (ops:Array Oper) (C:Bool→World→Prop) (R:World→World→Prop) (G:Nat→Value→World→Prop) (s:Nat) (pl:Nat→Bool) (i:Nat) (o:Oper) (a:Act):Prop:=
 ∀b w,(b=true→i≠s∧pl i=false)→C b w→(∀j,Region.waitsFor .any ops i j=true→G j (atOp ops a j) w)→∀K:Act→World→Prop,(∀v w',C (b||i == s) w'→R w w'→G i v w'→K (a.put o.dst v) w')→Oper.wp P o a w K QNone
def relWalkA (P:Program) (ops:Array Oper) (C:Bool→World→Prop) (R:World→World→Prop) (G:Nat→Value→World→Prop) (s:Nat) (pl:Nat→Bool) (T:Act→Prop):Nat→List Oper→Act→Prop
 | _,[],a=>T a
 | i,o :: l,a=>RelOpA P ops C R G s pl i o a∧∀v,relWalkA P ops C R G s pl T (i+1) l (a.put o.dst v)
theorem beq_comm' (a b:Nat):(a == b)=(b == a):=by
 by_cases e:a=b
 ·rw [e]
 ·rw [beq_eq_false_iff_ne.2 e,beq_eq_false_iff_ne.2 (Ne.symm e)]
theorem relWalkE_of_A {T T':Act→Prop} (hR:∀w w',R w w'→∀j v,G j v w→G j v w') (hT:∀a,T a→T' a):∀(l:List Oper) (i:Nat) (a:Act),relWalkA P ops C R G s pl T i l a→relWalkE (Γ:=Unit) P ops (fun _ d w=>C (d s) w) (fun _=>G) s pl T' i l a
 | [],_,a,h=>hT a h
 | o :: l,i,a,h=>⟨fun g d w hn hp hC hd K hK=>h.1 (d s) w (fun hb=>⟨fun e=>(by rw [e] at hn;rw [hn] at hb;cases hb),hp hb⟩) hC hd K fun v w' h1 h2 h3=>hK () v w' (by
   show C (d s||s == i) w'
   rw [show (s == i)=(i == s) from beq_comm' s i]
   exact h1) (fun j u hg=>hR w w' h2 j u hg) h3,fun v=>relWalkE_of_A hR hT l (i+1) _ (h.2 v)⟩
theorem wp_region_relC {id:Nat} {Q:Exit→Act→World→Prop} {a:Act} {w:World} {l:List Oper} (m s:Nat) (pl:Nat→Bool) (C:Bool→World→Prop) (R:World→World→Prop) (G:Nat→Value→World→Prop)
  (hm:P.follows .mixedOrders=true) (hB:relBC l.toArray m s pl=true) (hs:a.tmps.size=m) (hC:C false {w with drawn:=w.drawn+1}) (hR:∀w w',R w w'→∀j v,G j v w→G j v w') (hs0:∀(i:Nat) (o:Oper),l.toArray[i]?=some o→o.dst=none→∀v w,G i v w→G i undef w)
  (h:relWalkA P l.toArray C R G s pl (fun a'=>∀w',C true w'→(∀j,j<l.toArray.size→G j (atOp l.toArray a' j) w')→wpList P l.toArray Q [] a' w') 0 l a):(Code.region id l.toArray true).wp P Q a w:=by
 have hlt:s<l.toArray.size:=by
  have:=hB
  simp only [relBC,Bool.and_eq_true,decide_eq_true_eq] at this
  exact this.1.2
 refine wp_region_relE (Γ:=Unit) m s pl (fun _ d w=>C (d s) w) (fun _=>G) () hm hB hs hC (fun i o ho hd _ v w hg=>hs0 i o ho hd v w hg) (relWalkE_of_A hR (fun a' hT _ d w' hd hC hG=>hT w' (by rw [hd s hlt] at hC;exact hC) hG) l 0 a h)
theorem rP {T:Act→Prop} {i:Nat} {o:Oper} {l:List Oper} {a:Act} (hp:pl i=true) (his:(i == s)=false)
  (h1:∀w,C false w→(∀j,Region.waitsFor .any ops i j=true→G j (atOp ops a j) w)→∀K:Act→World→Prop,(∀v w',C false w'→R w w'→G i v w'→K (a.put o.dst v) w')→Oper.wp P o a w K QNone)
  (h2:∀v,relWalkA P ops C R G s pl T (i+1) l (a.put o.dst v)):relWalkA P ops C R G s pl T i (o :: l) a:=by
 refine ⟨fun b w hb hC hG K hK=>?_,h2⟩
 cases b with
 | true=>rw [(hb rfl).2] at hp;cases hp
 | false=>exact h1 w hC hG K fun v w' h=>hK v w' (by rw [his];exact h)
theorem rS {T:Act→Prop} {o:Oper} {l:List Oper} {a:Act}
  (h1:∀w,C false w→(∀j,Region.waitsFor .any ops s j=true→G j (atOp ops a j) w)→∀K:Act→World→Prop,(∀v w',C true w'→R w w'→G s v w'→K (a.put o.dst v) w')→Oper.wp P o a w K QNone)
  (h2:∀v,relWalkA P ops C R G s pl T (s+1) l (a.put o.dst v)):relWalkA P ops C R G s pl T s (o :: l) a:=by
 refine ⟨fun b w hb hC hG K hK=>?_,h2⟩
 cases b with
 | true=>exact absurd rfl (hb rfl).1
 | false=>exact h1 w hC hG K fun v w' h=>hK v w' (by simpa using h)
theorem rA {T:Act→Prop} {i:Nat} {o:Oper} {l:List Oper} {a:Act} (his:(i == s)=false) (hR:∀w,R w w)
  (h1:∀w,(∀j,Region.waitsFor .any ops i j=true→G j (atOp ops a j) w)→∀K:Act→World→Prop,(∀v,G i v w→K (a.put o.dst v) w)→Oper.wp P o a w K QNone)
  (h2:∀v,relWalkA P ops C R G s pl T (i+1) l (a.put o.dst v)):relWalkA P ops C R G s pl T i (o :: l) a:=
 ⟨fun b w hb hC hG K hK=>h1 w hG K fun v hv=>hK v w (by rw [his,Bool.or_false];exact hC) (hR w) hv,h2⟩
theorem relWalkA_nil {T:Act→Prop} {i:Nat} {a:Act} (h:T a):relWalkA P ops C R G s pl T i [] a:=h
def onlyS (ops:Array Oper) (s:Nat):Bool:=(List.range ops.size).all fun i=>match ops[i]? with | some o=>o.dst.isSome||i == s | none=>true
def relBA (ops:Array Oper) (m s:Nat) (pl:Nat→Bool):Bool:=relBC ops m s pl&&onlyS ops s
theorem relBA_spec {ops:Array Oper} {m s:Nat} {pl:Nat→Bool} (h:relBA ops m s pl=true):relBC ops m s pl=true∧∀(i:Nat) (o:Oper),ops[i]?=some o→o.dst=none→i=s:=by
 unfold relBA at h
 rw [Bool.and_eq_true] at h
 refine ⟨h.1,fun i o ho hd=>?_⟩
 have:=List.all_eq_true.1 h.2 i (List.mem_range.2 (Array.getElem?_eq_some_iff.1 ho).1)
 rw [ho] at this
 simpa [hd] using this
theorem wp_region_relA {P:Program} {id:Nat} {Q:Exit→Act→World→Prop} {a:Act} {w:World} {l:List Oper} (m s:Nat) (pl:Nat→Bool) (C:Bool→World→Prop) (R:World→World→Prop) (G:Nat→Value→World→Prop)
  (hm:P.follows .mixedOrders=true) (hB:relBA l.toArray m s pl=true) (hs:a.tmps.size=m) (hC:C false {w with drawn:=w.drawn+1}) (hR:∀w w',R w w'→∀j v,G j v w→G j v w') (hs0:∀w,G s undef w)
  (h:relWalkA P l.toArray C R G s pl (fun a'=>∀w',C true w'→(∀j,j<l.toArray.size→G j (atOp l.toArray a' j) w')→wpList P l.toArray Q [] a' w') 0 l a):(Code.region id l.toArray true).wp P Q a w:=
 wp_region_relC m s pl C R G hm (relBA_spec hB).1 hs hC hR (fun i o ho hd v w _=>by rw [(relBA_spec hB).2 i o ho hd];exact hs0 w) h
def QK (K:Act→World→Prop):Exit→Act→World→Prop
 | .normal,a,w=>K a w
 | _,_,_=>False
theorem wp_of_list {o:Oper} {a:Act} {w:World} {K:Act→World→Prop} (hg:o.guard=none) (h:wpList P ops (QK K) [o] a w):o.wp P a w K QNone:=by
 have hno:¬LetsOut (QK K):=fun ⟨_,_,hf⟩=>hf
 unfold wpList at h
 have hwant:Region.wanted o (yielded ops a.tmps)=true:=by simp [Region.wanted,hg]
 rw [if_pos hwant] at h
 rcases h with h | h
 ·unfold Oper.wp at *
  generalize (execOp a.eval o).run P w=r at *
  cases r with
  | ok n w'=>
   cases n <;> simp only [Oper.upon] at h ⊢
   case value u=>exact h
   case skip=>exact h
   case defer x=>exact h
   case enter f args=>
    refine CM h fun e w'' he=>?_
    cases e with
    | returned u=>exact he
    | panicked c=>exact he.elim
    | outgrown=>exact absurd he hno
   case row row args=>exact Rows.mono h fun u w'' he=>he
  | halt x w'=>cases x <;> simp only [Oper.upon] at h ⊢;exact h.elim
 ·exact absurd h.2 hno
theorem wp_store_row {o:Oper} {a:Act} {w:World} {K:Act→World→Prop} (hgd:o.guard=none) (ty:TypeId) (x y:Operand) (ho:o.op = .store ty x y)
  (hd:o.dst=none) (g:Nat) (cells:Array Value) (hx:a.eval x = .pointer (some ⟨g,0,none⟩)) (hy:a.eval y = .agg cells)
  (t:TypeId) (old:Array Value) (hg:w.heap[g]?=some (.cells old t (0,0))) (hi:(P.info? ty).map (·.size)=some cells.size)
  (hold:old.size=cells.size) (h1:cells.all (·.oneCell')=true) (h:K a (w.setRow g cells)):o.wp P a w K QNone:=
 wp_of_list (ops:=#[]) hgd (wpList_store_rowTo hgd ty x y ho hd g cells hx hy t old hg hi hold h1 h)
end
def KeepS (S:Nat→Prop) (w w':World):Prop:=w.heap.size≤w'.heap.size∧∀z,S z→z<w.heap.size→w'.heap[z]?=w.heap[z]?
theorem KeepS.refl {S:Nat→Prop} (w:World):KeepS S w w:=⟨Nat.le_refl _,fun _ _ _=>rfl⟩
theorem K_ {S:Nat→Prop} {w:World}:KeepS S w w:=KeepS.refl w
structure SK (S:Nat→Prop) where
 p:Value→World→Prop
 st:∀v w w',KeepS S w w'→p v w→p v w'
def SK.eq {S:Nat→Prop} (x:Value):SK S:=⟨fun v _=>v=x,fun _ _ _ _ h=>h⟩
def SK.any {S:Nat→Prop}:SK S:=⟨fun _ _=>True,fun _ _ _ _ h=>h⟩
def GK {S:Nat→Prop} (ls:List (SK S)) (j:Nat) (v:Value) (w:World):Prop:=(ls.getD j SK.any).p v w
theorem GK.keep {S:Nat→Prop} {ls:List (SK S)} {w w':World} (hr:KeepS S w w') (j:Nat) (v:Value) (h:GK ls j v w):GK ls j v w':=(ls.getD j SK.any).st v w w' hr h
def CB (W:World) (D:World→Prop):Bool→World→Prop
 | false,w=>Below W.heap.size W w
 | true,w=>D w
theorem wp_region_sk {P:Program} {id:Nat} {Q:Exit→Act→World→Prop} {a:Act} {W:World} {l:List Oper} {S:Nat→Prop} (m s:Nat) (pl:Nat→Bool) (D:World→Prop) (ls:List (SK S))
  (hm:P.follows .mixedOrders=true) (hB:relBA l.toArray m s pl=true) (hs:a.tmps.size=m) (hs0:∀w,GK ls s undef w)
  (h:relWalkA P l.toArray (CB W D) (KeepS S) (GK ls) s pl (fun a'=>∀w',D w'→(∀j,j<l.toArray.size→GK ls j (atOp l.toArray a' j) w')→wpList P l.toArray Q [] a' w') 0 l a):(Code.region id l.toArray true).wp P Q a W:=
 wp_region_relA m s pl (CB W D) (KeepS S) (GK ls) hm hB hs (B_.drew) (fun x y hr=>GK.keep hr) hs0 h
end
section
theorem cut_w (x n:Int) (w:World) (h1:1≤n) (h2:n≤9223372036854775807) :
  Calls Tryz.prog 26 #[.int .i64 x,.int .i64 n] w fun e w'=>e = .returned (.int .i64 (cutI x n))∧w=w':=by
 go_enter Tryz.func26,Tryz.ntmps26
 go_wp2
 go_ret
 exact ⟨ret_int (cutI_eq x n h1 h2),rfl⟩
def TapeAt (w:World) (b:Nat):Prop:=
 ∃(a:Option Addr) (len cap k:Nat),w.heap[b]?=some (.cells #[.slice a len cap,.int .i64 (k:Int)] 34 (0,0))∧k≤len∧len≤maxLen∧
  ∀i,i<len→∃(c o:Nat) (x:Int),a=some ⟨c,o,none⟩∧c<b∧w.cell? ⟨c,o+i,none⟩=some (.int .i64 x)
theorem TapeAt.kept {w w':World} {b:Nat} {row:Option Nat} (h:TapeAt w b) (hg:w.grownBy w' row) (hb:some b≠row)
  (hr:∀k,row=some k→∀(a:Option Addr) (len cap:Nat) (k':Int),w.heap[b]?=some (.cells #[.slice a len cap,.int .i64 k'] 34 (0,0))→∀x,a=some x→x.block≠k):TapeAt w' b:=by
 obtain ⟨a,len,cap,k,h1,h2,h3,h4⟩:=h
 refine ⟨a,len,cap,k,?_,h2,h3,?_⟩
 ·rw [hg.block b (Array.getElem?_eq_some_iff.1 h1).1 hb];exact h1
 ·intro i hi
  obtain ⟨c,o,x,ha,hc,hx⟩:=h4 i hi
  refine ⟨c,o,x,ha,hc,hg.cell hx ?_⟩
  intro e
  exact hr c e.symm a len cap k h1 _ ha rfl
theorem next_end (n:Int) (w:World) (b len cap:Nat) (a:Option Addr)
  (h1:w.cell? ⟨b,0,none⟩=some (.slice a len cap)) (h2:w.cell? ⟨b,1,none⟩=some (.int .i64 (len:Int))) (hm:len≤maxLen) :
  Calls Tryz.prog 7 #[.pointer (some ⟨b,0,none⟩),.int .i64 n] w fun e w'=>e = .returned (.int .i64 0)∧∃m,w'=w.drewN m:=by
 unfold maxLen at hm
 go_enter Tryz.func7,Tryz.ntmps7
 go_wp2
 go_quiet (fail)
 go_wp2
 go_ret
 exact ⟨rfl,nq,rfl⟩
theorem next_more (n:Int) (w:World) (b len cap c o k:Nat) (x:Int) (h1n:1≤n) (h2n:n≤9223372036854775807)
  (h1:w.cell? ⟨b,0,none⟩=some (.slice (some ⟨c,o,none⟩) len cap)) (h2:w.cell? ⟨b,1,none⟩=some (.int .i64 (k:Int))) (hf:w.frozen? ⟨b,1,none⟩=false) (hm:len≤maxLen)
  (hk:k<len) (hx:w.cell? ⟨c,o+k,none⟩=some (.int .i64 x)) (hc:c≠b) :
  Calls Tryz.prog 7 #[.pointer (some ⟨b,0,none⟩),.int .i64 n] w fun e w'=>e = .returned (.int .i64 (cutI x n))∧∃m,w'=(w.setCell ⟨b,1,none⟩ (.int .i64 (k+1))).drewN m:=by
 unfold maxLen at hm
 go_enter Tryz.func7,Tryz.ntmps7
 go_wp2
 have e1:IntKind.i64.wrap ((k:Int)+1 - 1)=(k:Int):=by rw [show (k:Int)+1 - 1=k from by omega];exact IntWalk.i64_in _ (by omega)
 have e2:(0:Int)≤(k:Int):=by omega
 have e3:(k:Int)<(len:Int):=by omega
 have e4:((k:Int)).toNat=k:=by omega
 go_wp2_with fail
 go_quiet (fail)
 go_wp2_with fail
 go_quiet ((go_at_call 26;exact Calls.quiet_of_eq (cut_w _ _ _ h1n h2n)))
 go_wp2
 go_ret
 exact ⟨rfl,_,drew_set _ _ _ _ _⟩
def Drew (n:Int) (b:Nat) (w:World) (e:Ending) (w':World):Prop:=∃x,e = .returned (.int .i64 x)∧0≤x∧x<n∧w.grownBy w' (some b)∧TapeAt w' b
theorem next_w (n:Int) (w:World) (b:Nat) (h1n:1≤n) (h2n:n≤9223372036854775807) (h:TapeAt w b) :
  Calls Tryz.prog 7 #[.pointer (some ⟨b,0,none⟩),.int .i64 n] w (Drew n b w):=by
 obtain ⟨a,len,cap,k,h1,h2,h3,h4⟩:=h
 have c0:w.cell? ⟨b,0,none⟩=some (.slice a len cap):=by rw [cells_at h1];rfl
 have c1:w.cell? ⟨b,1,none⟩=some (.int .i64 (k:Int)):=by rw [cells_at h1];rfl
 by_cases hk:k<len
 ·obtain ⟨c,o,x,rfl,hc,hx⟩:=h4 k hk
  refine (next_more n w b len cap c o k x h1n h2n c0 c1 (free_at h1 1) h3 hk hx (by omega)).mono ?_
  rintro e w' ⟨rfl,m,rfl⟩
  have hr:=cutI_range x n h1n
  have hg:w.grownBy ((w.setCell ⟨b,1,none⟩ (.int .i64 (k+1))).drewN m) (some b):=grownBy_trans (grownBy_setCell w ⟨b,1,none⟩ _) (grownBy_drewN _ _ _)
  refine ⟨_,rfl,hr.1,hr.2,hg,some ⟨c,o,none⟩,len,cap,k+1,?_,hk,h3,?_⟩
  ·show (w.setCell ⟨b,1,none⟩ (.int .i64 (k+1))).heap[b]?=_
   simp [World.setCell,Array.getElem?_modify,h1]
  ·intro i hi
   obtain ⟨c',o',x',ha,hc',hx'⟩:=h4 i hi
   exact ⟨c',o',x',ha,hc',hg.cell hx' (by simp;omega)⟩
 ·obtain rfl:k=len:=by omega
  refine (next_end n w b k cap a c0 c1 h3).mono ?_
  rintro e w' ⟨rfl,m,rfl⟩
  exact ⟨0,rfl,by omega,by omega,grownBy_drewN _ _ _,a,k,cap,k,h1,Nat.le_refl _,h3,h4⟩
theorem TapeAt.alloc {w:World} {b:Nat} (h:TapeAt w b) (o:Obj):TapeAt (w.alloc o) b:=
 h.kept (World.grownBy_alloc w o none) (by simp) (by simp)
theorem tape_of_row {w:World} {a:Option Addr} {len cap:Nat} {zs:List Int} (h:IsRow .i64 w a len cap zs) :
  TapeAt (w.alloc (.cells #[.slice a len cap,.int .i64 0] 34)) w.heap.size:=by
 refine ⟨a,len,cap,0,?_,Nat.zero_le _,?_,?_⟩
 ·show (w.heap.push _)[w.heap.size]?=_
  simp
 ·rcases h with ⟨_,rfl,_⟩ | ⟨x,_,h1,h2,_⟩
  ·exact Nat.zero_le _
  ·exact Nat.le_trans h1 h2
 ·intro i hi
  rcases h with ⟨_,rfl,_⟩ | ⟨x,rfl,h1,h2,h3,h4,h5⟩
  ·omega
  ·obtain ⟨c,o,sp⟩:=x
   have hc:=h4 i (by omega)
   have hc0:=h4 0 (by omega)
   have hsp:sp=none:=by simpa [Addr.add] using World.cell?_spot hc0
   subst hsp
   have e:(⟨c,o,none⟩:Addr).add i=⟨c,o+i,none⟩:=by
    unfold Addr.add
    split
    ·rename_i h;subst h;rfl
    ·rfl
   rw [e] at hc
   have hlt:=World.block_lt_of_cell? w ⟨c,o+i,none⟩ hc
   exact ⟨c,o,zs.getD i 0,rfl,by simpa using hlt,(World.grownBy_alloc w _ none).cell hc (by simp)⟩
def Tp (W:World) (b:Nat) (w:World):Prop:=TapeAt w b∧Below W.heap.size W w∧W.heap.size≤b
theorem Tp.start {w:World} {a:Option Addr} {len cap:Nat} {zs:List Int} (h:IsRow .i64 w a len cap zs) :
  Tp w w.heap.size (w.alloc (.cells #[.slice a len cap,.int .i64 0] 34)):=
 ⟨tape_of_row h,B_.alloc (Nat.le_refl _) _,Nat.le_refl _⟩
theorem Tp.alloc {W w:World} {b:Nat} (h:Tp W b w) (o:Obj):Tp W b (w.alloc o):=⟨h.1.alloc o,h.2.1.alloc h.2.1.size o,h.2.2⟩
theorem Tp.below {W w:World} {b:Nat} (h:Tp W b w):Below W.heap.size W w:=h.2.1
theorem Tp.lt {W w:World} {b:Nat} (h:Tp W b w):b<w.heap.size:=by
 obtain ⟨⟨a,len,cap,k,h1,_⟩,_⟩:=h
 exact (Array.getElem?_eq_some_iff.1 h1).1
def DrewT (n:Int) (W:World) (b:Nat) (w:World) (e:Ending) (w':World):Prop:=∃x,e = .returned (.int .i64 x)∧0≤x∧x<n∧Tp W b w'∧w.grownBy w' (some b)
theorem next_t (n:Int) (W w:World) (b:Nat) (h1n:1≤n) (h2n:n≤9223372036854775807) (h:Tp W b w) :
  Calls Tryz.prog 7 #[.pointer (some ⟨b,0,none⟩),.int .i64 n] w (DrewT n W b w):=by
 refine (next_w n w b h1n h2n h.1).mono ?_
 rintro e w' ⟨x,rfl,h0,h1,hg,ht⟩
 exact ⟨x,rfl,h0,h1,⟨ht,h.2.1.grown hg h.2.1.size (by intro k hk;have h2:=h.2.2;simp at hk;omega),h.2.2⟩,hg⟩
theorem Tp.step {W w w':World} {b:Nat} (h:Tp W b w) (hb:Below w.heap.size w w'):Tp W b w':=by
 have hg:w.grownBy w' none:=⟨hb.os,hb.tape,hb.output,hb.size,fun k hk _=>hb.block k hk⟩
 refine ⟨h.1.kept hg (by simp) (by simp),h.2.1.trans (hb.mono h.2.1.size),h.2.2⟩
theorem TapeAt.set {w:World} {b:Nat} (h:TapeAt w b) (p:Addr) (v:Value) (hp:b<p.block):TapeAt (w.setCell p v) b:=by
 have hg:=grownBy_setCell w p v
 obtain ⟨a,len,cap,k,h1,h2,h3,h4⟩:=h
 refine ⟨a,len,cap,k,?_,h2,h3,?_⟩
 ·rw [hg.block b (Array.getElem?_eq_some_iff.1 h1).1 (by simp;omega)];exact h1
 ·intro i hi
  obtain ⟨c,o,x,ha,hc,hx⟩:=h4 i hi
  exact ⟨c,o,x,ha,hc,hg.cell hx (by simp;omega)⟩
theorem Tp.set {W w:World} {b:Nat} (h:Tp W b w) (p:Addr) (v:Value) (hp:b<p.block):Tp W b (w.setCell p v):=
 ⟨h.1.set p v hp,h.2.1.setCell (Nat.le_trans h.2.2 (Nat.le_of_lt hp)) v,h.2.2⟩
end
section
theorem gb_block {w w':World} {b g:Nat} {o:Obj} (hg:w.grownBy w' (some b)) (hn:g≠b) (h:w.heap[g]?=some o):w'.heap[g]?=some o:=
 (hg.block _ (Array.getElem?_eq_some_iff.1 h).1 (by simpa using hn)).trans h
theorem gb_of_below {w w':World} (hb:Below w.heap.size w w') (row:Option Nat):w.grownBy w' row:=⟨hb.os,hb.tape,hb.output,hb.size,fun k hk _=>hb.block k hk⟩
structure TQ (b:Nat) where
 p:Value→World→Prop
 st:∀v w w',w.grownBy w' (some b)→p v w→p v w'
def TQ.any {b:Nat}:TQ b:=⟨fun _ _=>True,fun _ _ _ _ h=>h⟩
def TQ.eq {b:Nat} (x:Value):TQ b:=⟨fun v _=>v=x,fun _ _ _ _ h=>h⟩
def TQ.int {b:Nat} (lo hi:Int):TQ b:=⟨fun v _=>∃y:Int,v = .int .i64 y∧lo≤y∧y<hi,fun _ _ _ _ h=>h⟩
def TQ.nat {b:Nat} (n:Nat):TQ b:=⟨fun v _=>∃i:Nat,v = .int .i64 i∧i<n,fun _ _ _ _ h=>h⟩
def rowO (l:List Int) (t:TypeId):Obj:= .cells (l.map (Value.int .i64)).toArray t (0,0)
def TQ.row {b:Nat} (l:List Int) (t:TypeId):TQ b:=⟨fun v w=>∃g,v = .slice (some ⟨g,0,none⟩) l.length l.length∧g≠b∧w.heap[g]?=some (rowO l t),fun _ _ _ hg ⟨g,h1,h2,h3⟩=>⟨g,h1,h2,gb_block hg h2 h3⟩⟩
def TQ.at_ {b:Nat} (l:List Int) (t:TypeId):TQ b:=⟨fun v w=>∃g i:Nat,v = .pointer (some ⟨g,i,none⟩)∧i<l.length∧g≠b∧w.heap[g]?=some (rowO l t),fun _ _ _ hg ⟨g,i,h1,h2,h3,h4⟩=>⟨g,i,h1,h2,h3,gb_block hg h3 h4⟩⟩
theorem row_at {w:World} {g i:Nat} {l:List Int} {t:TypeId} (h:w.heap[g]?=some (rowO l t)) (hi:i<l.length):∃y ∈ l,w.cell? ⟨g,i,none⟩=some (.int .i64 y):=
 ⟨l[i],List.getElem_mem hi,by rw [cells_at h];simp [hi]⟩
theorem gb_setRow (w:World) (g:Nat) (cs:Array Value):w.grownBy (w.setRow g cs) (some g):=
 ⟨rfl,rfl,rfl,by simp [World.setRow],fun k _ hk=>setRow_other w g k cs fun e=>hk (by rw [e])⟩
theorem Tp.gb {W w w':World} {b g:Nat} (h:Tp W b w) (hg:w.grownBy w' (some g)) (hb:b<g):Tp W b w':=by
 refine ⟨?_,h.2.1.grown hg h.2.1.size (fun k hk=>by have:=h.2.2;injection hk;omega),h.2.2⟩
 obtain ⟨a,len,cap,k,h1,h2,h3,h4⟩:=h.1
 refine ⟨a,len,cap,k,?_,h2,h3,?_⟩
 ·rw [hg.block b (Array.getElem?_eq_some_iff.1 h1).1 (by simp;omega)];exact h1
 ·intro i hi
  obtain ⟨c,o,x,ha,hc,hx⟩:=h4 i hi
  exact ⟨c,o,x,ha,hc,hg.cell hx (by simp;omega)⟩
theorem Tp.gb' {W w w':World} {b:Nat} {r:Option Nat} (h:Tp W b w) (hg:w.grownBy w' r) (hr:∀k,r=some k→b<k):Tp W b w':=by
 cases r with
 | none=>exact h.step ⟨hg.os,hg.tape,hg.output,hg.size,fun z hz=>hg.block z hz (by simp)⟩
 | some k=>exact h.gb hg (hr k rfl)
def GT {b:Nat} (ls:List (TQ b)) (j:Nat) (v:Value) (w:World):Prop:=(ls.getD j TQ.any).p v w
theorem GT.keep {b:Nat} {ls:List (TQ b)} {w w':World} (hr:w.grownBy w' (some b)) (j:Nat) (v:Value) (h:GT ls j v w):GT ls j v w':=(ls.getD j TQ.any).st v w w' hr h
end
end Go.Proofs.YthhekebemmckcaaGreatDoor
