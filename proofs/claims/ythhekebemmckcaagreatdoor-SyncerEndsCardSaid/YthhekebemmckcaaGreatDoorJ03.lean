/-
  Lemmas and contracts for the laws of synchronisations (layer 43), part 3; several texts joined by a program.
-/
import Derived.Test.YthhekebemmckcaaGreatDoorJ01
import Derived.Test.YthhekebemmckcaaGreatDoorJ02
import Derived.ArgAppend
import Derived.Deep.MidRow
namespace Go.Proofs.YthhekebemmckcaaGreatDoor
set_option linter.unusedVariables false
set_option linter.unusedSimpArgs false
set_option maxRecDepth 100000
set_option maxHeartbeats 16000000
open Go.RowKit
section
theorem KeepS.trans {S:Nat→Prop} {a b c:World} (h:KeepS S a b) (g:KeepS S b c):KeepS S a c:=
 ⟨Nat.le_trans h.1 g.1,fun z hz hl=>(g.2 z hz (Nat.lt_of_lt_of_le hl h.1)).trans (h.2 z hz hl)⟩
theorem KeepS.of_below {S:Nat→Prop} {w w':World} (hb:Below w.heap.size w w'):KeepS S w w':=⟨hb.size,fun z _ h=>hb.block z h⟩
theorem KeepS.of_gb {S:Nat→Prop} {w w':World} {r:Option Nat} (hg:w.grownBy w' r) (hr:∀k,r=some k→¬S k):KeepS S w w':=
 ⟨hg.size,fun z hz h=>hg.block z h fun e=>hr z e.symm hz⟩
theorem scs_heap (g:Nat):∀(vs:List Value) (o:Nat) (w:World) (z:Nat),z≠g→(w.setCells g o vs).heap[z]?=w.heap[z]?
 | [],_,_,_,_=>rfl
 | v :: vs,o,w,z,hz=>by
  rw [World.setCells,scs_heap g vs (o+1) _ z hz]
  exact Below.heap_setCell w ⟨g,o,none⟩ v z hz
theorem setCells_size (g:Nat):∀(vs:List Value) (o:Nat) (w:World),(w.setCells g o vs).heap.size=w.heap.size
 | [],_,_=>rfl
 | v :: vs,o,w=>by rw [World.setCells,setCells_size g vs];simp [World.setCell]
theorem KeepS.of_setCells {S:Nat→Prop} (w:World) (g o:Nat) (vs:List Value) (hg:¬S g):KeepS S w (w.setCells g o vs):=
 ⟨Nat.le_of_eq (setCells_size g vs o w).symm,fun z hz _=>scs_heap g vs o w z (fun e=>hg (e ▸ hz))⟩
theorem KeepS.of_setCell {S:Nat→Prop} (w:World) (p:Addr) (v:Value) (hg:¬S p.block):KeepS S w (w.setCell p v):=
 ⟨by simp [World.setCell],fun z hz _=>Below.heap_setCell w p v z fun e=>hg (e ▸ hz)⟩
theorem KeepS.of_setRow {S:Nat→Prop} (w:World) (X:Nat) (cs:Array Value) (h:¬S X):KeepS S w (w.setRow X cs):=
 ⟨Nat.le_of_eq (by simp [World.setRow]),fun z hz _=>by
  show (w.setRow X cs).heap[z]?=_
  have hn:z≠X:=fun e=>h (e ▸ hz)
  simp only [World.setRow,Array.getElem?_modify]
  rw [if_neg (fun e=>hn e.symm)]⟩
theorem KeepS.of_alloc {S:Nat→Prop} (w:World) (o:Obj):KeepS S w (w.alloc o):=KeepS.of_below (B_.alloc (Nat.le_refl _) _)
theorem flat_get {k:Nat}:∀(rows:List (List Value)),(∀r ∈ rows,r.length=k)→∀(i:Nat) (r:List Value) (j:Nat) (u:Value),rows[i]?=some r→r[j]?=some u→rows.flatten[i*k+j]?=some u
 | [],_,i,r,j,u,hi,_=>by simp at hi
 | x :: rows,h,0,r,j,u,hi,hj=>by
  have hx:x=r:=by simpa using hi
  subst hx
  rw [Nat.zero_mul,Nat.zero_add,List.flatten_cons,List.getElem?_append_left ((g_l hj))]
  exact hj
 | x :: rows,h,i+1,r,j,u,hi,hj=>by
  have hx:x.length=k:=h x (List.mem_cons_self ..)
  rw [List.flatten_cons,List.getElem?_append_right (by rw [hx,Nat.succ_mul];omega)]
  rw [show (i+1)*k+j - x.length=i*k+j by rw [hx,Nat.succ_mul];omega]
  exact flat_get rows (fun r hr=>h r (List.mem_cons_of_mem _ hr)) i r j u (by simpa using hi) hj
theorem flat_ix {k:Nat}:∀(rows:List (List Value)),(∀r ∈ rows,r.length=k)→∀(n:Nat) (u:Value),rows.flatten[n]?=some u→∃(i:Nat) (r:List Value) (j:Nat),rows[i]?=some r∧r[j]?=some u∧n=i*k+j
 | [],_,n,u,hn=>by simp at hn
 | x :: rows,h,n,u,hn=>by
  have hx:x.length=k:=h x (List.mem_cons_self ..)
  by_cases hlt:n<x.length
  ·rw [List.flatten_cons,List.getElem?_append_left hlt] at hn
   exact ⟨0,x,n,rfl,hn,by omega⟩
  ·rw [List.flatten_cons,List.getElem?_append_right (by omega)] at hn
   obtain ⟨i,r,j,h1,h2,h3⟩:=flat_ix rows (fun r hr=>h r (List.mem_cons_of_mem _ hr)) _ u hn
   exact ⟨i+1,r,j,by simpa using h1,h2,by rw [Nat.succ_mul];omega⟩
theorem flat_len {k:Nat}:∀(rows:List (List Value)),(∀r ∈ rows,r.length=k)→rows.flatten.length=rows.length*k
 | [],_=>by simp
 | x :: rows,h=>by
  rw [List.flatten_cons,List.length_append,h x (List.mem_cons_self ..),flat_len rows (fun r hr=>h r (List.mem_cons_of_mem _ hr)),List.length_cons,Nat.succ_mul];omega
def Shp (k:Nat) (rows:List (List Value)):Prop:=∀r ∈ rows,r.length=k∧∀u ∈ r,u.oneCell'=true
theorem Shp.len {k:Nat} {rows:List (List Value)} (h:Shp k rows):∀r ∈ rows,r.length=k:=fun r hr=>(h r hr).1
theorem Shp.one {k:Nat} {rows:List (List Value)} (h:Shp k rows):∀u ∈ rows.flatten,u.oneCell'=true:=fun u hu=>by
 obtain ⟨r,hr,hu⟩:=List.mem_flatten.1 hu
 exact (h r hr).2 u hu
theorem Shp.nil {k:Nat}:Shp k []:=fun r hr=>by simp at hr
theorem Shp.sub {k:Nat} {l l':List (List Value)} (h:Shp k l) (hs:∀r ∈ l',r ∈ l):Shp k l':=fun r hr=>h r (hs r hr)
theorem Shp.set {k:Nat} {l:List (List Value)} (h:Shp k l) {i:Nat} {r:List Value} (hr:r.length=k∧∀u ∈ r,u.oneCell'=true):Shp k (l.set i r):=fun x hx=>by
 rcases List.mem_or_eq_of_mem_set hx with hx | rfl
 ·exact h x hx
 ·exact hr
def RW (k:Nat) (w:World) (S:Nat→Prop) (v:Value) (rows:List (List Value)):Prop:=
 ∃A cap,v = .slice A rows.length cap∧rows.length≤cap∧cap≤maxLen∧Shp k rows∧
  (rows=[]∨∃b o,A=some ⟨b,o,none⟩∧b<w.heap.size∧S b∧∀(i:Nat) (r:List Value) (j:Nat) (u:Value),rows[i]?=some r→r[j]?=some u→w.cell? ⟨b,o+i*k+j,none⟩=some u)
theorem cell_kept {w w':World} {b o:Nat} (h:w'.heap[b]?=w.heap[b]?):w'.cell? ⟨b,o,none⟩=w.cell? ⟨b,o,none⟩:=World.cell?_of_block (a:=⟨b,o,none⟩) h
theorem RW.kept {k:Nat} {w w':World} {S:Nat→Prop} {v:Value} {rows:List (List Value)} (h:RW k w S v rows) (hk:KeepS S w w'):RW k w' S v rows:=by
 obtain ⟨A,cap,e,h1,h2,h3,h4⟩:=h
 refine ⟨A,cap,e,h1,h2,h3,?_⟩
 rcases h4 with h4 | ⟨b,o,e1,hb,hS,hc⟩
 ·exact .inl h4
 ·exact .inr ⟨b,o,e1,Nat.lt_of_lt_of_le hb hk.1,hS,fun i r j u hi hj=>(cell_kept (hk.2 b hS hb)).trans (hc i r j u hi hj)⟩
theorem RW.weak {k:Nat} {w:World} {S S':Nat→Prop} {v:Value} {rows:List (List Value)} (h:RW k w S v rows) (hS:∀b,b<w.heap.size→S b→S' b):RW k w S' v rows:=by
 obtain ⟨A,cap,e,h1,h2,h3,h4⟩:=h
 refine ⟨A,cap,e,h1,h2,h3,?_⟩
 rcases h4 with h4 | ⟨b,o,e1,hb,hs,hc⟩
 ·exact .inl h4
 ·exact .inr ⟨b,o,e1,hb,hS b hb hs,hc⟩
theorem RW.nil (k:Nat) (w:World) (S:Nat→Prop):RW k w S (.slice none 0 0) []:=⟨none,0,rfl,by simp,by unfold maxLen;omega,Shp.nil,.inl rfl⟩
theorem RW.form {k:Nat} {w:World} {S:Nat→Prop} {v:Value} {rows:List (List Value)} (h:RW k w S v rows):∃A cap,v = .slice A rows.length cap∧rows.length≤cap∧cap≤maxLen:=by
 obtain ⟨A,cap,e,h1,h2,_⟩:=h
 exact ⟨A,cap,e,h1,h2⟩
theorem RW.at_ {k:Nat} {w:World} {S:Nat→Prop} {v:Value} {rows:List (List Value)} (h:RW k w S v rows) {i:Nat} (hi:i<rows.length):∃b o cap,v = .slice (some ⟨b,o,none⟩) rows.length cap∧rows.length≤cap∧cap≤maxLen∧b<w.heap.size∧S b∧
  ∀(i:Nat) (r:List Value) (j:Nat) (u:Value),rows[i]?=some r→r[j]?=some u→w.cell? ⟨b,o+i*k+j,none⟩=some u:=by
 obtain ⟨A,cap,e,h1,h2,h3,h4⟩:=h
 rcases h4 with h4 | ⟨b,o,e1,hb,hS,hc⟩
 ·subst h4;simp at hi
 ·subst e1;exact ⟨b,o,cap,e,h1,h2,hb,hS,hc⟩
theorem RW.of_own {k base:Nat} {w:World} {S:Nat→Prop} {v:Value} {rows:List (List Value)} {t:TypeId} (h:w.ownsRow base t k v rows.length rows.flatten) (hs:Shp k rows) (hS:∀b,v.ownBlock=some b→S b):RW k w S v rows:=by
 rcases h.2 with ⟨h1,h2⟩ | ⟨g,cap,cur,h1,h2,h3,h4,h5,h6,h7⟩
 ·exact ⟨none,0,by rw [h1,h2],by omega,by unfold maxLen;omega,hs,.inl (List.eq_nil_of_length_eq_zero h2)⟩
 ·refine ⟨_,cap,h1,h4,h5,hs,.inr ⟨g,0,rfl,bk_lt h3,hS g (by rw [h1];rfl),fun i r j u hi hj=>?_⟩⟩
  have hf:=flat_get rows hs.len i r j u hi hj
  rw [←h7,List.getElem?_take] at hf
  split at hf
  ·rw [Nat.zero_add]
   simpa [World.cell?,h3] using hf
  ·cases hf
def WR (k:Nat) (w:World) (g:Nat) (rows:List (List Value)):Prop:=
 w.there g 0 (rows.length*k)∧g<w.heap.size∧Shp k rows∧∀(i:Nat) (r:List Value) (j:Nat) (u:Value),rows[i]?=some r→r[j]?=some u→w.cell? ⟨g,i*k+j,none⟩=some u
theorem WR.of_own {k base:Nat} {w:World} {v:Value} {rows:List (List Value)} {t:TypeId} (h:w.ownsRow base t k v rows.length rows.flatten) (hs:Shp k rows) (h0:0<rows.length):∃g cap,v = .slice (some ⟨g,0,none⟩) rows.length cap∧rows.length≤cap∧cap≤maxLen∧base≤g∧WR k w g rows:=by
 rcases h.2 with ⟨h1,h2⟩ | ⟨g,cap,cur,h1,h2,h3,h4,h5,h6,h7⟩
 ·omega
 ·have hmul:rows.length*k≤cap*k:=Nat.mul_le_mul_right _ h4
  refine ⟨g,cap,h1,h4,h5,h2,fun j hj=>?_,bk_lt h3,hs,fun i r j u hi hj=>?_⟩
  ·rw [Nat.zero_add,cells_at h3,free_at h3]
   exact ⟨by rw [Array.getElem?_eq_getElem (by omega)];rfl,rfl⟩
  ·have hf:=flat_get rows hs.len i r j u hi hj
   rw [←h7,List.getElem?_take] at hf
   split at hf
   ·simpa [World.cell?,h3] using hf
   ·cases hf
theorem WR.rw {k:Nat} {w:World} {g cap:Nat} {rows:List (List Value)} {S:Nat→Prop} (h:WR k w g rows) (hg:S g) (h1:rows.length≤cap) (h2:cap≤maxLen):RW k w S (.slice (some ⟨g,0,none⟩) rows.length cap) rows:=
 ⟨_,cap,rfl,h1,h2,h.2.2.1,.inr ⟨g,0,rfl,h.2.1,hg,fun i r j u hi hj=>by rw [Nat.zero_add];exact h.2.2.2 i r j u hi hj⟩⟩
theorem WR.block {k:Nat} {w w':World} {g:Nat} {rows:List (List Value)} (h:WR k w g rows) (hb:w'.heap[g]?=w.heap[g]?) (hs:w.heap.size≤w'.heap.size):WR k w' g rows:=by
 obtain ⟨h1,h2,h3,h4⟩:=h
 refine ⟨fun j hj=>?_,by omega,h3,fun i r j u hi hj=>(cell_kept hb).trans (h4 i r j u hi hj)⟩
 obtain ⟨a,b⟩:=h1 j hj
 exact ⟨by rw [cell_kept hb];exact a,by rw [World.frozen?_of_block (a:=⟨g,0+j,none⟩) hb];exact b⟩
theorem WR.setPart {k:Nat} {w:World} {g:Nat} {rows:List (List Value)} (h:WR k w g rows) {i p:Nat} {r vs r':List Value} (hi:rows[i]?=some r) (hp:p+vs.length≤k) (hr':r'=r.take p ++ vs ++ r.drop (p+vs.length)) (h1:∀u ∈ vs,u.oneCell'=true) :
  WR k (w.setCells g (i*k+p) vs) g (rows.set i r'):=by
 obtain ⟨a1,a2,a3,a4⟩:=h
 have hil:=(g_l hi)
 have hrl:r.length=k:=a3.len r (List.mem_of_getElem? hi)
 have hrl':r'.length=k:=by rw [hr'];simp;omega
 have hik:i*k+k≤rows.length*k:=by rw [←Nat.succ_mul];exact Nat.mul_le_mul_right _ hil
 have hth:w.there g (i*k+p) vs.length:=fun j hj=>by
  have:=a1 (i*k+p+j) (by omega)
  rw [Nat.zero_add] at this
  exact this
 have hsame:=World.rangeAt_setCells_same w g (i*k+p) vs hth
 refine ⟨by rw [List.length_set];exact World.there_setCells a1 _ _ _,by rw [setCells_size];exact a2,a3.set ⟨hrl',fun u hu=>?_⟩,fun i' x j u hi' hj=>?_⟩
 ·rw [hr'] at hu
  have ho:=(a3 r (List.mem_of_getElem? hi)).2
  rcases List.mem_append.1 hu with hu | hu
  ·rcases List.mem_append.1 hu with hu | hu
   ·exact ho u (List.mem_of_mem_take hu)
   ·exact h1 u hu
  ·exact ho u (List.mem_of_mem_drop hu)
 ·by_cases he:i'=i
  ·subst he
   rw [List.getElem?_set_self hil] at hi'
   injection hi' with hi'
   subst hi'
   have hjk:j<k:=by have:=(g_l hj);omega
   rw [hr'] at hj
   by_cases hj1:j<p
   ·rw [List.append_assoc,List.getElem?_append_left (by rw [List.length_take];omega),List.getElem?_take,if_pos hj1] at hj
    have:=World.rangeAt_setCells_apart (w:=w) (b':=g) (o':=i'*k+j) (cs:=[u]) (fun z v hz=>by
     match z with
     | 0=>simp at hz;rw [←hz];exact a4 i' r j u hi hj
     | z+1=>simp at hz) g (i'*k+p) vs (.inr (.inl (by simp;omega)))
    exact this 0 u rfl
   ·by_cases hj2:j<p+vs.length
    ·rw [List.append_assoc,List.getElem?_append_right (by rw [List.length_take];omega),List.getElem?_append_left (by rw [List.length_take];omega)] at hj
     have:=hsame _ _ hj
     rw [show i'*k+p+(j - (r.take p).length)=i'*k+j by rw [List.length_take];omega] at this
     exact this
    ·rw [List.getElem?_append_right (by simp;omega),List.getElem?_drop] at hj
     rw [show p+vs.length+(j - (r.take p ++ vs).length)=j by simp;omega] at hj
     have:=World.rangeAt_setCells_apart (w:=w) (b':=g) (o':=i'*k+j) (cs:=[u]) (fun z v hz=>by
      match z with
      | 0=>simp at hz;rw [←hz];exact a4 i' r j u hi hj
      | z+1=>simp at hz) g (i'*k+p) vs (.inr (.inr (by omega)))
     exact this 0 u rfl
  ·rw [List.getElem?_set_ne (fun e=>he e.symm)] at hi'
   have hjk:j<k:=by have:=(g_l hj);have:=a3.len x (List.mem_of_getElem? hi');omega
   have hap:i'*k+1+j≤i*k+p∨i*k+p+vs.length≤i'*k+j:=by
    rcases Nat.lt_or_gt_of_ne he with hlt | hgt
    ·left
     have:(i'+1)*k≤i*k:=Nat.mul_le_mul_right _ hlt
     rw [Nat.succ_mul] at this;omega
    ·right
     have:(i+1)*k≤i'*k:=Nat.mul_le_mul_right _ hgt
     rw [Nat.succ_mul] at this;omega
   have:=World.rangeAt_setCells_apart (w:=w) (b':=g) (o':=i'*k+j) (cs:=[u]) (fun z v hz=>by
    match z with
    | 0=>simp at hz;rw [←hz];exact a4 i' x j u hi' hj
    | z+1=>simp at hz) g (i*k+p) vs (.inr (by simp;omega))
   exact this 0 u rfl
theorem WR.setRow {k:Nat} {w:World} {g:Nat} {rows:List (List Value)} (h:WR k w g rows) {i:Nat} {vs:List Value} (hi:i<rows.length) (hv:vs.length=k) (h1:∀u ∈ vs,u.oneCell'=true):WR k (w.setCells g (i*k) vs) g (rows.set i vs):=by
 have hrl:(rows[i]).length=k:=h.2.2.1.len _ (List.getElem_mem hi)
 have:=h.setPart (i:=i) (p:=0) (r:=rows[i]) (vs:=vs) (r':=vs) (List.getElem?_eq_getElem hi) (by omega) (by rw [List.take_zero,List.nil_append,Nat.zero_add,hv,←hrl,List.drop_length,List.append_nil]) h1
 exact this
theorem WR.there_ {k:Nat} {w:World} {g:Nat} {rows:List (List Value)} (h:WR k w g rows) {i p n:Nat} (hi:i<rows.length) (hp:p+n≤k):w.there g (i*k+p) n:=fun j hj=>by
 have hik:i*k+k≤rows.length*k:=by rw [←Nat.succ_mul];exact Nat.mul_le_mul_right _ hi
 have:=h.1 (i*k+p+j) (by omega)
 rw [Nat.zero_add] at this
 exact this
theorem app_none {P:Program} (t ty e:TypeId) (i:TypeInfo) (ht:P.underlying t=some (.slice e)) (hi:P.info? e=some i) (B:Option Addr) (c:Nat) (w:World) :
  (Builtin.append_ #[t,t] ty #[.slice none 0 0,.slice B 0 c]).run P w = .ok (.slice none 0 0) w:=by
 cases B <;> simp [Builtin.append_,storeCells,run_underlying ht,sizeOf,typeInfo,hi,Builtin.lenOf,Builtin.firstCells,loadCells,loadCellsFrom]
theorem wpList_copy_rows {P:Program} (w:World) {ops:Array Oper} {rest:List Oper} {o:Oper} {a:Act} {Q:Exit→Act→World→Prop}
  (hg:o.guard=none) (s x:Operand) (t:TypeId) (hop:o.op=Op.call {callee:=Callee.builtin Builtin.append,args:=#[s,x],argTypes:=#[t,t]})
  (e:TypeId) (i:TypeInfo) (z:Value) (k bytes:Nat) (h1:P.underlying t=some (.slice e)) (h2:P.info? e=some i) (h3:i.zero=some z) (h4:i.size=k) (h5:i.bytes=bytes) (h6:z.cells.size=k) (h7:0<k)
  (hs:a.eval s = .slice none 0 0) (v:Value) (S:Nat→Prop) (rows:List (List Value)) (hx:a.eval x=v) (hR:RW k w S v rows) (hb:bytes≤1000) (hn:rows.length≤1000000)
  (hK:∀v' w',w'.ownsRow w.heap.size e k v' rows.length rows.flatten→w.grownBy w' none→wpList P ops Q rest (a.put o.dst v') w'):wpList P ops Q (o :: rest) a w:=by
 obtain ⟨A,cap,hv,hc1,hc2,hsh,hc⟩:=hR
 by_cases h0:rows=[]
 ·subst h0
  refine wpList_plain hg fun K hK'=>?_
  have hrun:=app_none (P:=P) t o.type e i h1 h2 A cap w
  unfold Oper.wp execOp
  simp only [hop,resolve,invoke,builtin,Sem.run_bind,Sem.run_pure,Result.andThen_ok,List.map_toArray,List.map_cons,List.map_nil,hs,hx,hv,List.length_nil,hrun]
  exact hK' _ _ (hK _ _ (World.ownsRow_nil _ _ _ _) (World.grownBy.refl _ _))
 ·rcases hc with hc | ⟨b,o',e1,hb',hS,hc⟩
  ·exact absurd hc h0
  ·subst e1
   have hpos:0<rows.length:=List.length_pos_iff.2 h0
   refine wpList_append_grows w hg s x t hop e i z k bytes h1 h2 h3 h4 h5 h6 h7 none 0 0 [] hs (fun _=>⟨rfl,rfl⟩) (by simp) (fun b hb=>by cases hb) ⟨b,o',none⟩ rows.length cap rows.flatten (hx.trans hv) (flat_len rows hsh.len) (fun j u hj=>?_) hsh.one (by omega) (by unfold maxLen;omega) ?_ (fun v' w' hown hgr=>?_)
   ·obtain ⟨i',r,j',hi',hj',rfl⟩:=flat_ix rows hsh.len j u hj
    rw [Addr.add_mid,←Nat.add_assoc]
    exact hc i' r j' u hi' hj'
   ·have:(0+rows.length)*bytes≤1000000*1000:=Nat.mul_le_mul (by omega) hb
    omega
   ·rw [Nat.zero_add,List.nil_append] at hown
    exact hK v' w' hown hgr
end
section
inductive T where
 | mk (kids:List T) (v m:Int)
def T.kids:T→List T | .mk ks _ _=>ks
def T.val:T→Int | .mk _ v _=>v
def T.marks:T→Int | .mk _ _ m=>m
def T.nil:T:= .mk [] 0 0
def emI (n:Nat) (v m:Int):Bool:=decide (n=0)&&(decide (v=0)&&decide (m=0))
def T.emB (t:T):Bool:=emI t.kids.length t.val t.marks
def lfI (n:Nat) (v m:Int):Bool:=decide (n=0∧v≠0∧0≤m∧m≤7∧(0<v∨m=0))
def T.lfB (t:T):Bool:=lfI t.kids.length t.val t.marks
abbrev ndV (A:Option Addr) (n cap:Nat) (v m:Int):Value:= .agg #[.slice A n cap,.int .i64 v,.int .i64 m]
def NC (w:World) (b o:Nat) (A:Option Addr) (n cap:Nat) (v m:Int):Prop:=
 w.cell? ⟨b,o,none⟩=some (.slice A n cap)∧w.cell? ⟨b,o+1,none⟩=some (.int .i64 v)∧w.cell? ⟨b,o+2,none⟩=some (.int .i64 m)
inductive NK (w:World) (S:Nat→Prop):Option Addr→List T→Prop
 | nil (A:Option Addr):NK w S A []
 | mk (b o:Nat) (ks:List T) (A:Nat→Option Addr) (cap:Nat→Nat) (hb:S b) (hlt:b<w.heap.size)
   (hc:∀i k,ks[i]?=some k→NC w b (o+i*3) (A i) k.kids.length (cap i) k.val k.marks) (hl:∀i k,ks[i]?=some k→k.kids.length≤maxLen∧k.kids.length≤cap i)
   (hk:∀i k,ks[i]?=some k→NK w S (A i) k.kids):NK w S (some ⟨b,o,none⟩) ks
theorem NC.block {w w':World} {b o:Nat} {A:Option Addr} {n cap:Nat} {v m:Int} (h:NC w b o A n cap v m) (hb:w'.heap[b]?=w.heap[b]?):NC w' b o A n cap v m:=by
 obtain ⟨h1,h2,h3⟩:=h
 exact ⟨(World.cell?_of_block (a:=⟨b,_,none⟩) hb).trans h1,(World.cell?_of_block (a:=⟨b,_,none⟩) hb).trans h2,(World.cell?_of_block (a:=⟨b,_,none⟩) hb).trans h3⟩
theorem NK.kept {w w':World} {S:Nat→Prop} {A:Option Addr} {ks:List T} (h:NK w S A ks) (hs:w.heap.size≤w'.heap.size) (hb:∀b,S b→b<w.heap.size→w'.heap[b]?=w.heap[b]?):NK w' S A ks:=by
 induction h with
 | nil A=>exact .nil A
 | mk b o ks A cap hS hlt hc hl hk ih=>exact .mk b o ks A cap hS (by omega) (fun i k hi=>(hc i k hi).block (hb b hS hlt)) hl ih
theorem NK.step {w w':World} {S:Nat→Prop} {A:Option Addr} {ks:List T} (h:NK w S A ks) (hb:Below w.heap.size w w'):NK w' S A ks:=h.kept hb.size (fun b _ hlt=>hb.block b hlt)
theorem NK.alloc {w:World} {S:Nat→Prop} {A:Option Addr} {ks:List T} (h:NK w S A ks) (o:Obj):NK (w.alloc o) S A ks:=h.step (B_.alloc (Nat.le_refl _) _)
theorem NK.weak {w:World} {S S':Nat→Prop} {A:Option Addr} {ks:List T} (h:NK w S A ks) (hs:∀b,b<w.heap.size→S b→S' b):NK w S' A ks:=by
 induction h with
 | nil A=>exact .nil A
 | mk b o ks A cap hS hlt hc hl hk ih=>exact .mk b o ks A cap (hs b hlt hS) hlt hc hl ih
theorem NK.at_ {w:World} {S:Nat→Prop} {A:Option Addr} {ks:List T} (h:NK w S A ks) {i:Nat} (hi:i<ks.length):∃b o k A' cap,A=some ⟨b,o,none⟩∧S b∧b<w.heap.size∧ks[i]?=some k∧
  NC w b (o+i*3) A' k.kids.length cap k.val k.marks∧k.kids.length≤maxLen∧k.kids.length≤cap∧NK w S A' k.kids:=by
 cases h with
 | nil A=>simp at hi
 | mk b o ks A cap hS hlt hc hl hk=>
  have he:ks[i]?=some ks[i]:=List.getElem?_eq_getElem hi
  exact ⟨b,o,_,_,_,rfl,hS,hlt,he,hc i _ he,(hl i _ he).1,(hl i _ he).2,hk i _ he⟩
def Any (_:Nat):Prop:=True
section
theorem empty_w (A:Option Addr) (n cap:Nat) (v m:Int) (w:World):Calls Tryz.prog 145 #[ndV A n cap v m] w (RetB (emI n v m) w):=by
  have HB:=H_ ((Below.refl w.heap.size w).alloc (Nat.le_refl _) (.cells #[.slice A n cap,.int .i64 v,.int .i64 m] 70))
  unfold emI
  rcases n with _ | n
  ·by_cases h1:v=0
   ·subst h1
    by_cases h2:m=0
    ·subst h2
     go_enter Tryz.func145,Tryz.ntmps145
     go_wp2
     go_ret
     exact ⟨by simp,HB.out⟩
    ·have hd:decide (m=0)=false:=decide_eq_false h2
     go_enter Tryz.func145,Tryz.ntmps145
     go_wp2
     go_ret
     exact ⟨by simp [h2],HB.out⟩
   ·have hd:decide (v=0)=false:=decide_eq_false h1
    go_enter Tryz.func145,Tryz.ntmps145
    go_wp2
    go_ret
    exact ⟨by simp [h1],HB.out⟩
  ·have h0:((n:Int)+1=0)=False:=by simp;omega
   go_enter Tryz.func145,Tryz.ntmps145
   go_wp2
   go_ret
   exact ⟨by simp,HB.out⟩
theorem rEmpty_w (A:Option Addr) (n cap:Nat) (v m:Int) (w:World):Calls Tryz.prog 158 #[ndV A n cap v m] w (RetB (emI n v m) w):=by
  have HB:=H_ ((Below.refl w.heap.size w).alloc (Nat.le_refl _) (.cells #[.slice A n cap,.int .i64 v,.int .i64 m] 70))
  unfold emI
  rcases n with _ | n
  ·by_cases h1:v=0
   ·subst h1
    by_cases h2:m=0
    ·subst h2
     go_enter Tryz.func158,Tryz.ntmps158
     go_wp2
     go_ret
     exact ⟨by simp,HB.out⟩
    ·have hd:decide (m=0)=false:=decide_eq_false h2
     go_enter Tryz.func158,Tryz.ntmps158
     go_wp2
     go_ret
     exact ⟨by simp [h2],HB.out⟩
   ·have hd:decide (v=0)=false:=decide_eq_false h1
    go_enter Tryz.func158,Tryz.ntmps158
    go_wp2
    go_ret
    exact ⟨by simp [h1],HB.out⟩
  ·have h0:((n:Int)+1=0)=False:=by simp;omega
   go_enter Tryz.func158,Tryz.ntmps158
   go_wp2
   go_ret
   exact ⟨by simp,HB.out⟩
theorem leaf_w (A:Option Addr) (n cap:Nat) (v m:Int) (w:World):Calls Tryz.prog 164 #[ndV A n cap v m] w (RetB (lfI n v m) w):=by
 have HB:=H_ ((Below.refl w.heap.size w).alloc (Nat.le_refl _) (.cells #[.slice A n cap,.int .i64 v,.int .i64 m] 70))
 rcases n with _ | n
 ·by_cases h1:v=0
  ·have HR:=H_ (show lfI 0 v m=false from dF (by omega))
   subst h1
   go_enter Tryz.func164,Tryz.ntmps164
   go_wp2
   go_ret
   exact ⟨ret_bool HR.out.symm,HB.out⟩
  ·have d1:decide (v=0)=false:=decide_eq_false h1
   have d1':(v == 0)=false:=by simpa using h1
   by_cases h2:0≤m
   ·by_cases h3:m≤7
    ·by_cases h4:0<v
     ·have HR:=H_ (show lfI 0 v m=true from dT (by omega))
      go_enter Tryz.func164,Tryz.ntmps164
      go_wp2
      go_ret
      exact ⟨ret_bool (by rw [HR.out];simpa using h1),HB.out⟩
     ·by_cases h5:m=0
      ·have HR:=H_ (show lfI 0 v m=true from dT (by omega))
       subst h5
       go_enter Tryz.func164,Tryz.ntmps164
       go_wp2
       go_ret
       exact ⟨ret_bool (by rw [HR.out];simpa using h1),HB.out⟩
      ·have HR:=H_ (show lfI 0 v m=false from dF (by omega))
       have d5:decide (m=0)=false:=decide_eq_false h5
       go_enter Tryz.func164,Tryz.ntmps164
       go_wp2
       go_ret
       exact ⟨ret_bool (HR.out.symm ▸ by first | rfl | assumption | simp [h5]),HB.out⟩
    ·have HR:=H_ (show lfI 0 v m=false from dF (by omega))
     go_enter Tryz.func164,Tryz.ntmps164
     go_wp2
     go_ret
     exact ⟨ret_bool HR.out.symm,HB.out⟩
   ·have HR:=H_ (show lfI 0 v m=false from dF (by omega))
    go_enter Tryz.func164,Tryz.ntmps164
    go_wp2
    go_ret
    exact ⟨ret_bool HR.out.symm,HB.out⟩
 ·have HR:=H_ (show lfI (n+1) v m=false from dF (by omega))
  have h0:((n:Int)+1=0)=False:=by simp;omega
  go_enter Tryz.func164,Tryz.ntmps164
  go_wp2
  go_ret
  exact ⟨ret_bool HR.out.symm,HB.out⟩
end
end
end Go.Proofs.YthhekebemmckcaaGreatDoor
