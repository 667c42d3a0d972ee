/-
  A map from numbers to true that a call makes (a set): look-up, store and len at the operation.
-/
import Derived.Test.YtjnaphhbkbigcaaInts
import Derived.Maps.OwnSet
namespace Go.Proofs.Ytjnaphhbkbigcaa
open Go.RowKit
open Go.MapKept (IsKey findNow_spec)
set_option linter.unusedVariables false
set_option linter.unusedSimpArgs false

/-- Block b is a map that has just the keys K, in this order, each with true. -/
def MB (w : World) (b : Nat) (K : List Int) : Prop := ∃ es clock, w.heap[b]? = some (.map es clock) ∧ es.toList.map (·.key) = K.map (Value.int .i64) ∧ ∀ e ∈ es.toList, e.val = .bool true
theorem MB.made (w : World) : MB (w.alloc (.map #[] 0)) w.heap.size [] := ⟨#[], 0, heap_alloc_at _ _, rfl, fun e he => by simp at he⟩
theorem MB.lt {w : World} {b : Nat} {K : List Int} (h : MB w b K) : b < w.heap.size := by
  obtain ⟨es, clock, h1, _⟩ := h
  exact (Array.getElem?_eq_some_iff.1 h1).1
theorem MB.block {w w' : World} {b : Nat} {K : List Int} (h : MB w b K) (hb : w'.heap[b]? = w.heap[b]?) : MB w' b K := by
  obtain ⟨es, clock, h1, h2⟩ := h
  exact ⟨es, clock, hb.trans h1, h2⟩
theorem MB.step {w w' : World} {b : Nat} {K : List Int} (h : MB w b K) (hb : Below w.heap.size w w') : MB w' b K := h.block (hb.block b h.lt)
theorem MB.grown {w w' : World} {b : Nat} {K : List Int} {row : Option Nat} (h : MB w b K) (hg : w.grownBy w' row) (hr : some b ≠ row) : MB w' b K := h.block (hg.block b h.lt hr)
section
variable {P : Program} {w : World} {b : Nat} {K : List Int} {t k e : TypeId}
theorem MB.keys {es : Array MapEntry} (h : es.toList.map (·.key) = K.map (Value.int .i64)) : ∀ x ∈ es.toList, IsKey (.int .i64) x.key := by
  intro x hx
  have : x.key ∈ es.toList.map (·.key) := List.mem_map.2 ⟨x, hx, rfl⟩
  rw [h] at this
  obtain ⟨z, _, hz⟩ := List.mem_map.1 this
  rw [← hz]
  simp [IsKey]
theorem MB.look (h : MB w b K) (ht : P.underlying t = some (.map k e)) (hk : P.underlying k = some (.int .i64)) (hz : (zeroValue e).run P w = .ok (.bool false) w) (x : Int) :
    (Instr.lookup t (.map (some b)) (.int .i64 x) false).run P w = .ok (.bool (decide (x ∈ K))) w := by
  obtain ⟨es, clock, hb, hkey, hval⟩ := h
  have hx : IsKey (.int .i64) (.int .i64 x) := by simp [IsKey]
  rcases findNow_spec hx es.toList 0 (MB.keys hkey) with ⟨h1, h2⟩ | ⟨j, e0, h1, h2, h3⟩
  · have hn : x ∉ K := fun hm => by
      have : Value.int .i64 x ∈ es.toList.map (·.key) := by rw [hkey]; exact List.mem_map.2 ⟨x, hm, rfl⟩
      obtain ⟨y, hy, he⟩ := List.mem_map.1 this
      exact h2 y hy he
    simp [Instr.lookup, run_underlying ht, MapKept.run_getObj_map hb, MapKept.run_checkKey hk hx, MapKept.run_findKey hk h1, hz, Result.andThen, hn]
  · have hm : x ∈ K := by
      have : e0.key ∈ es.toList.map (·.key) := List.mem_map.2 ⟨e0, List.mem_of_getElem? h2, rfl⟩
      rw [hkey, h3] at this
      obtain ⟨y, hy, he⟩ := List.mem_map.1 this
      injection he with _ he
      rw [← he]; exact hy
    have hv := hval e0 (List.mem_of_getElem? h2)
    simp [Instr.lookup, run_underlying ht, MapKept.run_getObj_map hb, MapKept.run_checkKey hk hx, MapKept.run_findKey hk h1, Result.andThen, hm, hv]
/-- The keys behind a store. -/
def addK (K : List Int) (x : Int) : List Int := if x ∈ K then K else K ++ [x]
theorem MB.store (h : MB w b K) (ht : P.underlying t = some (.map k e)) (hk : P.underlying k = some (.int .i64)) (x : Int) :
    ∃ w', (Instr.mapUpdate t (.map (some b)) (.int .i64 x) (.bool true)).run P w = .ok () w' ∧ MB w' b (addK K x) ∧ w.grownBy w' (some b) := by
  obtain ⟨es, clock, hb, hkey, hval⟩ := h
  have hx : IsKey (.int .i64) (.int .i64 x) := by simp [IsKey]
  have hg : ∀ o : Obj, w.grownBy { w with heap := w.heap.setIfInBounds b o } (some b) := fun o => ⟨rfl, rfl, rfl, by simp, fun i _ hi => (MapKept.heap_set hb).2 i (fun h => hi (by rw [h]))⟩
  rcases findNow_spec hx es.toList 0 (MB.keys hkey) with ⟨h1, h2⟩ | ⟨j, e0, h1, h2, h3⟩
  · have hn : x ∉ K := fun hm => by
      have : Value.int .i64 x ∈ es.toList.map (·.key) := by rw [hkey]; exact List.mem_map.2 ⟨x, hm, rfl⟩
      obtain ⟨y, hy, he⟩ := List.mem_map.1 this
      exact h2 y hy he
    refine ⟨_, ?_, ⟨es.push ⟨.int .i64 x, .bool true, clock⟩, clock + 1, (MapKept.heap_set hb).1, ?_, ?_⟩, hg _⟩
    · simp [Instr.mapUpdate, run_underlying ht, MapKept.run_getObj_map hb, MapKept.run_checkKey hk hx, MapKept.run_findKey hk h1, MapKept.run_setObj_map _ hb, Result.andThen]
    · unfold addK
      rw [if_neg hn, Array.toList_push, List.map_append, hkey, List.map_append]
      rfl
    · intro y hy
      rw [Array.toList_push, List.mem_append] at hy
      rcases hy with hy | hy
      · exact hval y hy
      · simp only [List.mem_singleton] at hy
        rw [hy]
  · have hm : x ∈ K := by
      have : e0.key ∈ es.toList.map (·.key) := List.mem_map.2 ⟨e0, List.mem_of_getElem? h2, rfl⟩
      rw [hkey, h3] at this
      obtain ⟨y, hy, he⟩ := List.mem_map.1 this
      injection he with _ he
      rw [← he]; exact hy
    have hj : es[j]? = some e0 := by simpa using h2
    have hlt : j < es.size := (Array.getElem?_eq_some_iff.1 hj).1
    refine ⟨_, ?_, ⟨es.modify j fun e => { e with key := .int .i64 x, val := .bool true }, clock, (MapKept.heap_set hb).1, ?_, ?_⟩, hg _⟩
    · simp [Instr.mapUpdate, run_underlying ht, MapKept.run_getObj_map hb, MapKept.run_checkKey hk hx, MapKept.run_findKey hk h1, MapKept.run_setObj_map _ hb, Result.andThen, hj, h3, Instr.keyThatStays, Instr.sameBits]
    · unfold addK
      rw [if_pos hm, ← hkey]
      apply List.ext_getElem?
      intro i
      rw [List.getElem?_map, List.getElem?_map, Array.getElem?_toList, Array.getElem?_toList, Array.getElem?_modify]
      by_cases hij : j = i
      · subst hij
        rw [if_pos rfl, hj]
        simp [h3]
      · rw [if_neg hij]
    · intro y hy
      obtain ⟨i, hi⟩ := List.getElem?_of_mem hy
      rw [Array.getElem?_toList, Array.getElem?_modify] at hi
      by_cases hij : j = i
      · subst hij
        rw [if_pos rfl, hj] at hi
        simp at hi
        rw [← hi]
      · rw [if_neg hij] at hi
        exact hval y (List.mem_of_getElem? (by rw [Array.getElem?_toList]; exact hi))
theorem MB.len (h : MB w b K) (ht : P.underlying t = some (.map k e)) (ty : TypeId) : (Builtin.len_ #[t] ty #[.map (some b)]).run P w = .ok (.int .i64 K.length) w := by
  obtain ⟨es, clock, hb, hkey, _⟩ := h
  have e1 : es.size = K.length := by
    have := congrArg List.length hkey
    simpa using this
  simp [Builtin.len_, run_underlying ht, MapKept.run_getObj_map hb, goInt, Result.andThen, e1]
variable {ops : Array Oper} {rest : List Oper} {o : Oper} {a : Act} {Q : Exit → Act → World → Prop}
theorem wpList_look_mb (hw : Region.wanted o (yielded ops a.tmps) = true) (m x : Operand) (t : TypeId) (hop : o.op = Op.lookup t m x false) (k e : TypeId) (ht : P.underlying t = some (.map k e)) (hk : P.underlying k = some (.int .i64)) (hz : (zeroValue e).run P w = .ok (.bool false) w)
    (b : Nat) (K : List Int) (hm : a.eval m = .map (some b)) (h : MB w b K) (z : Int) (hx : a.eval x = .int .i64 z) (hK : wpList P ops Q rest (a.put o.dst (.bool (decide (z ∈ K)))) w) : wpList P ops Q (o :: rest) a w := by
  refine BigFrame.wpList_want hw fun K' hK' => ?_
  unfold Oper.wp
  simp [execOp, hop, hm, hx, h.look ht hk hz z, Result.andThen]
  exact hK' _ _ hK
theorem wpList_store_mb (hg : o.guard = none) (m x v : Operand) (t : TypeId) (hop : o.op = Op.mapUpdate t m x v) (k e : TypeId) (ht : P.underlying t = some (.map k e)) (hk : P.underlying k = some (.int .i64))
    (b : Nat) (K : List Int) (hm : a.eval m = .map (some b)) (h : MB w b K) (z : Int) (hx : a.eval x = .int .i64 z) (hv : a.eval v = .bool true) (hK : ∀ w', MB w' b (addK K z) → w.grownBy w' (some b) → wpList P ops Q rest (a.put o.dst undef) w') : wpList P ops Q (o :: rest) a w := by
  refine wpList_plain hg fun K' hK' => ?_
  obtain ⟨w', hrun, r1, r2⟩ := h.store ht hk z
  unfold Oper.wp
  simp [execOp, hop, hm, hx, hv, hrun, Result.andThen]
  exact hK' _ _ (hK w' r1 r2)
theorem wpList_len_mb (hg : o.guard = none) (m : Operand) (t : TypeId) (hop : o.op = Op.call { callee := Callee.builtin Builtin.len, args := #[m], argTypes := #[t] }) (k e : TypeId) (ht : P.underlying t = some (.map k e))
    (b : Nat) (K : List Int) (hm : a.eval m = .map (some b)) (h : MB w b K) (hK : wpList P ops Q rest (a.put o.dst (.int .i64 K.length)) w) : wpList P ops Q (o :: rest) a w := by
  refine wpList_plain hg fun K' hK' => ?_
  unfold Oper.wp
  simp [execOp, hop, resolve, invoke, builtin, hm, h.len ht o.type, Result.andThen]
  exact hK' _ _ hK
end

end Go.Proofs.Ytjnaphhbkbigcaa
