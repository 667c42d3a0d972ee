/-
  Two tallies are compared.
-/
import Derived.Test.YtehhdeafimomfaaStat3
import Derived.Laws.StructEq
import Derived.ChangeKeysEq
import Derived.StillTailTactics
namespace Go.Proofs.Ytehhdeafimomfaa
open Go.RowKit
set_option linter.unusedVariables false

section
variable {P : Program} {ops : Array Oper}
theorem wpStill_load_row {rest : List Oper} {o : Oper} {a : Act} {w : World} {Q : Act → Prop} (hgd : o.guard = none) (ty : TypeId) (x : Operand) (ho : o.op = .load ty x)
    (g : Nat) (hx : a.eval x = .pointer (some ⟨g, 0, none⟩)) (t : TypeId) (cs : Array Value) (fr : Nat × Nat) (d : TypeDesc) (hg : w.heap[g]? = some (.cells cs t fr))
    (hu : P.underlying ty = some d) (hd : (match d with | .struct _ | .array _ _ => true | _ => false) = true) (hi : (P.info? ty).map (·.size) = some cs.size)
    (h : wpStill P ops w Q rest (a.put o.dst (.agg cs))) : wpStill P ops w Q (o :: rest) a :=
  wpStill_step fun K hK => by
    rw [if_pos (by simp [Region.wanted, hgd])]
    unfold Oper.still execOp
    simp only [ho, hx, Instr.loadAt, Instr.sureAddr, Sem.run_bind, Sem.run_pure, Result.andThen_ok, run_loadVar_row w g t ty cs fr d hg hu hd hi]
    exact ⟨rfl, hK _ h⟩
theorem wpQuiet_load_row {C : World → Prop} {rest : List Oper} {o : Oper} {a : Act} {Q : Act → Prop} (hgd : o.guard = none) (ty : TypeId) (x : Operand) (ho : o.op = .load ty x)
    (g : Nat) (hx : a.eval x = .pointer (some ⟨g, 0, none⟩)) (t : TypeId) (cs : Array Value) (fr : Nat × Nat) (d : TypeDesc) (hg : ∀ w, C w → w.heap[g]? = some (.cells cs t fr))
    (hu : P.underlying ty = some d) (hd : (match d with | .struct _ | .array _ _ => true | _ => false) = true) (hi : (P.info? ty).map (·.size) = some cs.size)
    (h : wpQuiet P ops C Q rest (a.put o.dst (.agg cs))) : wpQuiet P ops C Q (o :: rest) a :=
  wpQuiet_step fun K hK => by
    rw [if_pos (by simp [Region.wanted, hgd])]
    refine ⟨.agg cs, fun w hw => ?_, hK _ h⟩
    unfold Oper.quietAt execOp
    simp only [ho, hx, Instr.loadAt, Instr.sureAddr, Sem.run_bind, Sem.run_pure, Result.andThen_ok, run_loadVar_row w g t ty cs fr d (hg w hw) hu hd hi]
    exact ⟨rfl, rfl⟩
end

theorem self_fields {P : Program} (w : World) (d : Nat) (xs : Array Value) : ∀ fs : List Field,
    (∀ f ∈ fs, ∃ a, (part f.type xs f.offset).run P w = .ok a w ∧ (Op.equalIn d f.type a a).run P w = .ok true w) → (Op.eqFields d xs xs fs).run P w = .ok true w
  | [], _ => by simp [Op.eqFields]
  | f :: fs, h => by
    obtain ⟨a, h1, h2⟩ := h f (by simp)
    have ih := self_fields w d xs fs (fun g hg => h g (by simp [hg]))
    simp only [Op.eqFields, Sem.run_ite, Sem.run_bind, h1, h2, Result.andThen_ok, Bool.not_true, Bool.false_eq_true, if_false, ih, ite_self]
theorem self_items {P : Program} (w : World) (d : Nat) (e : TypeId) (n : Nat) (xs : Array Value) : ∀ is : List Nat,
    (∀ i ∈ is, ∃ a, (part e xs (i * n)).run P w = .ok a w ∧ (Op.equalIn d e a a).run P w = .ok true w) → (Op.eqItems d e n xs xs is).run P w = .ok true w
  | [], _ => by simp [Op.eqItems]
  | i :: is, h => by
    obtain ⟨a, h1, h2⟩ := h i (by simp)
    have ih := self_items w d e n xs is (fun g hg => h g (by simp [hg]))
    simp only [Op.eqItems, Sem.run_ite, Sem.run_bind, h1, h2, Result.andThen_ok, Bool.not_true, Bool.false_eq_true, if_false, ih]
theorem part_int {P : Program} (L : List Int) (t : TypeId) (i : Nat) (h : i < L.length) (w : World) (ht : P.underlying t = some (.int .i64)) :
    (part t (ic L) i).run P w = .ok (.int .i64 (lget L i)) w := by
  simp [part, isAgg, run_underlying ht, go_sem, ic_get h]
theorem part_arr {P : Program} (xs : Array Value) (t e : TypeId) (n i : Nat) (w : World) (ht : P.underlying t = some (.array n e)) (j : TypeInfo) (hj : P.info? t = some j) :
    (part t xs i).run P w = .ok (.agg (xs.extract i (i + j.size))) w := by
  simp [part, isAgg, run_underlying ht, go_sem, sizeOf, typeInfo, hj]
theorem info_of {P : Program} {t : TypeId} {n : Nat} (h : (P.info? t).map (·.size) = some n) : ∃ j, P.info? t = some j ∧ j.size = n := by
  cases hj : P.info? t with
  | none => rw [hj] at h; cases h
  | some j => rw [hj] at h; exact ⟨j, rfl, by simpa using h⟩
theorem ic_drop (L : List Int) (hL : L.length = 21) : (ic L).extract 5 (5 + 16) = ic (L.drop 5) := by
  unfold ic
  rw [List.extract_toArray]
  congr 1
  simp [List.take_of_length_le, hL]
theorem int_self (d : Nat) (v : Int) (w : World) : (Op.equalIn (d + 1) 3 (.int .i64 v) (.int .i64 v)).run Try.prog w = .ok true w := by
  rw [run_equalIn_int w d 3 .i64 .i64 v v Try.underlying3]
  simp

theorem tally_eql (L : List Int) (hL : L.length = 21) (w : World) : (binOp .eql 25 (.agg (ic L)) (.agg (ic L))).run Try.prog w = .ok (.bool true) w := by
  obtain ⟨j, hj, hs⟩ := info_of (P := Try.prog) (t := 23) (n := 16) (by kernel_rfl)
  obtain ⟨k, hk, hks⟩ := info_of (P := Try.prog) (t := 3) (n := 1) (by kernel_rfl)
  have hc : Try.prog.cellsOf 3 = 1 := by kernel_rfl
  rw [run_eql_struct, show (10000 : Nat) = 9999 + 1 from rfl, run_equalIn_struct _ _ _ _ _ (by kernel_rfl) (by kernel_rfl), self_fields w 9999 (ic L)]
  · rfl
  · intro f hf
    simp only [Program.fieldsOf, Try.underlying25, List.mem_cons, List.not_mem_nil, or_false] at hf
    rcases hf with rfl | rfl | rfl | rfl | rfl | rfl
    · exact ⟨_, part_int L 3 0 (by omega) w Try.underlying3, int_self _ _ w⟩
    · exact ⟨_, part_int L 3 1 (by omega) w Try.underlying3, int_self _ _ w⟩
    · exact ⟨_, part_int L 3 2 (by omega) w Try.underlying3, int_self _ _ w⟩
    · exact ⟨_, part_int L 3 3 (by omega) w Try.underlying3, int_self _ _ w⟩
    · exact ⟨_, part_int L 3 4 (by omega) w Try.underlying3, int_self _ _ w⟩
    · refine ⟨_, part_arr (ic L) 23 3 16 5 w Try.underlying23 j hj, ?_⟩
      rw [hs, ic_drop L hL, show (9999 : Nat) = 9998 + 1 from rfl, run_equalIn_array w 9998 _ _ Try.underlying23 hk]
      refine self_items w 9998 3 _ _ _ (fun i hi => ?_)
      have hi' : i < 16 := by simpa using hi
      rw [hc, Nat.mul_one]
      exact ⟨_, part_int (L.drop 5) 3 i (by simp [hL]; omega) w Try.underlying3, int_self _ _ w⟩

end Go.Proofs.Ytehhdeafimomfaa
