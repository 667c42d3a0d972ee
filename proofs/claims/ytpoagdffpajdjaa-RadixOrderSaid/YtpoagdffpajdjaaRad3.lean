/-
  Paths of indices, by contracts.
-/
import Derived.Test.YtpoagdffpajdjaaRadP
import Derived.Deep.CutRange
import Derived.Laws.StructEq
import Derived.ChangeKeysEq
namespace Go.Proofs.Ytpoagdffpajdjaa
open Go.RowKit
set_option linter.unusedVariables false
set_option linter.unusedSimpArgs false

/-- The numbers of the kids on the way to an index. -/
def pathV (i : Nat) : Value := .agg #[.int .i64 ((i / 4 / 4 / 4 % 4 : Nat) : Int), .int .i64 ((i / 4 / 4 % 4 : Nat) : Int), .int .i64 ((i / 4 % 4 : Nat) : Int), .int .i64 ((i % 4 : Nat) : Int)]
/-- A value comes back; what was in memory is as it was. -/
def RetV (v : Value) (w : World) (e : Ending) (w' : World) : Prop := e = .returned v ∧ Below w.heap.size w w'
theorem td4 (i : Nat) : (i : Int).tdiv 4 = ((i / 4 : Nat) : Int) := by rw [Int.tdiv_eq_ediv_of_nonneg (by omega)]; omega
theorem tm4 (i : Nat) : (i : Int).tmod 4 = ((i % 4 : Nat) : Int) := by rw [Int.tmod_eq_emod_of_nonneg (by omega)]; omega

set_option maxRecDepth 100000 in
set_option maxHeartbeats 2000000 in
theorem route_w (i : Nat) (w : World) (hi : i < 256) : Calls Try.prog 62 #[.int .i64 i] w (RetV (pathV i) w) := by
  have d0 := td4 i
  have m0 := tm4 i
  have d1 := td4 (i / 4)
  have m1 := tm4 (i / 4)
  have d2 := td4 (i / 4 / 4)
  have m2 := tm4 (i / 4 / 4)
  have d3 := td4 (i / 4 / 4 / 4)
  have m3 := tm4 (i / 4 / 4 / 4)
  unfold pathV
  have b1 : i / 4 < 64 := by omega
  have b2 : i / 4 / 4 < 16 := by omega
  have b3 : i / 4 / 4 / 4 < 4 := by omega
  have a0 : i % 4 < 4 := by omega
  have a1 : i / 4 % 4 < 4 := by omega
  have a2 : i / 4 / 4 % 4 < 4 := by omega
  have a3 : i / 4 / 4 / 4 % 4 < 4 := by omega
  generalize i / 4 / 4 / 4 % 4 = r3 at *
  generalize i / 4 / 4 / 4 / 4 = q4 at *
  generalize i / 4 / 4 / 4 = q3 at *
  generalize i / 4 / 4 % 4 = r2 at *
  generalize i / 4 / 4 = q2 at *
  generalize i / 4 % 4 = r1 at *
  generalize i / 4 = q1 at *
  generalize i % 4 = r0 at *
  have w0 := w64 (x := (r0 : Int)) (by omega)
  have w1 := w64 (x := (r1 : Int)) (by omega)
  have w2 := w64 (x := (r2 : Int)) (by omega)
  have w3 := w64 (x := (r3 : Int)) (by omega)
  have v1 := w64 (x := (q1 : Int)) (by omega)
  have v2 := w64 (x := (q2 : Int)) (by omega)
  have v3 := w64 (x := (q3 : Int)) (by omega)
  go_enter Try.func62, Try.ntmps62
  go_upto_region 2 with fail
  go_wp2
  refine wp_loop_rounds 5 ?_
  rw [rounds_succ]; go_wp2
  rw [rounds_succ]; go_wp2
  rw [rounds_succ]; go_wp2
  rw [rounds_succ]; go_wp2
  rw [rounds_succ]; go_wp2
  exact bodyPost_ret (v := .agg #[.int .i64 r3, .int .i64 r2, .int .i64 r1, .int .i64 r0]) (by simp [results, Try.results62, go_sem]) rfl ⟨rfl, ((Below.refl w.heap.size w).alloc (Nat.le_refl _) _).alloc (by simp) _⟩
theorem info_of {P : Program} {t : TypeId} {n : Nat} (h : (P.info? t).map (·.size) = some n) : ∃ j, P.info? t = some j ∧ j.size = n := by
  cases hj : P.info? t with
  | none => rw [hj] at h; cases h
  | some j => rw [hj] at h; exact ⟨j, rfl, by simpa using h⟩
theorem item_int (d : Nat) (xs ys : Array Value) (is : List Nat) (w : World) (i : Nat) (x y : Int) (hx : xs[i]? = some (.int .i64 x)) (hy : ys[i]? = some (.int .i64 y)) :
    (Op.eqItems (d + 1) 3 1 xs ys (i :: is)).run Try.prog w = if x == y then (Op.eqItems (d + 1) 3 1 xs ys is).run Try.prog w else .ok false w := by
  have h1 : (part 3 xs i).run Try.prog w = .ok (.int .i64 x) w := by simp [part, isAgg, run_underlying Try.underlying3, go_sem, hx]
  have h2 : (part 3 ys i).run Try.prog w = .ok (.int .i64 y) w := by simp [part, isAgg, run_underlying Try.underlying3, go_sem, hy]
  have h3 := run_equalIn_int w d 3 .i64 .i64 x y Try.underlying3
  simp only [Op.eqItems, Nat.mul_one, Sem.run_ite, Sem.run_bind, h1, h2, h3, Result.andThen_ok]
  by_cases h : x = y
  · subst h; simp
  · simp [h, Sem.run_pure]
theorem path_eql (a b c d : Int) (w : World) : (Op.equalIn 10000 76 (.agg #[.int .i64 a, .int .i64 b, .int .i64 c, .int .i64 d]) (.agg #[.int .i64 0, .int .i64 0, .int .i64 0, .int .i64 0])).run Try.prog w = .ok (a == 0 && (b == 0 && (c == 0 && d == 0))) w := by
  obtain ⟨k, hk, hks⟩ := info_of (P := Try.prog) (t := 3) (n := 1) (by kernel_rfl)
  have hc : Try.prog.cellsOf 3 = 1 := by kernel_rfl
  rw [show (10000 : Nat) = 9999 + 1 from rfl, run_equalIn_array w 9999 _ _ Try.underlying76 hk, hc]
  rw [show List.range 4 = [0, 1, 2, 3] from rfl, show (9999 : Nat) = 9998 + 1 from rfl]
  rw [item_int 9998 _ _ _ w 0 a 0 rfl rfl, item_int 9998 _ _ _ w 1 b 0 rfl rfl, item_int 9998 _ _ _ w 2 c 0 rfl rfl, item_int 9998 _ _ _ w 3 d 0 rfl rfl]
  cases a == 0 <;> cases b == 0 <;> cases c == 0 <;> cases d == 0 <;> simp [Op.eqItems, Sem.run_pure]
/-- The height that an index needs. -/
def hf (i : Nat) : Nat := if i = 0 then 0 else if i < 4 then 1 else if i < 16 then 2 else if i < 64 then 3 else 4
set_option maxRecDepth 100000 in
set_option maxHeartbeats 2000000 in
theorem height_w (i : Nat) (w : World) (hi : i < 256) : Calls Try.prog 63 #[pathV i] w (RetI (hf i) w) := by
  unfold pathV
  have HB := Lib.hid (fun o : Obj => (Below.refl w.heap.size w).alloc (Nat.le_refl _) o)
  have H4 := Lib.hid (fun h : ¬ i / 4 / 4 / 4 % 4 = 0 => show hf i = 4 by unfold hf; rw [if_neg (by omega), if_neg (by omega), if_neg (by omega), if_neg (by omega)])
  have H3 := Lib.hid (fun (h : i / 4 / 4 / 4 % 4 = 0) (h' : ¬ i / 4 / 4 % 4 = 0) => show hf i = 3 by unfold hf; rw [if_neg (by omega), if_neg (by omega), if_neg (by omega), if_pos (by omega)])
  have H2 := Lib.hid (fun (h : i / 4 / 4 / 4 % 4 = 0) (h' : i / 4 / 4 % 4 = 0) (h'' : ¬ i / 4 % 4 = 0) => show hf i = 2 by unfold hf; rw [if_neg (by omega), if_neg (by omega), if_pos (by omega)])
  have H1 := Lib.hid (fun (h : i / 4 / 4 / 4 % 4 = 0) (h' : i / 4 / 4 % 4 = 0) (h'' : i / 4 % 4 = 0) (h3 : ¬ i % 4 = 0) => show hf i = 1 by unfold hf; rw [if_neg (by omega), if_pos (by omega)])
  have H0 := Lib.hid (fun (h : i / 4 / 4 / 4 % 4 = 0) (h' : i / 4 / 4 % 4 = 0) (h'' : i / 4 % 4 = 0) (h3 : i % 4 = 0) => show hf i = 0 by unfold hf; rw [if_pos (by omega)])
  generalize i / 4 / 4 / 4 % 4 = r3 at *
  generalize i / 4 / 4 % 4 = r2 at *
  generalize i / 4 % 4 = r1 at *
  generalize i % 4 = r0 at *
  generalize hf i = y at *
  by_cases h3 : r3 = 0
  · subst h3
    by_cases h2 : r2 = 0
    · subst h2
      by_cases h1 : r1 = 0
      · subst h1
        by_cases h0 : r0 = 0
        · subst h0
          obtain rfl := H0.out rfl rfl rfl rfl
          clear H4 H3 H2 H1 H0
          have hE := fun w => path_eql 0 0 0 0 w
          go_enter Try.func63, Try.ntmps63
          go_wp2
          refine wp_loop_rounds 5 ?_
          rw [rounds_succ]; go_wp2
          rw [rounds_succ]; go_wp2
          rw [rounds_succ]; go_wp2
          rw [rounds_succ]; go_wp2
          rw [rounds_succ]; go_wp2
          go_ret
          exact ⟨rfl, HB.out _⟩
        · obtain rfl := H1.out rfl rfl rfl h0
          clear H4 H3 H2 H1 H0
          have h0' : ((r0 : Int) == 0) = false := beq_eq_false_iff_ne.2 (by omega)
          have h0'' : ¬ (r0 : Int) = 0 := by omega
          have hE := fun w => path_eql 0 0 0 (r0 : Int) w
          go_enter Try.func63, Try.ntmps63
          go_wp2
          refine wp_loop_rounds 5 ?_
          rw [rounds_succ]; go_wp2
          rw [rounds_succ]; go_wp2
          rw [rounds_succ]; go_wp2
          rw [rounds_succ]; go_wp2
          go_ret
          exact ⟨rfl, HB.out _⟩
      · obtain rfl := H2.out rfl rfl h1
        clear H4 H3 H2 H1 H0
        have h0' : ((r1 : Int) == 0) = false := beq_eq_false_iff_ne.2 (by omega)
        have h0'' : ¬ (r1 : Int) = 0 := by omega
        have hE := fun w => path_eql 0 0 (r1 : Int) (r0 : Int) w
        go_enter Try.func63, Try.ntmps63
        go_wp2
        refine wp_loop_rounds 5 ?_
        rw [rounds_succ]; go_wp2
        rw [rounds_succ]; go_wp2
        rw [rounds_succ]; go_wp2
        go_ret
        exact ⟨rfl, HB.out _⟩
    · obtain rfl := H3.out rfl h2
      clear H4 H3 H2 H1 H0
      have h0' : ((r2 : Int) == 0) = false := beq_eq_false_iff_ne.2 (by omega)
      have h0'' : ¬ (r2 : Int) = 0 := by omega
      have hE := fun w => path_eql 0 (r2 : Int) (r1 : Int) (r0 : Int) w
      go_enter Try.func63, Try.ntmps63
      go_wp2
      refine wp_loop_rounds 5 ?_
      rw [rounds_succ]; go_wp2
      rw [rounds_succ]; go_wp2
      go_ret
      exact ⟨rfl, HB.out _⟩
  · obtain rfl := H4.out h3
    clear H4 H3 H2 H1 H0
    have h0' : ((r3 : Int) == 0) = false := beq_eq_false_iff_ne.2 (by omega)
    have h0'' : ¬ (r3 : Int) = 0 := by omega
    have hE := fun w => path_eql (r3 : Int) (r2 : Int) (r1 : Int) (r0 : Int) w
    go_enter Try.func63, Try.ntmps63
    go_wp2
    refine wp_loop_rounds 5 ?_
    rw [rounds_succ]; go_wp2
    go_ret
    exact ⟨rfl, HB.out _⟩
theorem inside_w (i : Int) (w : World) : Calls Try.prog 49 #[.int .i64 i] w fun e w' => e = .returned (.bool (decide (0 ≤ i ∧ i ≤ 255))) ∧ w = w' := by
  by_cases h0 : 0 ≤ i
  · by_cases h1 : i ≤ 255
    · rw [decide_eq_true ⟨h0, h1⟩]
      go_enter Try.func49, Try.ntmps49
      go_wp2
      go_ret
      exact ⟨rfl, rfl⟩
    · rw [decide_eq_false (by omega)]
      go_enter Try.func49, Try.ntmps49
      go_wp2
      go_ret
      exact ⟨rfl, rfl⟩
  · rw [decide_eq_false (by omega)]
    go_enter Try.func49, Try.ntmps49
    go_wp2
    go_ret
    exact ⟨rfl, rfl⟩

end Go.Proofs.Ytpoagdffpajdjaa
