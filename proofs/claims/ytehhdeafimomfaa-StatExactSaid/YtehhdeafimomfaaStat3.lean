/-
  The functions Median of packages stat and pagecacheref33, and awake, by contracts.
-/
import Derived.Test.YtehhdeafimomfaaStat2
import Derived.Deep.MidRow
namespace Go.Proofs.Ytehhdeafimomfaa
open Go.RowKit
set_option linter.unusedVariables false

/-- The median's bucket, from bucket k on, f buckets being left. -/
def medG (L : List Int) : Nat → Nat → Int → Int
  | 0, _, _ => 15
  | f + 1, k, s => if lget L 0 ≤ wrap64 (2 * wrap64 (s + lget L (5 + k))) then k else medG L f (k + 1) (wrap64 (s + lget L (5 + k)))
def medI (L : List Int) : Int := medG L 16 0 0

theorem run_index_agg (A : Array Value) (v : Value) (k : Nat) (hA : A[k]? = some v) (hs : A.size = 16) (w : World) :
    (Instr.index 23 (.agg A) (.int .i64 k)).run Try.prog w = .ok v w := by
  have hk : k < 16 := by
    rw [← hs]
    exact (Array.getElem?_eq_some_iff.mp hA).1
  simp [Instr.index, asIntOf, run_underlying Try.underlying23, go_sem, hA, hs, hk]
  exact (Array.getElem?_eq_some_iff.mp hA).2
/-- The buckets of a tally. -/
def bkts (L : List Int) : List Value := (List.range 16).map fun i => Value.int .i64 (lget L (5 + i))
theorem bkts_len (L : List Int) : (bkts L).length = 16 := by simp [bkts]
theorem bkts_get (L : List Int) (k : Nat) (hk : k < 16) : (bkts L)[k]? = some (.int .i64 (lget L (5 + k))) := by
  unfold bkts
  rw [List.getElem?_map, List.getElem?_range hk]
  rfl
theorem run_index_ic (L : List Int) (k : Nat) (hk : k < 16) (w : World) :
    (Instr.index 23 (.agg (bkts L).toArray) (.int .i64 k)).run Try.prog w = .ok (.int .i64 (lget L (5 + k))) w :=
  run_index_agg _ _ k (by simpa using bkts_get L k hk) (by simpa using bkts_len L) w

theorem range_ic {w : World} {b : Nat} {L : List Int} {t : TypeId} (h : w.heap[b]? = some (.cells (ic L) t (0, 0))) (hL : L.length = 21) :
    w.rangeAt b 5 (bkts L) := by
  intro j v hv
  rw [cells_at h]
  have hj : j < 16 := by
    rw [← bkts_len L]
    exact (List.getElem?_eq_some_iff.mp hv).1
  rw [bkts_get L j hj] at hv
  rw [ic_get (by omega), hv]

set_option maxHeartbeats 1000000 in
theorem median_w (L : List Int) (w : World) (hL : L.length = 21) : Calls Try.prog 11 #[.agg (ic L)] w (RetI (medI L) w) := by
  have e : (w.alloc (.cells (ic L) 25 (0, 0))).heap[w.heap.size]? = some (.cells (ic L) 25 (0, 0)) := by show (w.heap.push _)[w.heap.size]? = _; simp
  have hr := range_ic e hL
  have c0 : (w.alloc (.cells (ic L) 25 (0, 0))).cell? ⟨w.heap.size, 0, none⟩ = some (.int .i64 (lget L 0)) := by rw [cells_at e, ic_get (by omega)]
  have ix := run_index_ic L
  have HB : Hid (Below w.heap.size w (w.alloc (.cells (ic L) 25 (0, 0)))) := (Below.refl _ _).alloc (Nat.le_refl _) _
  obtain ⟨W, hW⟩ : ∃ W, W = w.alloc (.cells (ic L) 25 (0, 0)) := ⟨_, rfl⟩
  go_enter Try.func11, Try.ntmps11
  go_upto_region 1 with fail
  go_cut [1, 3] (fun s1 s3 wx => s1 = .pointer (some ⟨w.heap.size, 0, none⟩) ∧ s3 = .int .i64 0 ∧ W = wx)
  case first =>
    go_wp2
    go_meet
    case rel => exact ⟨rfl, rfl, hW⟩
  case rest =>
    obtain ⟨rfl, rfl, rfl⟩ := hcut
    rw [← hW] at c0 hr HB
    clear e hW
    go_wp2_with (refine wpList_load_mid rfl 23 _ rfl w.heap.size 5 rfl _ _ hr Try.underlying23 rfl ?_ ?_; (rw [bkts_len]; kernel_rfl))
    go_loopw [3, 8] (fun s n wr => ∃ (k : Nat) (v : Int), k ≤ 16 ∧ s = .int .i64 v ∧ n = .int .i64 k ∧ Hid (medI L = medG L (16 - k) k v) ∧ W = wr) (fun _ n _ => 16 - (intOf n).toNat)
    case atStart => exact ⟨0, 0, by omega, rfl, rfl, rfl, rfl⟩
    case round =>
      obtain ⟨k, v, hk, rfl, rfl, H, rfl⟩ := hrel
      by_cases hl : k < 16
      · have H' : Hid (medI L = if lget L 0 ≤ wrap64 (2 * wrap64 (v + lget L (5 + k))) then (k : Int) else medG L (16 - (k + 1)) (k + 1) (wrap64 (v + lget L (5 + k)))) := by
          show medI L = _
          rw [H.out, show 16 - k = (16 - (k + 1)) + 1 from by omega, medG]
        clear H
        by_cases ht : lget L 0 ≤ wrap64 (2 * wrap64 (v + lget L (5 + k)))
        · go_wp2
          go_ret
          exact ⟨ret_int (by rw [H'.out, if_pos ht]), HB.out⟩
        · go_wp2
          go_roundw
          case rel => exact ⟨k + 1, _, by omega, rfl, by go_num, by show medI L = _; rw [H'.out, if_neg ht], trivial⟩
          case measure => simp [intOf]; omega
      · obtain rfl : k = 16 := by omega
        go_wp2
        go_ret
        exact ⟨ret_int (by rw [H.out]; rfl), HB.out⟩

set_option maxHeartbeats 1000000 in
theorem rmedian_w (L : List Int) (w : World) (hL : L.length = 21) : Calls Try.prog 12 #[.agg (ic L)] w (RetI (medI L) w) := by
  have e : (w.alloc (.cells (ic L) 25 (0, 0))).heap[w.heap.size]? = some (.cells (ic L) 25 (0, 0)) := by show (w.heap.push _)[w.heap.size]? = _; simp
  have c0 : (w.alloc (.cells (ic L) 25 (0, 0))).cell? ⟨w.heap.size, 0, none⟩ = some (.int .i64 (lget L 0)) := by rw [cells_at e, ic_get (by omega)]
  have ck : ∀ k : Nat, k < 16 → (w.alloc (.cells (ic L) 25 (0, 0))).cell? ⟨w.heap.size, 5 + k, none⟩ = some (.int .i64 (lget L (5 + k))) := fun k hk => by rw [cells_at e, ic_get (by omega)]
  have HB : Hid (Below w.heap.size w (w.alloc (.cells (ic L) 25 (0, 0)))) := (Below.refl _ _).alloc (Nat.le_refl _) _
  obtain ⟨W, hW⟩ : ∃ W, W = w.alloc (.cells (ic L) 25 (0, 0)) := ⟨_, rfl⟩
  go_enter Try.func12, Try.ntmps12
  go_upto_region 1 with fail
  go_cut [1, 3] (fun s1 s3 wx => s1 = .pointer (some ⟨w.heap.size, 0, none⟩) ∧ s3 = .int .i64 0 ∧ W = wx)
  case first =>
    go_wp2
    go_meet
    case rel => exact ⟨rfl, rfl, hW⟩
  case rest =>
    obtain ⟨rfl, rfl, rfl⟩ := hcut
    rw [← hW] at c0 HB
    simp only [← hW] at ck
    clear e hW
    go_wp2
    go_loopw [3, 4] (fun s n wr => ∃ (k : Nat) (v : Int), k ≤ 16 ∧ s = .int .i64 v ∧ n = .int .i64 k ∧ Hid (medI L = medG L (16 - k) k v) ∧ W = wr) (fun _ n _ => 16 - (intOf n).toNat)
    case atStart => exact ⟨0, 0, by omega, rfl, rfl, rfl, rfl⟩
    case round =>
      obtain ⟨k, v, hk, rfl, rfl, H, rfl⟩ := hrel
      by_cases hl : k < 16
      · have H' : Hid (medI L = if lget L 0 ≤ wrap64 (2 * wrap64 (v + lget L (5 + k))) then (k : Int) else medG L (16 - (k + 1)) (k + 1) (wrap64 (v + lget L (5 + k)))) := by
          show medI L = _
          rw [H.out, show 16 - k = (16 - (k + 1)) + 1 from by omega, medG]
        clear H
        have c5 := ck k hl
        by_cases ht : lget L 0 ≤ wrap64 (2 * wrap64 (v + lget L (5 + k)))
        · go_wp2
          go_ret
          exact ⟨ret_int (by rw [H'.out, if_pos ht]), HB.out⟩
        · go_wp2
          go_roundw
          case rel => exact ⟨k + 1, _, by omega, rfl, by go_num, by show medI L = _; rw [H'.out, if_neg ht], trivial⟩
          case measure => simp [intOf]; omega
      · obtain rfl : k = 16 := by omega
        go_wp2
        go_ret
        exact ⟨ret_int (by rw [H.out]; rfl), HB.out⟩

theorem wpList_load_wanted {P : Program} {ops : Array Oper} {rest : List Oper} {o : Oper} {a : Act} {w : World} {Q : Exit → Act → World → Prop} (ty : TypeId) (x : Operand) (ho : o.op = .load ty x)
    (g : Nat) (hx : a.eval x = .pointer (some ⟨g, 0, none⟩)) (t : TypeId) (cs : Array Value) (fr : Nat × Nat) (d : TypeDesc) (hg : w.heap[g]? = some (.cells cs t fr))
    (hu : P.underlying ty = some d) (hd : (match d with | .struct _ | .array _ _ => true | _ => false) = true) (hi : (P.info? ty).map (·.size) = some cs.size)
    (hw : Region.wanted o (yielded ops a.tmps) = true)
    (h : wpList P ops Q rest (a.put o.dst (.agg cs)) w) : wpList P ops Q (o :: rest) a w :=
  wpList_step fun K hK => by simp only [hw, if_true]; exact wp_load_row ty x ho g hx t cs fr d hg hu hd hi (hK _ _ h)
def T0 : List Int := List.replicate 21 0
def T1 : List Int := noteL T0 1 0 0
def T2 : List Int := noteL T1 2 10 1
def T3 : List Int := noteL T2 4 0 5
theorem t3 : T1.length = 21 ∧ T2.length = 21 ∧ T3.length = 21 ∧ lget T3 0 = 3 ∧ lget T3 1 = 5 ∧ lget T3 2 = 1 ∧ lget T3 4 = 5 ∧ lget T3 8 = 1 ∧ medI T3 = 1 ∧ bkI 5 = 3 := ⟨by kernel_rfl, by kernel_rfl, by kernel_rfl, by kernel_rfl, by kernel_rfl, by kernel_rfl, by kernel_rfl, by kernel_rfl, by kernel_rfl, by kernel_rfl⟩

abbrev A3 : Array Value := #[.int .i64 3, .int .i64 5, .int .i64 1, .int .i64 6, .int .i64 5, .int .i64 1, .int .i64 1, .int .i64 0, .int .i64 1, .int .i64 0, .int .i64 0, .int .i64 0, .int .i64 0, .int .i64 0, .int .i64 0, .int .i64 0, .int .i64 0, .int .i64 0, .int .i64 0, .int .i64 0, .int .i64 0]
theorem ic0 : ic T0 = #[.int .i64 0, .int .i64 0, .int .i64 0, .int .i64 0, .int .i64 0, .int .i64 0, .int .i64 0, .int .i64 0, .int .i64 0, .int .i64 0, .int .i64 0, .int .i64 0, .int .i64 0, .int .i64 0, .int .i64 0, .int .i64 0, .int .i64 0, .int .i64 0, .int .i64 0, .int .i64 0, .int .i64 0] := by kernel_rfl
theorem ic3 : ic T3 = A3 := by kernel_rfl
theorem awake1 (w : World) : Calls Try.prog 9 #[.agg #[.int .i64 0, .int .i64 0, .int .i64 0, .int .i64 0, .int .i64 0, .int .i64 0, .int .i64 0, .int .i64 0, .int .i64 0, .int .i64 0, .int .i64 0, .int .i64 0, .int .i64 0, .int .i64 0, .int .i64 0, .int .i64 0, .int .i64 0, .int .i64 0, .int .i64 0, .int .i64 0, .int .i64 0], .int .i64 1, .int .i64 0, .int .i64 0] w (RetL T1 w) := by
  have h := note_w T0 1 0 0 w rfl
  rw [ic0] at h
  exact h
theorem awake_pack : ∃ L1 L2 L3, (∀ w, Calls Try.prog 9 #[.agg #[.int .i64 0, .int .i64 0, .int .i64 0, .int .i64 0, .int .i64 0, .int .i64 0, .int .i64 0, .int .i64 0, .int .i64 0, .int .i64 0, .int .i64 0, .int .i64 0, .int .i64 0, .int .i64 0, .int .i64 0, .int .i64 0, .int .i64 0, .int .i64 0, .int .i64 0, .int .i64 0, .int .i64 0], .int .i64 1, .int .i64 0, .int .i64 0] w (RetL L1 w)) ∧
    (∀ w, Calls Try.prog 9 #[.agg (ic L1), .int .i64 2, .int .i64 10, .int .i64 1] w (RetL L2 w)) ∧
    (∀ w, Calls Try.prog 9 #[.agg (ic L2), .int .i64 4, .int .i64 0, .int .i64 5] w (RetL L3 w)) ∧ L3.length = 21 ∧ Hid (ic L3 = A3) :=
  ⟨T1, T2, T3, awake1, fun w => note_w T1 2 10 1 w t3.1, fun w => note_w T2 4 0 5 w t3.2.1, t3.2.2.1, ic3⟩
theorem awake_med (w : World) : Calls Try.prog 11 #[.agg A3] w (RetI 1 w) := by
  have h := median_w T3 w t3.2.2.1
  rw [ic3, t3.2.2.2.2.2.2.2.2.1] at h
  exact h
theorem awake_b (w : World) : Calls Try.prog 14 #[.int .i64 5] w fun e w' => e = .returned (.int .i64 3) ∧ w = w' := by
  have h := bucket_w 5 w (by omega) (by omega)
  rw [t3.2.2.2.2.2.2.2.2.2] at h
  exact h
set_option maxRecDepth 100000 in
set_option maxHeartbeats 1000000 in
theorem awake_w (w : World) : Calls Try.prog 13 #[] w (RetB true w) := by
  obtain ⟨L1, L2, L3, n1, n2, n3, l3, HA⟩ := awake_pack
  go_enter Try.func13, Try.ntmps13
  go_upto_region 1 with fail
  go_cut [1] (fun s wx => ∃ b, s = .pointer (some ⟨b, 0, none⟩) ∧ wx.heap[b]? = some (.cells (ic L3) 25 (0, 0)) ∧ Below w.heap.size w wx)
  case first =>
    go_wp2_with (first
      | (go_at_call 9; (with_reducible refine Calls.mono (n1 _) ?_); rintro e w1 ⟨rfl, hb1⟩)
      | (go_at_call 9; (with_reducible refine Calls.mono (n2 _) ?_); rintro e w2 ⟨rfl, hb2⟩)
      | (go_at_call 9; (with_reducible refine Calls.mono (n3 _) ?_); rintro e w3 ⟨rfl, hb3⟩)
      | (refine wpList_store_row rfl 25 _ _ rfl _ (ic L3) rfl rfl 25 _ (heap_alloc_new _ _) ?_ ?_ (ic_one L3) ?_; (rw [ic_size, l3]; kernel_rfl); (rw [ic_size, l3]; rfl)))
    go_meet
    case rel => exact ⟨_, rfl, setRow_heap _ _ _ _ _ _ (heap_alloc_new _ _), below_setRow (bl_alloc (bl_step (bl_step hb1 hb2) hb3) _) (bl_step (bl_step hb1 hb2) hb3).size _⟩
  case rest =>
    obtain ⟨b, rfl, h, hB⟩ := hcut
    rw [HA.out] at h
    have c0 := (cells_at h 0).trans (show A3[0]? = some _ from rfl)
    have c1 := (cells_at h 1).trans (show A3[1]? = some _ from rfl)
    have c2 := (cells_at h 2).trans (show A3[2]? = some _ from rfl)
    have c4 := (cells_at h 4).trans (show A3[4]? = some _ from rfl)
    have c8 := (cells_at h 8).trans (show A3[8]? = some _ from rfl)
    clear n1 n2 n3
    go_wp2_with (first
      | (refine wpList_load_wanted 25 _ rfl b rfl 25 _ (0, 0) _ h Try.underlying25 rfl (by kernel_rfl) (by first | rfl | (simp [Region.wanted, yielded]; done)) ?_)
      | (go_at_call 11; refine (awake_med _).mono ?_; rintro e w4 ⟨rfl, hb4⟩)
      | (go_at_call 14; refine (awake_b _).mono ?_; rintro e w5 ⟨rfl, rfl⟩))
    go_ret
    exact ⟨rfl, bl_step hB hb4⟩

end Go.Proofs.Ytehhdeafimomfaa
