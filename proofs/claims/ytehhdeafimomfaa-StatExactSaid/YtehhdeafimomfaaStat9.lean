/-
  The law StatExact: the walk.
-/
import Derived.Test.YtehhdeafimomfaaStat8
import Derived.Deep.CutBlock
namespace Go.Proofs.Ytehhdeafimomfaa
open Go.RowKit
set_option linter.unusedVariables false
set_option linter.unusedSimpArgs false

theorem wpQuiet_eql_wanted {P : Program} {ops : Array Oper} {C : World → Prop} {rest : List Oper} {o : Oper} {a : Act} {Q : Act → Prop} (hw : Region.wanted o (yielded ops a.tmps) = true) (ty rt : TypeId) (x y : Operand) (ho : o.op = .binOp .eql ty x y rt)
    (xs : Array Value) (hx : a.eval x = .agg xs) (hy : a.eval y = .agg xs) (hm : P.eqGuardType P.depth ty = false) (hs : ∀ w, (binOp .eql ty (.agg xs) (.agg xs)).run P w = .ok (.bool true) w)
    (h : wpQuiet P ops C Q rest (a.put o.dst (.bool true))) : wpQuiet P ops C Q (o :: rest) a :=
  wpQuiet_step fun K hK => by
    rw [if_pos hw]
    refine ⟨.bool true, fun w hw => ?_, hK _ h⟩
    unfold Oper.quietAt execOp
    simp only [ho, hx, hy, Sem.run_bind, run_eqGuard_agg _ .eql ty x y xs xs hm, Result.andThen_ok, hs, Sem.run_pure]
    exact ⟨rfl, rfl⟩

set_option maxRecDepth 100000 in
set_option maxHeartbeats 2000000 in
theorem statExact_walk (x c e a u b v : Int) (L : List Int) (w : World) (hx : -9223372036854775808 ≤ x ∧ x ≤ 9223372036854775807) (hL : L.length = 21) :
    Calls Try.prog 6 #[.int .i64 x, .int .i64 c, .int .i64 e, .int .i64 a, .int .i64 u, .int .i64 b, .int .i64 v, .agg (ic L)] w fun e w' => e = .returned (.bool true) ∧ Below w.heap.size w w' := by
  obtain ⟨hx0, hx1⟩ := hx
  go_enter Try.func6, Try.ntmps6
  go_upto_region 0 with fail
  go_cut [15, 16] (fun s15 s16 wx => s15 = .pointer (some ⟨w.heap.size, 0, none⟩) ∧ s16 = .bool false ∧ wx.heap[w.heap.size]? = some (.cells (ic L) 25 (0, 0)) ∧ Below w.heap.size w wx)
  case first =>
    go_wp2
    go_meet
    case rel => exact ⟨rfl, rfl, heap_alloc_new _ _, (Below.refl _ _).alloc (Nat.le_refl _) _⟩
  case rest =>
    obtain ⟨rfl, rfl, hT, hB⟩ := hcut
    obtain ⟨W, rfl⟩ : ∃ W : World, W = wc := ⟨_, rfl⟩
    have c0 : W.cell? ⟨w.heap.size, 0, none⟩ = some (.int .i64 (lget L 0)) := by rw [cells_at hT, ic_get (by omega)]
    have c1 : W.cell? ⟨w.heap.size, 1, none⟩ = some (.int .i64 (lget L 1)) := by rw [cells_at hT, ic_get (by omega)]
    have c2 : W.cell? ⟨w.heap.size, 2, none⟩ = some (.int .i64 (lget L 2)) := by rw [cells_at hT, ic_get (by omega)]
    have c3 : W.cell? ⟨w.heap.size, 3, none⟩ = some (.int .i64 (lget L 3)) := by rw [cells_at hT, ic_get (by omega)]
    have HT := Lib.hid hT
    clear hT
    go_upto_region 1 with fail
    go_cut [55] (fun s wx => ∃ t, s = .bool t ∧ W = wx)
    case first =>
      go_wp2
      all_goals
        go_meet
        case rel => exact ⟨_, rfl, rfl⟩
    case rest =>
      clear c0 c1 c2 c3
      obtain ⟨t, rfl, rfl⟩ := hcut
      cases t with
      | true =>
        go_wp2
        go_ret
        exact ⟨rfl, hB⟩
      | false =>
        go_wp2
        go_loop [17] (fun i => ∃ k : Nat, k ≤ 16 ∧ i = .int .i64 k) (fun i => 16 - (intOf i).toNat)
        case atStart => exact ⟨0, by omega, rfl⟩
        case round =>
          obtain ⟨k, hk, rfl⟩ := hrel
          by_cases hlt : k < 16
          · have c5 : W.cell? ⟨w.heap.size, 5 + k, none⟩ = some (.int .i64 (lget L (5 + k))) := by rw [cells_at HT.out, ic_get (by omega)]
            generalize lget L (5 + k) = z at c5
            by_cases t1 : z < 0
            · go_wp2
              go_ret
              exact ⟨rfl, hB⟩
            · by_cases t2 : 1099511627776 < z
              · go_wp2
                go_ret
                exact ⟨rfl, hB⟩
              · go_wp2
                go_round
                case rel => exact ⟨k + 1, by omega, by go_num⟩
                case measure => simp [intOf]; omega
          · obtain rfl : k = 16 := by omega
            have hT := HT.out
            have lT := (Array.getElem?_eq_some_iff.1 hT).1
            go_upto_region 8 with fail
            refine wp_region_ext (by kernel_rfl) (by kernel_rfl) ?_
            (refine wpQuiet_step (fun K hK => ?_); go_simp; (with_reducible refine hK _ ?_); clear hK K)
            (refine wpQuiet_step (fun K hK => ?_); go_simp; apply Exists.intro; refine ⟨fun _ => ?_, hK _ ?_⟩; (with_reducible exact ext_same (bucket_w _ _ hx0 hx1)); clear hK K)
            (refine wpQuiet_step (fun K hK => ?_); go_simp; (with_reducible refine hK _ ?_); clear hK K)
            (refine wpQuiet_step (fun K hK => ?_); go_simp; apply Exists.intro; refine ⟨fun _ => ?_, hK _ ?_⟩; (with_reducible exact ext_same (rbucket_w _ _ hx0 hx1)); clear hK K)
            iterate 2 (refine wpQuiet_step (fun K hK => ?_); go_simp; (with_reducible refine hK _ ?_); clear hK K)
            refine wpQuiet_load_wanted 25 _ rfl w.heap.size rfl 25 _ (0, 0) _ (by rintro _ ⟨z, rfl⟩; rw [ext_block _ _ _ lT]; exact hT) Try.underlying25 rfl (by rw [ic_size, hL]; kernel_rfl) (by first | rfl | (simp [Region.wanted, yielded]; done)) ?_
            iterate 3 (refine wpQuiet_step (fun K hK => ?_); go_simp; (with_reducible refine hK _ ?_); clear hK K)
            (refine wpQuiet_step (fun K hK => ?_); go_simp; apply Exists.intro; refine ⟨fun _ => ?_, hK _ ?_⟩; (with_reducible exact ext_call (note_w L _ _ _ _ hL)); clear hK K)
            refine wpQuiet_load_wanted 25 _ rfl w.heap.size rfl 25 _ (0, 0) _ (by rintro _ ⟨z, rfl⟩; rw [ext_block _ _ _ lT]; exact hT) Try.underlying25 rfl (by rw [ic_size, hL]; kernel_rfl) (by first | rfl | (simp [Region.wanted, yielded]; done)) ?_
            iterate 3 (refine wpQuiet_step (fun K hK => ?_); go_simp; (with_reducible refine hK _ ?_); clear hK K)
            (refine wpQuiet_step (fun K hK => ?_); go_simp; apply Exists.intro; refine ⟨fun _ => ?_, hK _ ?_⟩; (with_reducible exact ext_call (rnote_w L _ _ _ _ hL)); clear hK K)
            refine wpQuiet_eql_wanted (by first | rfl | (simp [Region.wanted, yielded]; done)) 25 25 (.tmp 82) (.tmp 87) rfl (ic (noteL L c e x)) rfl rfl (by kernel_rfl) (tally_eql (noteL L c e x) (by rw [noteL_len, hL])) ?_
            iterate 6 (refine wpQuiet_step (fun K hK => ?_); go_simp; (with_reducible refine hK _ ?_); clear hK K)
            (refine wpQuiet_step (fun K hK => ?_); go_simp; apply Exists.intro; refine ⟨fun _ => ?_, hK _ ?_⟩; (with_reducible exact ext_call (lag_w _ _ _ _ _)); clear hK K)
            iterate 4 (refine wpQuiet_step (fun K hK => ?_); go_simp; (with_reducible refine hK _ ?_); clear hK K)
            (refine wpQuiet_step (fun K hK => ?_); go_simp; apply Exists.intro; refine ⟨fun _ => ?_, hK _ ?_⟩; (with_reducible exact ext_call (rlag_w _ _ _ _ _)); clear hK K)
            iterate 3 (refine wpQuiet_step (fun K hK => ?_); go_simp; (with_reducible refine hK _ ?_); clear hK K)
            refine wpQuiet_load_wanted 25 _ rfl w.heap.size rfl 25 _ (0, 0) _ (by rintro _ ⟨z, rfl⟩; rw [ext_block _ _ _ lT]; exact hT) Try.underlying25 rfl (by rw [ic_size, hL]; kernel_rfl) (by first | rfl | (simp [Region.wanted, yielded]; done)) ?_
            (refine wpQuiet_step (fun K hK => ?_); go_simp; apply Exists.intro; refine ⟨fun _ => ?_, hK _ ?_⟩; (with_reducible exact ext_call (median_w L _ hL)); clear hK K)
            refine wpQuiet_load_wanted 25 _ rfl w.heap.size rfl 25 _ (0, 0) _ (by rintro _ ⟨z, rfl⟩; rw [ext_block _ _ _ lT]; exact hT) Try.underlying25 rfl (by rw [ic_size, hL]; kernel_rfl) (by first | rfl | (simp [Region.wanted, yielded]; done)) ?_
            (refine wpQuiet_step (fun K hK => ?_); go_simp; apply Exists.intro; refine ⟨fun _ => ?_, hK _ ?_⟩; (with_reducible exact ext_call (rmedian_w L _ hL)); clear hK K)
            iterate 3 (refine wpQuiet_step (fun K hK => ?_); go_simp; (with_reducible refine hK _ ?_); clear hK K)
            (refine wpQuiet_step (fun K hK => ?_); go_simp; apply Exists.intro; refine ⟨fun _ => ?_, hK _ ?_⟩; (with_reducible exact ext_call (awake_w _)); clear hK K)
            iterate 2 (refine wpQuiet_step (fun K hK => ?_); go_simp; (with_reducible refine hK _ ?_); clear hK K)
            refine wpQuiet_nil ?_
            intro w' hw'
            obtain ⟨z, rfl⟩ := hw'
            go_wp2
            go_ret
            exact ⟨rfl, bl_step hB (below_ext _ _)⟩

end Go.Proofs.Ytehhdeafimomfaa
