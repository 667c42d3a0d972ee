/-
  The law StatNotes: the walk.
-/
import Derived.Test.YtehhdeafimomfaaStat7
namespace Go.Proofs.Ytehhdeafimomfaa
open Go.RowKit
set_option linter.unusedVariables false

/-- The state of the law: both tallies are L, of n notes. -/
def NS (w : World) (n : Nat) (L : List Int) (wx : World) : Prop :=
  Tal n L ∧ wx.heap[w.heap.size]? = some (.cells (ic L) 25 (0, 0)) ∧ wx.heap[w.heap.size + 1]? = some (.cells (ic L) 25 (0, 0)) ∧ Below w.heap.size w wx

theorem sumG_le {n : Nat} {L : List Int} (h : Tal n L) : ∀ m, m ≤ 16 → 0 ≤ sumG L m ∧ sumG L m ≤ n := by
  obtain ⟨_, _, hs, hb⟩ := h
  have up : ∀ d m, m + d ≤ 16 → sumG L m ≤ sumG L (m + d) := by
    intro d
    induction d with
    | zero => intro m _; exact Int.le_refl _
    | succ d ih =>
      intro m hm
      have := ih m (by omega)
      have := (hb (m + d) (by omega)).1
      show sumG L m ≤ sumG L (m + d) + lget L (5 + (m + d))
      omega
  intro m hm
  have h0 := up m 0 (by omega)
  have h1 := up (16 - m) m (by omega)
  rw [show m + (16 - m) = 16 from by omega, hs] at h1
  rw [Nat.zero_add] at h0
  exact ⟨h0, h1⟩
theorem wpQuiet_load_wanted {P : Program} {ops : Array Oper} {C : World → Prop} {rest : List Oper} {o : Oper} {a : Act} {Q : Act → Prop} (ty : TypeId) (x : Operand) (ho : o.op = .load ty x)
    (g : Nat) (hx : a.eval x = .pointer (some ⟨g, 0, none⟩)) (t : TypeId) (cs : Array Value) (fr : Nat × Nat) (d : TypeDesc) (hg : ∀ w, C w → w.heap[g]? = some (.cells cs t fr))
    (hu : P.underlying ty = some d) (hd : (match d with | .struct _ | .array _ _ => true | _ => false) = true) (hi : (P.info? ty).map (·.size) = some cs.size)
    (hw : Region.wanted o (yielded ops a.tmps) = true)
    (h : wpQuiet P ops C Q rest (a.put o.dst (.agg cs))) : wpQuiet P ops C Q (o :: rest) a :=
  wpQuiet_step fun K hK => by
    rw [if_pos hw]
    refine ⟨.agg cs, fun w hw => ?_, hK _ h⟩
    unfold Oper.quietAt execOp
    simp only [ho, hx, Instr.loadAt, Instr.sureAddr, Sem.run_bind, Sem.run_pure, Result.andThen_ok, run_loadVar_row w g t ty cs fr d (hg w hw) hu hd hi]
    exact ⟨rfl, rfl⟩
theorem pow18 : ∀ s : Nat, s < 18 → 1 ≤ IntKind.i64.wrap (2 ^ s) ∧ IntKind.i64.wrap (2 ^ s) ≤ 9223372036854775807 := by decide
theorem round18 (x : Int) : ∃ s : Nat, s < 18 ∧ ∀ w, Calls Try.prog 8 #[.int .i64 x, .int .i64 18] w fun e w' => e = .returned (.int .i64 (s : Int)) ∧ w = w' := by
  have ⟨k1, k2⟩ := cutI_range x 18 (by omega)
  obtain ⟨s, hs⟩ := Int.eq_ofNat_of_zero_le k1
  exact ⟨s, by omega, fun w => by rw [← hs]; exact round_w x 18 w (by omega) (by omega)⟩
set_option maxRecDepth 100000 in
set_option maxHeartbeats 1000000 in
theorem statNotes_walk (a0 : Option Addr) (len0 cap0 : Nat) (z0 : List Int) (w : World) (w0 : IsRow .i64 w a0 len0 cap0 z0) :
    Calls Try.prog 3 #[.slice a0 len0 cap0] w fun e w' => e = .returned (.bool true) ∧ Below w.heap.size w w' := by
  obtain ⟨hlen, hrow⟩ := row_fact w0
  have hlen' : len0 ≤ 9223372036854775807 := by unfold maxLen at hlen; omega
  clear w0
  go_enter Try.func3, Try.ntmps3
  go_upto_region 1 with fail
  go_cut [3, 4] (fun s t wx => s = .pointer (some ⟨w.heap.size, 0, none⟩) ∧ t = .pointer (some ⟨w.heap.size + 1, 0, none⟩) ∧ NS w 0 T0 wx)
  case first =>
    go_wp2
    go_meet
    case rel =>
      refine ⟨rfl, by simp, Tal.zero, ?_, ?_, ((Below.refl _ _).alloc (Nat.le_refl _) _).alloc (by simp) _⟩
      · rw [ic0]; exact heap_alloc2_old _ _ _
      · rw [ic0]
        have := heap_alloc_new (w.alloc (.cells #[.int .i64 0, .int .i64 0, .int .i64 0, .int .i64 0, .int .i64 0, .int .i64 0, .int .i64 0, .int .i64 0, .int .i64 0, .int .i64 0, .int .i64 0, .int .i64 0, .int .i64 0, .int .i64 0, .int .i64 0, .int .i64 0, .int .i64 0, .int .i64 0, .int .i64 0, .int .i64 0, .int .i64 0] 25)) (.cells #[.int .i64 0, .int .i64 0, .int .i64 0, .int .i64 0, .int .i64 0, .int .i64 0, .int .i64 0, .int .i64 0, .int .i64 0, .int .i64 0, .int .i64 0, .int .i64 0, .int .i64 0, .int .i64 0, .int .i64 0, .int .i64 0, .int .i64 0, .int .i64 0, .int .i64 0, .int .i64 0, .int .i64 0] 25)
        simpa using this
  case rest =>
    obtain ⟨rfl, rfl, hS⟩ := hcut
    go_wp2
    go_loopw [5] (fun i wr => ∃ (n : Nat) (L : List Int), n ≤ 20 ∧ i = .int .i64 n ∧ NS w n L wr) (fun i _ => 20 - (intOf i).toNat)
    case atStart => exact ⟨0, T0, by omega, rfl, hS⟩
    case round =>
      clear hS
      obtain ⟨n, L, hn, rfl, hS⟩ := hrel
      by_cases h12 : n < len0 ∧ n < 20
      · obtain ⟨h1, h2⟩ := h12
        obtain ⟨c, o, x, rfl, hc, hx⟩ := hrow n h1
        clear hrow
        have r5 := fun w => round_w x 5 w (by omega) (by omega)
        have hx0 := hx
        have hx' := (hS.2.2.2.cell (p := ⟨c, o + n, none⟩) hc).trans hx
        clear hx
        go_upto_if 24 with (go_at_call 8; (with_reducible refine Calls.mono (r5 _) ?_); rintro e w' ⟨rfl, rfl⟩)
        go_cut [6] (fun s wx => ∃ e, s = .int .i64 e ∧ NS w n L wx)
        case first =>
          by_cases he : cutI x 5 = 0
          · go_wp2
            go_meet
            case rel => exact ⟨_, rfl, hS⟩
          · go_wp2
            go_meet
            case rel => exact ⟨_, rfl, hS⟩
        case rest =>
          obtain ⟨e, rfl, hS2⟩ := hcut
          go_upto_region 8 with fail
          have lx : ∀ z, (ext wc z).cell? ⟨c, o + n, none⟩ = some (.int .i64 x) := fun z => (ext_cell wc z c (o + n) (Nat.lt_of_lt_of_le hc hS2.2.2.2.size)).trans ((hS2.2.2.2.cell (p := ⟨c, o + n, none⟩) hc).trans hx0)
          have hL := hS2.1.1
          have hT := hS2.2.1
          have hU := hS2.2.2.1
          have hB := hS2.2.2.2
          obtain ⟨s, hs18, r18⟩ := round18 (x / 1048576)
          have r2 := fun w => round_w (x / 128) (IntKind.i64.wrap (2 ^ s)) w (pow18 s hs18).1 (pow18 s hs18).2
          have hTal0 := hS2.1
          clear hx' hS hS2
          refine wp_region_quiet_tail (C := fun w' => ∃ z, w' = ext wc z) 44 (by kernel_rfl) (by kernel_rfl) (ext_start _) ?_
          simp only [List.take_succ_cons, List.take_zero, List.drop_succ_cons, List.drop_zero]
          refine wpQuiet_load_row rfl 25 _ rfl w.heap.size rfl 25 _ (0, 0) _ (by rintro _ ⟨z, rfl⟩; rw [ext_block _ _ _ (Array.getElem?_eq_some_iff.1 hT).1]; exact hT) Try.underlying25 rfl (by rw [ic_size, hL]; kernel_rfl) ?_
          iterate 5 (refine wpQuiet_step (fun K hK => ?_); go_simp; (with_reducible refine hK _ ?_); clear hK K)
          (refine wpQuiet_step (fun K hK => ?_); go_simp; apply Exists.intro; refine ⟨fun _ => ?_, hK _ ?_⟩; (with_reducible exact ext_same (round_w _ 9 _ (by omega) (by omega))); clear hK K)
          iterate 11 (refine wpQuiet_step (fun K hK => ?_); go_simp; (with_reducible refine hK _ ?_); clear hK K)
          (refine wpQuiet_step (fun K hK => ?_); go_simp; apply Exists.intro; refine ⟨fun _ => ?_, hK _ ?_⟩; (with_reducible exact ext_same (r18 _)); clear hK K)
          (refine wpQuiet_step (fun K hK => ?_); go_simp; (with_reducible refine hK _ ?_); clear hK K)
          (refine wpQuiet_step (fun K hK => ?_); go_simp; apply Exists.intro; refine ⟨fun _ => ?_, hK _ ?_⟩; (with_reducible exact ext_same (r2 _)); clear hK K)
          (refine wpQuiet_step (fun K hK => ?_); go_simp; apply Exists.intro; refine ⟨fun _ => ?_, hK _ ?_⟩; (with_reducible exact ext_call (note_w L _ _ _ _ hL)); clear hK K)
          refine wpQuiet_load_row rfl 25 _ rfl (w.heap.size + 1) rfl 25 _ (0, 0) _ (by rintro _ ⟨z, rfl⟩; rw [ext_block _ _ _ (Array.getElem?_eq_some_iff.1 hU).1]; exact hU) Try.underlying25 rfl (by rw [ic_size, hL]; kernel_rfl) ?_
          iterate 5 (refine wpQuiet_step (fun K hK => ?_); go_simp; (with_reducible refine hK _ ?_); clear hK K)
          (refine wpQuiet_step (fun K hK => ?_); go_simp; apply Exists.intro; refine ⟨fun _ => ?_, hK _ ?_⟩; (with_reducible exact ext_same (round_w _ 9 _ (by omega) (by omega))); clear hK K)
          iterate 11 (refine wpQuiet_step (fun K hK => ?_); go_simp; (with_reducible refine hK _ ?_); clear hK K)
          (refine wpQuiet_step (fun K hK => ?_); go_simp; apply Exists.intro; refine ⟨fun _ => ?_, hK _ ?_⟩; (with_reducible exact ext_same (r18 _)); clear hK K)
          (refine wpQuiet_step (fun K hK => ?_); go_simp; (with_reducible refine hK _ ?_); clear hK K)
          (refine wpQuiet_step (fun K hK => ?_); go_simp; apply Exists.intro; refine ⟨fun _ => ?_, hK _ ?_⟩; (with_reducible exact ext_same (r2 _)); clear hK K)
          (refine wpQuiet_step (fun K hK => ?_); go_simp; apply Exists.intro; refine ⟨fun _ => ?_, hK _ ?_⟩; (with_reducible exact ext_call (rnote_w L _ _ _ _ hL)); clear hK K)
          refine wpQuiet_nil ?_
          intro w' hw'
          obtain ⟨z, rfl⟩ := hw'
          have hT2 : (ext wc z).heap[w.heap.size]? = some (.cells (ic L) 25 (0, 0)) := (ext_block _ _ _ (Array.getElem?_eq_some_iff.1 hT).1).trans hT
          have hU2 : (ext wc z).heap[w.heap.size + 1]? = some (.cells (ic L) 25 (0, 0)) := (ext_block _ _ _ (Array.getElem?_eq_some_iff.1 hU).1).trans hU
          have hB2 : Below w.heap.size w (ext wc z) := bl_step hB (below_ext _ _)
          have hTal := hTal0.note (by omega) (cutI (x / 8) 9) e (cutI (x / 128) (IntKind.i64.wrap (2 ^ s)))
          generalize ext wc z = W3 at hT2 hU2 hB2 ⊢
          generalize noteL L (cutI (x / 8) 9) e (cutI (x / 128) (IntKind.i64.wrap (2 ^ s))) = M at hTal ⊢
          clear hT hU hB lx r2 r18
          have hM := hTal.1
          have hU3 : (W3.setRow w.heap.size (ic M)).heap[w.heap.size + 1]? = some (.cells (ic L) 25 (0, 0)) := (setRow_other W3 _ _ _ (by omega)).trans hU2
          have hT3 := setRow_heap W3 w.heap.size (ic L) (ic M) 25 (0, 0) hT2
          have hT4 := (setRow_other (W3.setRow w.heap.size (ic M)) (w.heap.size + 1) w.heap.size (ic M) (by omega)).trans hT3
          have hU4 := setRow_heap _ (w.heap.size + 1) (ic L) (ic M) 25 (0, 0) hU3
          have hB4 := below_setRow (below_setRow hB2 (Nat.le_refl _) (ic M)) (Nat.le_succ _) (ic M)
          have H4 : Hid (NS w (n + 1) M ((W3.setRow w.heap.size (ic M)).setRow (w.heap.size + 1) (ic M))) := ⟨hTal, hT4, hU4, hB4⟩
          clear hT4 hU4 hB4 hT3 hTal hTal0 hB2
          go_wp2_with (first
            | (refine wpList_store_row rfl 25 _ _ rfl w.heap.size (ic M) rfl rfl 25 (ic L) hT2 ?_ ?_ (ic_one _) ?_; (rw [ic_size, hM]; kernel_rfl); (rw [ic_size, ic_size, hM, hL]))
            | (refine wpList_store_row rfl 25 _ _ rfl (w.heap.size + 1) (ic M) rfl rfl 25 (ic L) hU3 ?_ ?_ (ic_one _) ?_; (rw [ic_size, hM]; kernel_rfl); (rw [ic_size, ic_size, hM, hL])))
          go_roundw
          case rel => exact ⟨n + 1, M, by omega, by go_num, H4.out⟩
          case measure => simp [intOf]; omega
      · have hx : ¬ n < len0 ∨ (n < len0 ∧ n = 20) := by omega
        clear h12 hrow
        have hL := hS.1.1
        have hTal := hS.1
        have HT := Lib.hid hS.2.1
        have HU := Lib.hid hS.2.2.1
        have hB := hS.2.2.2
        clear hS
        rcases hx with h1 | ⟨h1, rfl⟩
        all_goals
          go_wp2
          go_loopw [7, 8] (fun v k wx => ∃ m : Nat, m ≤ 16 ∧ k = .int .i64 m ∧ v = .int .i64 (sumG L m) ∧ wr = wx) (fun _ k _ => 16 - (intOf k).toNat)
          case atStart => exact ⟨0, by omega, rfl, rfl, rfl⟩
          case round =>
            obtain ⟨m, hm, rfl, rfl, rfl⟩ := hrel
            by_cases hlt : m < 16
            · have ⟨b0, b1⟩ := sumG_le hTal m hm
              have ⟨b2, b3⟩ := hTal.2.2.2 m hlt
              have c5 : wr.cell? ⟨w.heap.size, 5 + m, none⟩ = some (.int .i64 (lget L (5 + m))) := by rw [cells_at HT.out, ic_get (by omega)]
              go_wp2
              go_roundw
              case rel => exact ⟨m + 1, by omega, by go_num, rfl, by first | rfl | trivial⟩
              case measure => simp [intOf]; omega
            · obtain rfl : m = 16 := by omega
              have hT := HT.out
              have hU := HU.out
              have lT := (Array.getElem?_eq_some_iff.1 hT).1
              have hs16 := hTal.2.2.1
              have c0 : ∀ z, (ext wr z).cell? ⟨w.heap.size, 0, none⟩ = some (.int .i64 (sumG L 16)) := fun z => (ext_cell wr z _ 0 lT).trans (by rw [cells_at hT, ic_get (by omega), hs16, ← hTal.2.1])
              clear hs16
              go_upto_region 14 with fail
              refine wp_region_ext (by kernel_rfl) (by kernel_rfl) ?_
              refine wpQuiet_load_row rfl 25 _ rfl w.heap.size rfl 25 _ (0, 0) _ (by rintro _ ⟨z, rfl⟩; rw [ext_block _ _ _ lT]; exact hT) Try.underlying25 rfl (by rw [ic_size, hL]; kernel_rfl) ?_
              refine wpQuiet_load_row rfl 25 _ rfl (w.heap.size + 1) rfl 25 _ (0, 0) _ (by rintro _ ⟨z, rfl⟩; rw [ext_block _ _ _ (Array.getElem?_eq_some_iff.1 hU).1]; exact hU) Try.underlying25 rfl (by rw [ic_size, hL]; kernel_rfl) ?_
              refine wpQuiet_eql rfl 25 25 _ _ rfl (ic L) rfl rfl (by kernel_rfl) (tally_eql L hL) ?_
              iterate 7 (refine wpQuiet_step (fun K hK => ?_); go_simp; (with_reducible refine hK _ ?_); clear hK K)
              refine wpQuiet_load_wanted 25 _ rfl w.heap.size rfl 25 _ (0, 0) _ (by rintro _ ⟨z, rfl⟩; rw [ext_block _ _ _ lT]; exact hT) Try.underlying25 rfl (by rw [ic_size, hL]; kernel_rfl) (by first | rfl | (simp [Region.wanted, yielded]; done)) ?_
              (refine wpQuiet_step (fun K hK => ?_); go_simp; apply Exists.intro; refine ⟨fun _ => ?_, hK _ ?_⟩; (with_reducible exact ext_call (median_w L _ hL)); clear hK K)
              refine wpQuiet_load_wanted 25 _ rfl (w.heap.size + 1) rfl 25 _ (0, 0) _ (by rintro _ ⟨z, rfl⟩; rw [ext_block _ _ _ (Array.getElem?_eq_some_iff.1 hU).1]; exact hU) Try.underlying25 rfl (by rw [ic_size, hL]; kernel_rfl) (by first | rfl | (simp [Region.wanted, yielded]; done)) ?_
              (refine wpQuiet_step (fun K hK => ?_); go_simp; apply Exists.intro; refine ⟨fun _ => ?_, hK _ ?_⟩; (with_reducible exact ext_call (rmedian_w L _ hL)); clear hK K)
              iterate 3 (refine wpQuiet_step (fun K hK => ?_); go_simp; (with_reducible refine hK _ ?_); clear hK K)
              (refine wpQuiet_step (fun K hK => ?_); go_simp; apply Exists.intro; refine ⟨fun _ => ?_, hK _ ?_⟩; (with_reducible exact ext_call (awake_w _)); clear hK K)
              iterate 2 (refine wpQuiet_step (fun K hK => ?_); go_simp; (with_reducible refine hK _ ?_); clear hK K)
              refine wpQuiet_nil ?_
              intro w' hw'
              obtain ⟨z, rfl⟩ := hw'
              go_wp2
              go_ret
              exact ⟨rfl, bl_step hB (below_ext _ _)⟩

end Go.Proofs.Ytehhdeafimomfaa
