/-
  The functions Note of packages stat and pagecacheref33, by contracts: both make the same tally.
-/
import Derived.Test.YtehhdeafimomfaaStat1
import Derived.Test.YtehhdeafimomfaaExt
import Derived.Laws.CopyOwn
import Derived.Laws.Tables
namespace Go.Proofs.Ytehhdeafimomfaa
open Go.RowKit
set_option linter.unusedVariables false

theorem wrapEq (x : Int) : IntKind.i64.wrap x = wrap64 x := by rw [IntKind.wrap_i64]; unfold wrap64; first | rfl | omega
/-- The i-th number. -/
def lget (L : List Int) (i : Nat) : Int := L.getD i 0
/-- The cells of a tally. -/
def ic (L : List Int) : Array Value := (L.map (Value.int .i64)).toArray
theorem ic_get {L : List Int} {i : Nat} (h : i < L.length) : (ic L)[i]? = some (.int .i64 (lget L i)) := by
  simp [ic, lget, h]
theorem ic_size (L : List Int) : (ic L).size = L.length := by simp [ic]
theorem ic_set (L : List Int) (i : Nat) (v : Int) : (ic L).setIfInBounds i (.int .i64 v) = ic (L.set i v) := by
  simp [ic, List.map_set]
theorem ic_one (L : List Int) : (ic L).all (·.oneCell') = true := by
  rw [Array.all_eq_true_iff_forall_mem]
  intro v hv
  simp only [ic, List.mem_toArray, List.mem_map] at hv
  obtain ⟨n, _, rfl⟩ := hv
  rfl

def note1 (L : List Int) : List Int := L.set 0 (wrap64 (lget L 0 + 1))
def note2 (k : Nat) (L : List Int) : List Int := L.set (5 + k) (wrap64 (lget L (5 + k) + 1))
def note3 (c e : Int) (L : List Int) : List Int := if e = 0 then L.set 1 (wrap64 (lget L 1 + clI c)) else L.set 2 (wrap64 (lget L 2 + 1))
def note4 (x : Int) (L : List Int) : List Int := L.set 3 (wrap64 (lget L 3 + clI x))
def note5 (x : Int) (L : List Int) : List Int := L.set 4 (max (lget L 4) (clI x))
/-- What Note makes of a tally. -/
def noteL (L : List Int) (c e x : Int) : List Int := note5 x (note4 x (note3 c e (note2 (bkN (clI x).toNat) (note1 L))))

def RetL (L : List Int) (w : World) (e : Ending) (w' : World) : Prop := e = .returned (.agg (ic L)) ∧ Below w.heap.size w w'

def TalAt (w : World) (b : Nat) (L : List Int) : Prop := w.heap[b]? = some (.cells (ic L) 25 (0, 0)) ∧ L.length = 21

/-- The state of Note: the tally in block b, the result's variable in block c. -/
def TS (W : World) (b c : Nat) (L : List Int) (w : World) : Prop :=
  w.heap[b]? = some (.cells (ic L) 25 (0, 0)) ∧ L.length = 21 ∧ (∃ Z, w.heap[c]? = some (.cells Z 25 (0, 0)) ∧ Z.size = 21) ∧ Below W.heap.size W w ∧ W.heap.size ≤ b ∧ W.heap.size ≤ c ∧ b ≠ c
theorem TS.cell {W w : World} {b c : Nat} {L : List Int} (h : TS W b c L w) {i : Nat} (hi : i < 21) : w.cell? ⟨b, i, none⟩ = some (.int .i64 (lget L i)) := by
  rw [cells_at h.1, ic_get (by rw [h.2.1]; exact hi)]
theorem TS.free {W w : World} {b c : Nat} {L : List Int} (h : TS W b c L w) (i : Nat) : w.frozen? ⟨b, i, none⟩ = false := free_at h.1 i
theorem TS.put {W w : World} {b c : Nat} {L : List Int} (h : TS W b c L w) (i : Nat) (v : Int) : TS W b c (L.set i v) (w.setCell ⟨b, i, none⟩ (.int .i64 v)) := by
  obtain ⟨h1, h2, ⟨Z, h3, h4⟩, h5, h6, h7, h8⟩ := h
  refine ⟨?_, by simpa using h2, ⟨Z, ?_, h4⟩, h5.setCell h6 _, h6, h7, h8⟩
  · rw [heap_setCell_same w b i (ic L) _ _ h1, ic_set]
  · rw [heap_setCell_other w ⟨b, i, none⟩ c _ (by simpa using Ne.symm h8)]; exact h3
theorem TS.drew {W w : World} {b c : Nat} {L : List Int} (h : TS W b c L w) : TS W b c L w.drew := ⟨h.1, h.2.1, h.2.2.1, h.2.2.2.1.drew, h.2.2.2.2⟩

set_option maxRecDepth 100000 in
set_option maxHeartbeats 1000000 in
theorem note_w (L : List Int) (c e x : Int) (w : World) (hL : L.length = 21) :
    Calls Try.prog 9 #[.agg (ic L), .int .i64 c, .int .i64 e, .int .i64 x] w (RetL (noteL L c e x) w) := by
  obtain ⟨K, hK⟩ : ∃ K : Nat, bkI (clI x) = K := ⟨_, rfl⟩
  have HK : Hid (K = bkN (clI x).toNat) := by show K = _; unfold bkI at hK; omega
  have hK15 : K ≤ 15 := by have := bkI_range (clI x); omega
  have ⟨x1, x2⟩ := clI_range x
  go_enter Try.func9, Try.ntmps9
  go_upto_region 0 with fail
  go_cut [4, 8] (fun s4 s8 wx => ∃ b c, s4 = .pointer (some ⟨b, 0, none⟩) ∧ s8 = .pointer (some ⟨c, 0, none⟩) ∧ TS w b c L wx)
  case first =>
    go_wp2
    go_meet
    case rel => exact ⟨_, _, rfl, rfl, heap_alloc2_old _ _ _, hL, ⟨_, heap_alloc2_new _ _ _, rfl⟩, ((Below.refl _ _).alloc (Nat.le_refl _) _).alloc (by simp) _, Nat.le_refl _, by omega, by omega⟩
  case rest =>
    obtain ⟨b, d, rfl, rfl, hS⟩ := hcut
    go_upto_region 2 with (go_at_call 18; refine (clamp_w _ _).mono ?_; rintro e w' ⟨rfl, rfl⟩)
    go_cut [] (fun wx => TS w b d (note1 L) wx)
    case first =>
      have c0 := hS.cell (i := 0) (by omega)
      have f0 := hS.free 0
      go_wp2
      go_meet
      case rel => exact hS.put 0 _
    case rest =>
      clear hS
      obtain ⟨L1, hL1⟩ : ∃ L1, L1 = note1 L := ⟨_, rfl⟩
      rw [← hL1] at hcut
      have HL1 := Lib.hid hL1
      clear hL1
      go_upto_region 3 with fail
      go_cut [] (fun wx => TS w b d (note2 K L1) wx)
      case first =>
        have c0 := hcut.cell (i := 5 + K) (by omega)
        have f0 := hcut.free (5 + K)
        go_wp2_with (go_at_call 14; refine (bucket_w _ _ (by omega) (by omega)).mono ?_; rintro e w' ⟨rfl, rfl⟩)
        go_meet
        case rel => exact hcut.put (5 + K) _
      case rest =>
        obtain ⟨L2, hL2⟩ : ∃ L2, L2 = note2 K L1 := ⟨_, rfl⟩
        rw [← hL2] at hcut
        have HL2 := Lib.hid hL2
        clear hL2
        go_upto_if 26 with fail
        go_cut [] (fun wx => TS w b d (note3 c e L2) wx)
        case first =>
          have c1 := hcut.cell (i := 1) (by omega)
          have f1 := hcut.free 1
          have c2 := hcut.cell (i := 2) (by omega)
          have f2 := hcut.free 2
          by_cases he : e = 0
          · have h3 : note3 c e L2 = L2.set 1 (wrap64 (lget L2 1 + clI c)) := by rw [note3, if_pos he]
            have H3 := Lib.hid h3
            clear h3
            subst he
            go_wp2; go_meet; case rel => (rw [H3.out]; exact hcut.put 1 _)
          · have h3 : note3 c e L2 = L2.set 2 (wrap64 (lget L2 2 + 1)) := by rw [note3, if_neg he]
            have H3 := Lib.hid h3
            clear h3
            go_wp2
            go_meet
            case rel => (rw [H3.out]; exact hcut.put 2 _)
        case rest =>
          obtain ⟨L3, hL3⟩ : ∃ L3, L3 = note3 c e L2 := ⟨_, rfl⟩
          rw [← hL3] at hcut
          have HL3 := Lib.hid hL3
          clear hL3
          go_upto_region 7 with fail
          go_cut [] (fun wx => TS w b d (note4 x L3) wx)
          case first =>
            have c0 := hcut.cell (i := 3) (by omega)
            have f0 := hcut.free 3
            go_wp2
            go_meet
            case rel => exact hcut.put 3 _
          case rest =>
            obtain ⟨L4, hL4⟩ : ∃ L4, L4 = note4 x L3 := ⟨_, rfl⟩
            rw [← hL4] at hcut
            have HL4 := Lib.hid hL4
            clear hL4
            go_upto_region 8 with fail
            go_cut [] (fun wx => TS w b d (note5 x L4) wx)
            case first =>
              have c0 := hcut.cell (i := 4) (by omega)
              have f0 := hcut.free 4
              have HM : Hid (note5 x L4 = L4.set 4 (max (lget L4 4) (clI x))) := rfl
              go_wp2
              all_goals go_meet
              all_goals case rel => (show TS w b d (L4.set 4 (max (lget L4 4) (clI x))) _; first | exact hcut.put 4 _ | (rw [Int.max_eq_left (by omega)]; exact hcut.put 4 _) | (rw [Int.max_eq_right (by omega)]; exact hcut.put 4 _))
            case rest =>
              obtain ⟨L5, hL5⟩ : ∃ L5, L5 = note5 x L4 := ⟨_, rfl⟩
              rw [← hL5] at hcut
              have HL5 := Lib.hid hL5
              clear hL5
              obtain ⟨h1, h2, ⟨Z, h3, h4⟩, h5, h6, h7, h8⟩ := hcut
              go_wp2_with (first
                | (refine wpList_load_row rfl 25 _ rfl b rfl 25 _ (0, 0) _ h1 Try.underlying25 rfl ?_ ?_; (rw [ic_size, h2]; kernel_rfl))
                | (refine wpList_store_row rfl 25 _ _ rfl d (ic L5) rfl rfl 25 Z h3 ?_ ?_ (ic_one L5) ?_; (rw [ic_size, h2]; kernel_rfl); (rw [ic_size, h2, h4])))

              refine bodyPost_ret (v := .agg (ic L5)) (results_cell_row rfl _ _ d 25 (ic L5) (0, 0) _ rfl (setRow_heap _ _ _ _ _ _ h3) rfl rfl ?_) rfl ⟨?_, ?_⟩
              · rw [ic_size, h2]; kernel_rfl
              · rw [HL5.out, HL4.out, HL3.out, HL2.out, HL1.out, HK.out]; rfl
              · exact below_setRow h5 h7 _

set_option maxRecDepth 100000 in
set_option maxHeartbeats 1000000 in
theorem rnote_w (L : List Int) (c e x : Int) (w : World) (hL : L.length = 21) :
    Calls Try.prog 10 #[.agg (ic L), .int .i64 c, .int .i64 e, .int .i64 x] w (RetL (noteL L c e x) w) := by
  obtain ⟨K, hK⟩ : ∃ K : Nat, bkI (clI x) = K := ⟨_, rfl⟩
  have HK : Hid (K = bkN (clI x).toNat) := by show K = _; unfold bkI at hK; omega
  have hK15 : K ≤ 15 := by have := bkI_range (clI x); omega
  have ⟨x1, x2⟩ := clI_range x
  go_enter Try.func10, Try.ntmps10
  go_upto_region 0 with fail
  go_cut [4, 8] (fun s4 s8 wx => ∃ b c, s4 = .pointer (some ⟨b, 0, none⟩) ∧ s8 = .pointer (some ⟨c, 0, none⟩) ∧ TS w b c L wx)
  case first =>
    go_wp2
    go_meet
    case rel => exact ⟨_, _, rfl, rfl, heap_alloc2_old _ _ _, hL, ⟨_, heap_alloc2_new _ _ _, rfl⟩, ((Below.refl _ _).alloc (Nat.le_refl _) _).alloc (by simp) _, Nat.le_refl _, by omega, by omega⟩
  case rest =>
    obtain ⟨b, d, rfl, rfl, hS⟩ := hcut
    go_upto_region 2 with (go_at_call 19; refine (rcut_w _ _).mono ?_; rintro e w' ⟨rfl, rfl⟩)
    go_cut [] (fun wx => TS w b d (note1 L) wx)
    case first =>
      have c0 := hS.cell (i := 0) (by omega)
      have f0 := hS.free 0
      go_wp2
      go_meet
      case rel => exact hS.put 0 _
    case rest =>
      clear hS
      obtain ⟨L1, hL1⟩ : ∃ L1, L1 = note1 L := ⟨_, rfl⟩
      rw [← hL1] at hcut
      have HL1 := Lib.hid hL1
      clear hL1
      go_upto_region 3 with fail
      go_cut [] (fun wx => TS w b d (note2 K L1) wx)
      case first =>
        have c0 := hcut.cell (i := 5 + K) (by omega)
        have f0 := hcut.free (5 + K)
        go_wp2_with (go_at_call 15; refine (rbucket_w _ _ (by omega) (by omega)).mono ?_; rintro e w' ⟨rfl, rfl⟩)
        go_meet
        case rel => exact hcut.put (5 + K) _
      case rest =>
        obtain ⟨L2, hL2⟩ : ∃ L2, L2 = note2 K L1 := ⟨_, rfl⟩
        rw [← hL2] at hcut
        have HL2 := Lib.hid hL2
        clear hL2
        go_upto_if 24 with fail
        go_cut [] (fun wx => TS w b d (note3 c e L2) wx)
        case first =>
          have c1 := hcut.cell (i := 1) (by omega)
          have f1 := hcut.free 1
          have c2 := hcut.cell (i := 2) (by omega)
          have f2 := hcut.free 2
          by_cases he : e = 0
          · have h3 : note3 c e L2 = L2.set 1 (wrap64 (lget L2 1 + clI c)) := by rw [note3, if_pos he]
            have H3 := Lib.hid h3
            clear h3
            subst he
            go_wp2; go_region_with (go_at_call 19; refine (rcut_w _ _).mono ?_; rintro e w' ⟨rfl, rfl⟩); all_goals (go_wp2; go_meet; case rel => (rw [H3.out, wrapEq]; exact (hcut.put 1 (wrap64 (lget L2 1 + clI c))).drew))
          · have h3 : note3 c e L2 = L2.set 2 (wrap64 (lget L2 2 + 1)) := by rw [note3, if_neg he]
            have H3 := Lib.hid h3
            clear h3
            go_wp2
            go_meet
            case rel => (rw [H3.out]; exact hcut.put 2 _)
        case rest =>
          obtain ⟨L3, hL3⟩ : ∃ L3, L3 = note3 c e L2 := ⟨_, rfl⟩
          rw [← hL3] at hcut
          have HL3 := Lib.hid hL3
          clear hL3
          go_upto_region 7 with fail
          go_cut [] (fun wx => TS w b d (note4 x L3) wx)
          case first =>
            have c0 := hcut.cell (i := 3) (by omega)
            have f0 := hcut.free 3
            go_wp2
            go_meet
            case rel => exact hcut.put 3 _
          case rest =>
            obtain ⟨L4, hL4⟩ : ∃ L4, L4 = note4 x L3 := ⟨_, rfl⟩
            rw [← hL4] at hcut
            have HL4 := Lib.hid hL4
            clear hL4
            go_upto_region 8 with fail
            go_cut [] (fun wx => TS w b d (note5 x L4) wx)
            case first =>
              have c0 := hcut.cell (i := 4) (by omega)
              have f0 := hcut.free 4
              have HM : Hid (note5 x L4 = L4.set 4 (max (lget L4 4) (clI x))) := rfl
              go_wp2
              all_goals go_meet
              all_goals case rel => (show TS w b d (L4.set 4 (max (lget L4 4) (clI x))) _; first | exact hcut.put 4 _ | (rw [Int.max_eq_left (by omega)]; exact hcut.put 4 _) | (rw [Int.max_eq_right (by omega)]; exact hcut.put 4 _))
            case rest =>
              obtain ⟨L5, hL5⟩ : ∃ L5, L5 = note5 x L4 := ⟨_, rfl⟩
              rw [← hL5] at hcut
              have HL5 := Lib.hid hL5
              clear hL5
              obtain ⟨h1, h2, ⟨Z, h3, h4⟩, h5, h6, h7, h8⟩ := hcut
              go_wp2_with (first
                | (refine wpList_load_row rfl 25 _ rfl b rfl 25 _ (0, 0) _ h1 Try.underlying25 rfl ?_ ?_; (rw [ic_size, h2]; kernel_rfl))
                | (refine wpList_store_row rfl 25 _ _ rfl d (ic L5) rfl rfl 25 Z h3 ?_ ?_ (ic_one L5) ?_; (rw [ic_size, h2]; kernel_rfl); (rw [ic_size, h2, h4])))

              refine bodyPost_ret (v := .agg (ic L5)) (results_cell_row rfl _ _ d 25 (ic L5) (0, 0) _ rfl (setRow_heap _ _ _ _ _ _ h3) rfl rfl ?_) rfl ⟨?_, ?_⟩
              · rw [ic_size, h2]; kernel_rfl
              · rw [HL5.out, HL4.out, HL3.out, HL2.out, HL1.out, HK.out]; rfl
              · exact below_setRow h5 h7 _

end Go.Proofs.Ytehhdeafimomfaa
