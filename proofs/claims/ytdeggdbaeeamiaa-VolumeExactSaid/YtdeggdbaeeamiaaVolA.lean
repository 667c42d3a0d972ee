/-
  The laws' sanity check, by contract; rows of parts and pieces that a call laid itself.
-/
import Derived.Test.YtdeggdbaeeamiaaVol9
namespace Go.Proofs.Ytdeggdbaeeamiaa
open Go.RowKit
set_option linter.unusedVariables false
set_option linter.unusedSimpArgs false

def sgs : List Seg → List Value
  | [] => []
  | (d, s, c) :: l => .int .i64 d :: .int .i64 s :: .int .i64 c :: sgs l
theorem sgs_get : ∀ (l : List Seg) (i : Nat) (d s c : Int), l[i]? = some (d, s, c) → (sgs l)[i * 3]? = some (.int .i64 d) ∧ (sgs l)[i * 3 + 1]? = some (.int .i64 s) ∧ (sgs l)[i * 3 + 2]? = some (.int .i64 c)
  | [], i, d, s, c, h => by simp at h
  | (x, y, z) :: l, 0, d, s, c, h => by simp at h; obtain ⟨rfl, rfl, rfl⟩ := h; simp [sgs]
  | (x, y, z) :: l, i + 1, d, s, c, h => by
    have h1 := sgs_get l i d s c (by simpa using h)
    rw [show (i + 1) * 3 = i * 3 + 3 from by omega, show i * 3 + 3 + 1 = i * 3 + 1 + 3 from by omega, show i * 3 + 3 + 2 = i * 3 + 2 + 3 from by omega]
    simpa [sgs] using h1
theorem PA.of_block {w : World} {g : Nat} {t : TypeId} {fr : Nat × Nat} {L : List Seg} {cs : Array Value} (h : w.heap[g]? = some (.cells cs t fr)) (hc : cs.toList = sgs L) : PA w (some ⟨g, 0, none⟩) L := by
  refine .inr ⟨g, 0, rfl, bk_lt h, fun i d s c hi => ?_⟩
  have hx : ∀ j, w.cell? ⟨g, j, none⟩ = (sgs L)[j]? := fun j => by
    rw [← hc]
    simp [World.cell?, h]
  obtain ⟨a, b, e⟩ := sgs_get L i d s c hi
  rw [Nat.zero_add]
  exact ⟨(hx _).trans a, (hx _).trans b, (hx _).trans e⟩
theorem PcA.of_block {w : World} {g cap : Nat} {t : TypeId} {fr : Nat × Nat} {l : List Pc} {cs : Array Value} (h : w.heap[g]? = some (.cells cs t fr)) (hc : cs.toList = pcs l) (hm : l.length ≤ maxLen) : PcA w (.slice (some ⟨g, 0, none⟩) l.length cap) l := by
  refine ⟨_, cap, rfl, hm, .inr ⟨g, rfl, bk_lt h, fun i d s c f hi => ?_⟩⟩
  have hx : ∀ j, w.cell? ⟨g, j, none⟩ = (pcs l)[j]? := fun j => by
    rw [← hc]
    simp [World.cell?, h]
  obtain ⟨a, b, e, k⟩ := pcs_get l i d s c f hi
  exact ⟨(hx _).trans a, (hx _).trans b, (hx _).trans e, (hx _).trans k⟩

abbrev LA : List Seg := [(0, 0, 8), (1, 0, 8)]
abbrev PAw : List Pc := [(0, 1, 1, 0), (1, 0, 2, 1), (0, 2, 1, 3)]
theorem aw_map : mapP 2 2 LA 1 4 0 = PAw := by kernel_rfl
theorem aw_size : szB 2 2 LA = 16 := by kernel_rfl
set_option maxHeartbeats 1000000 in
theorem awake_w (w : World) : Calls Try.prog 14 #[] w (RetB true w) := by
  go_enter Try.func14, Try.ntmps14
  go_upto_region 1 with fail
  go_cut [1] (fun s1 wx => ∃ V g, s1 = .pointer (some ⟨V, 0, none⟩) ∧ VS w V 2 2 (some ⟨g, 0, none⟩) LA 2 wx)
  case first =>
    go_wp2
    go_meet
    case rel => exact ⟨_, _, rfl, heap_at_new _ _ _ (by simp), PA.alloc (PA.of_block (heap_alloc_new _ _) rfl) _, ((Below.refl _ _).alloc (Nat.le_refl _) _).alloc (by simp) _⟩
  case rest =>
    obtain ⟨V, g, rfl, hV⟩ := hcut
    obtain ⟨v0, v1, v2⟩ := hV.cell
    have cm := map_w 2 2 (some ⟨g, 0, none⟩) LA 2 1 4 0 _ hV.pa (by simp [maxLen]) (by simp)
    rw [aw_map] at cm
    have HV := Lib.hid hV
    clear hV
    go_upto_region 2 with fail
    go_cut [2] (fun s2 wx => PcA wx s2 PAw ∧ VS w V 2 2 (some ⟨g, 0, none⟩) LA 2 wx)
    case first =>
      go_wp2_with (go_at_call 13; (with_reducible refine Calls.mono cm ?_); rintro e w1 ⟨v, rfl, hP, hb1⟩)
      go_meet
      case rel => exact ⟨hP, HV.out.step hb1⟩
    case rest =>
      clear v0 v1 v2 cm HV
      obtain ⟨hP, hV⟩ := hcut
      have HP := Lib.hid hP
      have HV := Lib.hid hV
      clear hP hV
      go_wp2_with (first
        | (go_at_call 22; refine (samePieces_w _ _ PAw _ (HP.out.alloc _) (PcA.of_block (heap_alloc_new _ _) rfl (by simp [maxLen]))).mono ?_; rintro e w2 ⟨rfl, hb2⟩; have HV2 := Lib.hid ((HV.out.alloc _).step hb2); obtain ⟨v0, v1, v2⟩ := HV2.out.cell)
        | (go_at_call 11; refine (Size_w 2 2 _ LA 2 _ HV2.out.pa (by simp [maxLen]) (by simp)).mono ?_; rw [aw_size]; rintro e w3 ⟨rfl, hb3⟩))
      go_ret
      exact ⟨rfl, bl_step HV2.out.below hb3⟩

end Go.Proofs.Ytdeggdbaeeamiaa
