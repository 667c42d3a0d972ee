/-
  interior, by contract.
-/
import Derived.Test.YtpoagdffpajdjaaRad5
namespace Go.Proofs.Ytpoagdffpajdjaa
open Go.RowKit
set_option linter.unusedVariables false
set_option linter.unusedSimpArgs false

/-- The node over some kids. -/
def intV (A : Option Addr) (cap : Nat) (ks : List T) : Value := if someK ks then ndV A 4 cap 0 (orK ks) else ndV none 0 0 0 0
set_option maxRecDepth 100000 in
set_option maxHeartbeats 4000000 in
theorem interior_w (ks : List T) (A : Option Addr) (cap : Nat) (S : Nat → Prop) (w : World) (h4 : ks.length = 4) (hcap : 4 ≤ cap) (hk : NK w S A ks) :
    Calls Try.prog 65 #[.slice A 4 cap] w (RetV (intV A cap ks) w) := by
  have HK := Lib.hid (fun w' (hb : Below w.heap.size w w') => hk.step hb)
  have HL := Lib.hid h4
  have HT := Lib.hid (show ks.take 4 = ks by rw [← h4]; exact List.take_length)
  have HB := Lib.hid (((Below.refl w.heap.size w).alloc (Nat.le_refl _) (.cells #[.slice none 0 0, .int .i64 0, .int .i64 0] 26)).alloc (by simp) (.cells #[.slice A 4 cap, .int .i64 0, .int .i64 0] 26))
  have HX := Lib.hid (bk_alloc (heap_alloc_at w (.cells #[.slice none 0 0, .int .i64 0, .int .i64 0] 26)) (.cells #[.slice A 4 cap, .int .i64 0, .int .i64 0] 26))
  have HY := Lib.hid (heap_at_new (w.alloc (.cells #[.slice none 0 0, .int .i64 0, .int .i64 0] 26)) (.cells #[.slice A 4 cap, .int .i64 0, .int .i64 0] 26) (w.heap.size + 1) (by simp))
  obtain ⟨b2, hb2⟩ : ∃ b, b = w.heap.size := ⟨_, rfl⟩
  obtain ⟨b3, hb3⟩ : ∃ b, b = b2 + 1 := ⟨_, rfl⟩
  rw [← hb2] at HX HY
  rw [← hb3] at HY
  have HBe := Lib.hid hb2
  have HB3 := Lib.hid hb3
  clear hb2 hb3 hk h4
  go_enter Try.func65, Try.ntmps65
  go_upto_region 1 with fail
  go_cut [2, 3] (fun s2 s3 wx => s2 = .pointer (some ⟨b2, 0, none⟩) ∧ s3 = .pointer (some ⟨b3, 0, none⟩) ∧ wx.heap[b3]? = some (.cells #[.slice A 4 cap, .int .i64 0, .int .i64 0] 26 (0, 0)) ∧ wx.heap[b2]? = some (.cells #[.slice none 0 0, .int .i64 0, .int .i64 0] 26 (0, 0)) ∧ Below w.heap.size w wx)
  case first =>
    go_wp2
    go_meet
    case rel => exact ⟨by rw [HBe.out], by rw [HB3.out, HBe.out], HY.out, HX.out, HB.out⟩
  case rest =>
    clear HX HY HB
    obtain ⟨rfl, rfl, hN, hR, hW⟩ := hcut
    have HN := Lib.hid hN
    have HR := Lib.hid hR
    have HW := Lib.hid hW
    clear hN hR hW
    go_wp2
    go_loopw [4, 11] (fun s4 s11 wx => ∃ i : Nat, i ≤ 4 ∧ s11 = .int .i64 i ∧ s4 = .bool (someK (ks.take i)) ∧ wx.heap[b3]? = some (.cells #[.slice A 4 cap, .int .i64 0, .int .i64 (orK (ks.take i))] 26 (0, 0)) ∧ wx.heap[b2]? = some (.cells #[.slice none 0 0, .int .i64 0, .int .i64 0] 26 (0, 0)) ∧ Below w.heap.size w wx) (fun _ s11 _ => 4 - (intOf s11).toNat)
    case atStart => exact ⟨0, by omega, rfl, rfl, HN.out, HR.out, HW.out⟩
    case round =>
      clear HN HR HW
      obtain ⟨i, hi4, rfl, rfl, hN, hR, hW⟩ := hrel
      have HN := Lib.hid hN
      have HR := Lib.hid hR
      have HW := Lib.hid hW
      clear hN hR hW
      by_cases hlt : i < 4
      · have hNK := HK.out _ HW.out
        obtain ⟨b, o, k, A', cap', rfl, _, hbl, hi, hNC, hkm, hkc, hkk⟩ := hNK.at_ (show i < ks.length by rw [HL.out]; exact hlt)
        obtain ⟨c0, c1, c2⟩ := hNC
        have HOR := Lib.hid (orK_take hi)
        have HSM := Lib.hid (someK_take hi)
        have emk := fun w => empty_w A' k.kids.length cap' k.val k.marks w
        rw [show emI k.kids.length k.val k.marks = k.emB from rfl] at emk
        have i0 : (0 : Int) ≤ (i : Int) := by omega
        have i1 : (i : Int) < 4 := by omega
        have i2 : (i : Int) < (cap : Int) := by omega
        have i3 : (i : Int) ≤ (cap : Int) := by omega
        generalize k.kids.length = kn at emk c0 hkm hkc
        generalize k.marks = km at emk c2 HOR
        generalize k.val = kv at emk c1
        clear hNK hi hkk hkm hkc
        generalize orK (ks.take i) = om at HN HOR
        have x0 := cells_at HN.out 0; have x1 := cells_at HN.out 1; have x2 := cells_at HN.out 2; simp only [List.getElem?_toArray, List.getElem?_cons_zero, List.getElem?_cons_succ] at x0 x1 x2
        have f2 := free_at HN.out 2
        have l3 := bk_lt HN.out
        have l2 := bk_lt HR.out
        have hne3 : ¬ b3 = wr.heap.size := by omega
        have hsz := HW.out.size
        have HNF := Lib.hid (fun o v => bk_alloc (set_same (i := 2) HN.out v) o)
        have HRF := Lib.hid (fun o v => bk_alloc (set_bk HR.out ⟨b3, 2, none⟩ v (by simp only; have := HB3.out; omega)) o)
        have HWF := Lib.hid (fun o v => bl_alloc (HW.out.setCell (p := ⟨b3, 2, none⟩) (by simp only; have := HB3.out; have := HBe.out; omega) v) o)
        cases hsm : someK (ks.take i) with
        | true =>
          rw [hsm] at HSM
          clear hsm
          go_wp2
          go_roundw
          case rel => exact ⟨i + 1, by omega, by go_num, by rw [HSM.out]; rfl, by rw [HOR.out]; exact HNF.out _ _, HRF.out _ _, HWF.out _ _⟩
          case measure => simp [intOf]; omega
        | false =>
          rw [hsm] at HSM
          clear hsm
          go_wp2_with (go_at_call 59; (with_reducible refine Calls.mono (emk _) ?_); rintro e w1 ⟨rfl, hb1⟩)
          go_roundw
          case rel => exact ⟨i + 1, by omega, by go_num, by rw [HSM.out]; rfl, by rw [HOR.out]; exact bk_step (HNF.out _ _) hb1, bk_step (HRF.out _ _) hb1, bl_step (HWF.out _ _) hb1⟩
          case measure => simp [intOf]; omega
      · obtain rfl : i = 4 := by omega
        rw [HT.out] at HN ⊢
        have x0 := cells_at HN.out 0; have x1 := cells_at HN.out 1; have x2 := cells_at HN.out 2; simp only [List.getElem?_toArray, List.getElem?_cons_zero, List.getElem?_cons_succ] at x0 x1 x2
        cases hs : someK ks with
        | true =>
          have HV := Lib.hid (show intV A cap ks = ndV A 4 cap 0 (orK ks) by unfold intV; rw [hs]; rfl)
          clear hs
          go_wp2_with (refine wpList_store_rowTo rfl 26 (.tmp 2) (.tmp 31) rfl rfl (b2) #[.slice A 4 cap, .int .i64 0, .int .i64 (orK ks)] rfl rfl 26 _ (HR.out) node_size rfl (node_one _ _ _ _ _) ?_)
          show bodyPost Try.prog Try.f65 _ _ _ _
          refine bodyPost_ret (node_res rfl _ _ b2 _ _ _ _ _ rfl (setRow_heap _ _ _ _ _ _ HR.out)) rfl ⟨by rw [HV.out], ?_⟩
          exact bl_setRow HW.out (by rw [HBe.out]; omega) _
        | false =>
          have HV := Lib.hid (show intV A cap ks = ndV none 0 0 0 0 by unfold intV; rw [hs]; rfl)
          clear hs
          go_wp2_with (refine wpList_store_rowTo rfl 26 (.tmp 2) (.tmp 30) rfl rfl (b2) #[.slice none 0 0, .int .i64 0, .int .i64 0] rfl rfl 26 _ (HR.out) node_size rfl (node_one _ _ _ _ _) ?_)
          show bodyPost Try.prog Try.f65 _ _ _ _
          refine bodyPost_ret (node_res rfl _ _ b2 _ _ _ _ _ rfl (setRow_heap _ _ _ _ _ _ HR.out)) rfl ⟨by rw [HV.out], ?_⟩
          exact bl_setRow HW.out (by rw [HBe.out]; omega) _

end Go.Proofs.Ytpoagdffpajdjaa
