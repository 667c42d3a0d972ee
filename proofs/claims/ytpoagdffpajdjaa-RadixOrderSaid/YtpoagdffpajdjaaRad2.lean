/-
  Valid subtrees: plain and by contracts.
-/
import Derived.Test.YtpoagdffpajdjaaRad1
namespace Go.Proofs.Ytpoagdffpajdjaa
open Go.RowKit
set_option linter.unusedVariables false
set_option linter.unusedSimpArgs false

/-- Marks joined. -/
abbrev orI (a b : Int) : Int := bits .or .i64 a b
def orK (ks : List T) : Int := ks.foldl (fun a k => orI a k.marks) 0
def someK (ks : List T) : Bool := ks.any (fun k => !k.emB)
theorem orK_take {ks : List T} {i : Nat} {k : T} (h : ks[i]? = some k) : orK (ks.take (i + 1)) = orI (orK (ks.take i)) k.marks := by
  unfold orK
  rw [List.take_add_one, h, Option.toList_some, List.foldl_append]
  rfl
theorem someK_take {ks : List T} {i : Nat} {k : T} (h : ks[i]? = some k) : someK (ks.take (i + 1)) = (someK (ks.take i) || !k.emB) := by
  unfold someK
  rw [List.take_add_one, h, Option.toList_some, List.any_append]
  simp
/-- Whether a node is a subtree of a height. -/
def rightT : Nat → T → Bool
  | 0, t => t.emB || t.lfB
  | h + 1, t => t.emB || (decide (t.val = 0 ∧ t.kids.length = 4) && t.kids.all (rightT h) && (someK t.kids && decide (t.marks = orK t.kids)))
theorem rightT_em {t : T} (h : t.emB = true) (n : Nat) : rightT n t = true := by cases n <;> simp [rightT, h]
theorem rightT_zero {t : T} (h : t.emB = false) : rightT 0 t = t.lfB := by simp [rightT, h]
theorem rightT_succ {t : T} (h : t.emB = false) (n : Nat) : rightT (n + 1) t = (decide (t.val = 0 ∧ t.kids.length = 4) && t.kids.all (rightT n) && (someK t.kids && decide (t.marks = orK t.kids))) := by simp [rightT, h]

theorem right_val {t : T} {h : Nat} (he : t.emB = false) (hv : t.val ≠ 0 ∨ t.kids.length ≠ 4) : rightT (h + 1) t = false := by
  rw [rightT_succ he, decide_eq_false (by omega)]
  simp
theorem right_kid {t k : T} {h i : Nat} (he : t.emB = false) (hi : t.kids[i]? = some k) (hk : rightT h k = false) : rightT (h + 1) t = false := by
  rw [rightT_succ he]
  have : t.kids.all (rightT h) = false := by
    rw [List.all_eq_false]
    exact ⟨k, List.mem_of_getElem? hi, by simp [hk]⟩
  rw [this]
  simp
theorem right_end {t : T} {h : Nat} (he : t.emB = false) (hv : t.val = 0) (hl : t.kids.length = 4) (ha : t.kids.all (rightT h) = true) : rightT (h + 1) t = (someK t.kids && decide (t.marks = orK t.kids)) := by
  rw [rightT_succ he, decide_eq_true ⟨hv, hl⟩, ha]
  simp
theorem all_take {p : T → Bool} {ks : List T} {i : Nat} {k : T} (h : ks[i]? = some k) (ha : (ks.take i).all p = true) (hk : p k = true) : (ks.take (i + 1)).all p = true := by
  rw [List.take_add_one, h, Option.toList_some, List.all_append, ha]
  simp [hk]

set_option maxRecDepth 100000 in
set_option maxHeartbeats 2000000 in
theorem right_w : ∀ (h : Nat) (t : T) (A : Option Addr) (cap : Nat) (S : Nat → Prop) (w : World), h ≤ 100 → t.kids.length ≤ cap → NK w S A t.kids → Calls Try.prog 44 #[ndV A t.kids.length cap t.val t.marks, .int .i64 h] w (RetB (rightT h t) w) := by
  intro h
  induction h with
  | zero =>
    intro t A cap S w hh hcap hk
    have HB := Lib.hid ((Below.refl w.heap.size w).alloc (Nat.le_refl _) (.cells #[.slice A t.kids.length cap, .int .i64 t.val, .int .i64 t.marks] 26))
    have em := fun w => empty_w A t.kids.length cap t.val t.marks w
    rw [show emI t.kids.length t.val t.marks = t.emB from rfl] at em
    cases he : t.emB with
    | true =>
      have HR := Lib.hid (rightT_em he 0)
      rw [he] at em
      clear he
      go_enter Try.func44, Try.ntmps44
      go_wp2_with (go_at_call 59; (with_reducible refine Calls.mono (em _) ?_); rintro e w1 ⟨rfl, hb1⟩)
      go_ret
      exact ⟨ret_bool HR.out.symm, bl_step HB.out hb1⟩
    | false =>
      rw [he] at em
      have HR := Lib.hid (rightT_zero he)
      clear he
      have HX := Lib.hid (heap_alloc_at w (.cells #[.slice A t.kids.length cap, .int .i64 t.val, .int .i64 t.marks] 26))
      have lf := fun w => leaf_w A t.kids.length cap t.val t.marks w
      rw [show lfI t.kids.length t.val t.marks = t.lfB from rfl] at lf
      go_enter Try.func44, Try.ntmps44
      go_wp2_with (first
        | (go_at_call 59; (with_reducible refine Calls.mono (em _) ?_); rintro e w1 ⟨rfl, hb1⟩; have HX1 := bk_step HX.out hb1; have x0 := cells_at HX1 0; have x1 := cells_at HX1 1; have x2 := cells_at HX1 2; simp only [List.getElem?_toArray, List.getElem?_cons_zero, List.getElem?_cons_succ] at x0 x1 x2; clear HX1)
        | (go_at_call 58; (with_reducible refine Calls.mono (lf _) ?_); rintro e w2 ⟨rfl, hb2⟩))
      go_ret
      exact ⟨ret_bool HR.out.symm, bl_step (bl_step HB.out hb1) hb2⟩
  | succ h ih =>
    intro t A cap S w hh hcap hk
    have HB := Lib.hid ((Below.refl w.heap.size w).alloc (Nat.le_refl _) (.cells #[.slice A t.kids.length cap, .int .i64 t.val, .int .i64 t.marks] 26))
    have em := fun w => empty_w A t.kids.length cap t.val t.marks w
    rw [show emI t.kids.length t.val t.marks = t.emB from rfl] at em
    have hz : ¬ (h : Int) + 1 = 0 := by omega
    have hz2 : ((h : Int) + 1 == 0) = false := beq_eq_false_iff_ne.2 hz
    have hz3 : decide ((h : Int) + 1 = 0) = false := decide_eq_false hz
    rw [show ((h + 1 : Nat) : Int) = (h : Int) + 1 by omega]
    cases he : t.emB with
    | true =>
      have HR := Lib.hid (rightT_em he (h + 1))
      rw [he] at em
      clear he
      go_enter Try.func44, Try.ntmps44
      go_wp2_with (go_at_call 59; (with_reducible refine Calls.mono (em _) ?_); rintro e w1 ⟨rfl, hb1⟩)
      go_ret
      exact ⟨ret_bool HR.out.symm, bl_step HB.out hb1⟩
    | false =>
      rw [he] at em
      have HE := Lib.hid he
      clear he
      have HX := Lib.hid (heap_alloc_at w (.cells #[.slice A t.kids.length cap, .int .i64 t.val, .int .i64 t.marks] 26))
      by_cases hv : t.val = 0
      · by_cases hl : t.kids.length = 4
        · have HE2 := Lib.hid (fun ha => right_end (h := h) HE.out hv hl ha)
          have HL := Lib.hid hl
          rw [hl] at em HX HB hcap ⊢
          rw [hv] at em HX HB ⊢
          have HK := Lib.hid (fun w' (hb : Below w.heap.size w w') => hk.step hb)
          have HKID := Lib.hid (fun i k (hi : t.kids[i]? = some k) hf => right_kid (h := h) HE.out hi hf)
          have HLV := Lib.hid (show t.kids.take 4 = t.kids by rw [← hl]; exact List.take_length)
          have hw : IntKind.i64.wrap ((h : Int) + 1 - 1) = (h : Int) := by rw [show (h : Int) + 1 - 1 = h by omega]; exact w64 (by omega)
          have hw2 := w64 (x := (h : Int)) (by omega)
          clear hv hl hk
          generalize t.marks = m at em HX HB HE2 ⊢
          generalize t.kids = ks at HE2 HK HKID HLV HL
          clear HE
          obtain ⟨b1, hb1e⟩ : ∃ b, b = w.heap.size := ⟨_, rfl⟩
          rw [← hb1e] at HX
          have HBe := Lib.hid hb1e
          clear hb1e
          go_enter Try.func44, Try.ntmps44
          go_upto_region 0 with fail
          go_cut [2] (fun s2 wx => s2 = .pointer (some ⟨b1, 0, none⟩) ∧ wx.heap[b1]? = some (.cells #[.slice A 4 cap, .int .i64 0, .int .i64 m] 26 (0, 0)) ∧ Below w.heap.size w wx)
          case first =>
            go_wp2
            go_meet
            case rel => exact ⟨by rw [HBe.out], HX.out, HB.out⟩
          case rest =>
            clear HX HB
            obtain ⟨rfl, hX, hW⟩ := hcut
            have x0 := cells_at hX 0; have x1 := cells_at hX 1; have x2 := cells_at hX 2; simp only [List.getElem?_toArray, List.getElem?_cons_zero, List.getElem?_cons_succ] at x0 x1 x2
            have HX := Lib.hid hX
            have HW := Lib.hid hW
            clear hX hW
            go_upto_region 7 with (go_at_call 59; (with_reducible refine Calls.mono (em _) ?_); rintro e w1 ⟨rfl, hb1⟩; have HX1 := Lib.hid (bk_step HX.out hb1); have HW1 := Lib.hid (bl_step HW.out hb1); have x0 := cells_at HX1.out 0; have x1 := cells_at HX1.out 1; have x2 := cells_at HX1.out 2; simp only [List.getElem?_toArray, List.getElem?_cons_zero, List.getElem?_cons_succ] at x0 x1 x2)
            clear HX HW em hb1 hz hz2 hz3
            go_wp2
            clear x0 x1 x2
            go_loopw [5, 6, 27] (fun s5 s6 s27 wx => ∃ i : Nat, i ≤ 4 ∧ s27 = .int .i64 i ∧ s5 = .int .i64 (orK (ks.take i)) ∧ s6 = .bool (someK (ks.take i)) ∧ (ks.take i).all (rightT h) = true ∧ wx.heap[b1]? = some (.cells #[.slice A 4 cap, .int .i64 0, .int .i64 m] 26 (0, 0)) ∧ Below w.heap.size w wx) (fun _ _ s27 _ => 4 - (intOf s27).toNat)
            case atStart => exact ⟨0, by omega, rfl, rfl, rfl, rfl, HX1.out, HW1.out⟩
            case round =>
              clear HX1 HW1
              obtain ⟨i, hi4, rfl, rfl, rfl, hall, hX, hW⟩ := hrel
              have HX := Lib.hid hX
              have HW := Lib.hid hW
              have HA := Lib.hid hall
              clear hX hW hall
              by_cases hlt : i < 4
              · have hNK := HK.out _ HW.out
                obtain ⟨b, o, k, A', cap', rfl, _, hbl, hi, hNC, hkm, hkc, hkk⟩ := hNK.at_ (show i < ks.length by rw [HL.out]; exact hlt)
                obtain ⟨c0, c1, c2⟩ := hNC
                have HOR := Lib.hid (orK_take hi)
                have HSM := Lib.hid (someK_take hi)
                have HAL := Lib.hid (fun hk => all_take (p := rightT h) hi HA.out hk)
                have HKB := Lib.hid (HKID.out i k hi)
                have HC0 := Lib.hid c0
                have HC1 := Lib.hid c1
                have HC2 := Lib.hid c2
                have hr := fun w' (hb : Below wr.heap.size wr w') => ih k A' cap' S w' (by omega) hkc (hkk.step hb)
                have emk := fun w => empty_w A' k.kids.length cap' k.val k.marks w
                rw [show emI k.kids.length k.val k.marks = k.emB from rfl] at emk
                have i0 : (0 : Int) ≤ (i : Int) := by omega
                have i1 : (i : Int) < 4 := by omega
                have i2 : (i : Int) < (cap : Int) := by omega
                have i3 : (i : Int) ≤ (cap : Int) := by omega
                generalize k.kids.length = kn at hr emk c0 HC0 hkm hkc
                generalize k.marks = km at hr emk c2 HC2 HOR
                generalize k.val = kv at hr emk c1 HC1
                clear hNK hi hkk HA
                cases hrk : rightT h k with
                | false =>
                  have HR := Lib.hid (HKB.out hrk)
                  rw [hrk] at hr
                  clear hrk
                  go_wp2_with (go_at_call 44; (with_reducible refine Calls.mono (hr _ ((Below.refl _ _).alloc (Nat.le_refl _) _)) ?_); rintro e w1 ⟨rfl, hb1⟩; have HX2 := Lib.hid (bk_step (bk_alloc HX.out (.cells #[.slice A' kn cap', .int .i64 kv, .int .i64 km] 26)) hb1); have HW2 := Lib.hid (bl_step (bl_alloc HW.out (.cells #[.slice A' kn cap', .int .i64 kv, .int .i64 km] 26)) hb1); have hy := bk_step (heap_alloc_at wr (.cells #[.slice A' kn cap', .int .i64 kv, .int .i64 km] 26)) hb1; have y0 := cells_at hy 0; have y1 := cells_at hy 1; have y2 := cells_at hy 2; simp only [List.getElem?_toArray, List.getElem?_cons_zero, List.getElem?_cons_succ] at y0 y1 y2; clear hy)
                  go_ret
                  exact ⟨ret_bool HR.out.symm, HW2.out⟩
                | true =>
                  have HAK := Lib.hid (HAL.out hrk)
                  rw [hrk] at hr
                  clear hrk
                  cases hsm : someK (ks.take i) with
                  | true =>
                    rw [hsm] at HSM
                    go_wp2_with (go_at_call 44; (with_reducible refine Calls.mono (hr _ ((Below.refl _ _).alloc (Nat.le_refl _) _)) ?_); rintro e w1 ⟨rfl, hb1⟩; have HX2 := Lib.hid (bk_step (bk_alloc HX.out (.cells #[.slice A' kn cap', .int .i64 kv, .int .i64 km] 26)) hb1); have HW2 := Lib.hid (bl_step (bl_alloc HW.out (.cells #[.slice A' kn cap', .int .i64 kv, .int .i64 km] 26)) hb1); have hy := bk_step (heap_alloc_at wr (.cells #[.slice A' kn cap', .int .i64 kv, .int .i64 km] 26)) hb1; have y0 := cells_at hy 0; have y1 := cells_at hy 1; have y2 := cells_at hy 2; simp only [List.getElem?_toArray, List.getElem?_cons_zero, List.getElem?_cons_succ] at y0 y1 y2; clear hy)
                    go_roundw
                    case rel => exact ⟨i + 1, by omega, by go_num, by rw [HOR.out], by rw [HSM.out]; rfl, HAK.out, HX2.out, HW2.out⟩
                    case measure => simp [intOf]; omega
                  | false =>
                    rw [hsm] at HSM
                    go_wp2_with (first
                      | (go_at_call 44; (with_reducible refine Calls.mono (hr _ ((Below.refl _ _).alloc (Nat.le_refl _) _)) ?_); rintro e w1 ⟨rfl, hb1⟩; have HX2 := Lib.hid (bk_step (bk_alloc HX.out (.cells #[.slice A' kn cap', .int .i64 kv, .int .i64 km] 26)) hb1); have HW2 := Lib.hid (bl_step (bl_alloc HW.out (.cells #[.slice A' kn cap', .int .i64 kv, .int .i64 km] 26)) hb1); have hy := bk_step (heap_alloc_at wr (.cells #[.slice A' kn cap', .int .i64 kv, .int .i64 km] 26)) hb1; have y0 := cells_at hy 0; have y1 := cells_at hy 1; have y2 := cells_at hy 2; simp only [List.getElem?_toArray, List.getElem?_cons_zero, List.getElem?_cons_succ] at y0 y1 y2; clear hy)
                      | (go_at_call 59; (with_reducible refine Calls.mono (emk _) ?_); rintro e w1 ⟨rfl, hb2⟩))
                    go_roundw
                    case rel => exact ⟨i + 1, by omega, by go_num, by rw [HOR.out], by rw [HSM.out]; rfl, HAK.out, bk_step HX2.out hb2, bl_step HW2.out hb2⟩
                    case measure => simp [intOf]; omega
              · obtain rfl : i = 4 := by omega
                have hR := HE2.out
                have hA := HA.out
                rw [HLV.out] at hA ⊢
                have HR := Lib.hid (hR hA)
                have x0 := cells_at HX.out 0; have x1 := cells_at HX.out 1; have x2 := cells_at HX.out 2; simp only [List.getElem?_toArray, List.getElem?_cons_zero, List.getElem?_cons_succ] at x0 x1 x2
                clear hR hA
                cases hs : someK ks with
                | true =>
                  rw [hs] at HR
                  by_cases hm : m = orK ks
                  · subst hm
                    go_wp2
                    go_ret
                    exact ⟨ret_bool (by rw [HR.out]; simp), HW.out⟩
                  · have hd : decide (m = orK ks) = false := decide_eq_false hm
                    go_wp2
                    go_ret
                    exact ⟨ret_bool (by rw [HR.out]; simp [hm]), HW.out⟩
                | false =>
                  rw [hs] at HR
                  go_wp2
                  go_ret
                  exact ⟨ret_bool (by rw [HR.out]; simp), HW.out⟩
        · have HR := Lib.hid (right_val (h := h) HE.out (.inr hl))
          have hd : decide ((t.kids.length : Int) = 4) = false := decide_eq_false (by omega)
          have hd2 : ((t.kids.length : Int) == 4) = false := by simp; omega
          have hd3 : ¬ (t.kids.length : Int) = 4 := by omega
          rw [hv] at HX HB em ⊢
          go_enter Try.func44, Try.ntmps44
          go_wp2_with (go_at_call 59; (with_reducible refine Calls.mono (em _) ?_); rintro e w1 ⟨rfl, hb1⟩; have HX1 := bk_step HX.out hb1; have x0 := cells_at HX1 0; have x1 := cells_at HX1 1; have x2 := cells_at HX1 2; simp only [List.getElem?_toArray, List.getElem?_cons_zero, List.getElem?_cons_succ] at x0 x1 x2; clear HX1)
          go_ret
          exact ⟨ret_bool HR.out.symm, bl_step HB.out hb1⟩
      · have HR := Lib.hid (right_val (h := h) HE.out (.inl hv))
        have hd : decide (t.val = 0) = false := decide_eq_false hv
        have hd2 : (t.val == 0) = false := by simpa using hv
        go_enter Try.func44, Try.ntmps44
        go_wp2_with (go_at_call 59; (with_reducible refine Calls.mono (em _) ?_); rintro e w1 ⟨rfl, hb1⟩; have HX1 := bk_step HX.out hb1; have x0 := cells_at HX1 0; have x1 := cells_at HX1 1; have x2 := cells_at HX1 2; simp only [List.getElem?_toArray, List.getElem?_cons_zero, List.getElem?_cons_succ] at x0 x1 x2; clear HX1)
        all_goals go_ret
        all_goals exact ⟨ret_bool HR.out.symm, bl_step HB.out hb1⟩

set_option maxRecDepth 100000 in
set_option maxHeartbeats 2000000 in
theorem subtree_w : ∀ (h : Nat) (t : T) (A : Option Addr) (cap : Nat) (S : Nat → Prop) (w : World), h ≤ 100 → t.kids.length ≤ cap → NK w S A t.kids → Calls Try.prog 46 #[ndV A t.kids.length cap t.val t.marks, .int .i64 h] w (RetB (rightT h t) w) := by
  intro h
  induction h with
  | zero =>
    intro t A cap S w hh hcap hk
    have HB := Lib.hid ((Below.refl w.heap.size w).alloc (Nat.le_refl _) (.cells #[.slice A t.kids.length cap, .int .i64 t.val, .int .i64 t.marks] 26))
    have em := fun w => rEmpty_w A t.kids.length cap t.val t.marks w
    rw [show emI t.kids.length t.val t.marks = t.emB from rfl] at em
    cases he : t.emB with
    | true =>
      have HR := Lib.hid (rightT_em he 0)
      rw [he] at em
      clear he
      go_enter Try.func46, Try.ntmps46
      go_wp2_with (go_at_call 60; (with_reducible refine Calls.mono (em _) ?_); rintro e w1 ⟨rfl, hb1⟩)
      go_ret
      exact ⟨ret_bool HR.out.symm, bl_step HB.out hb1⟩
    | false =>
      rw [he] at em
      have HR := Lib.hid (rightT_zero he)
      clear he
      have HX := Lib.hid (heap_alloc_at w (.cells #[.slice A t.kids.length cap, .int .i64 t.val, .int .i64 t.marks] 26))
      unfold T.lfB at HR
      generalize t.kids.length = n at *
      generalize t.val = v at *
      generalize t.marks = m at *
      rcases n with _ | n
      · by_cases h1 : v = 0
        · have HL := Lib.hid (show lfI 0 v m = false from decide_eq_false (by omega))
          subst h1
          go_enter Try.func46, Try.ntmps46
          go_wp2_with (go_at_call 60; (with_reducible refine Calls.mono (em _) ?_); rintro e w1 ⟨rfl, hb1⟩; have HX1 := bk_step HX.out hb1; have x0 := cells_at HX1 0; have x1 := cells_at HX1 1; have x2 := cells_at HX1 2; simp only [List.getElem?_toArray, List.getElem?_cons_zero, List.getElem?_cons_succ] at x0 x1 x2; clear HX1)
          go_ret
          exact ⟨ret_bool (by rw [HR.out, HL.out] <;> first | rfl | (simp; done) | (simp; omega) | (simpa using h1)), bl_step HB.out hb1⟩
        · have d1 : decide (v = 0) = false := decide_eq_false h1
          have d1' : (v == 0) = false := by simpa using h1
          by_cases h2 : 0 ≤ m
          · by_cases h3 : m ≤ 7
            · by_cases h4 : 0 < v
              · have HL := Lib.hid (show lfI 0 v m = true from decide_eq_true (by omega))
                go_enter Try.func46, Try.ntmps46
                go_wp2_with (go_at_call 60; (with_reducible refine Calls.mono (em _) ?_); rintro e w1 ⟨rfl, hb1⟩; have HX1 := bk_step HX.out hb1; have x0 := cells_at HX1 0; have x1 := cells_at HX1 1; have x2 := cells_at HX1 2; simp only [List.getElem?_toArray, List.getElem?_cons_zero, List.getElem?_cons_succ] at x0 x1 x2; clear HX1)
                go_ret
                exact ⟨ret_bool (by rw [HR.out, HL.out] <;> first | rfl | (simp; done) | (simp; omega) | (simpa using h1)), bl_step HB.out hb1⟩
              · by_cases h5 : m = 0
                · have HL := Lib.hid (show lfI 0 v m = true from decide_eq_true (by omega))
                  subst h5
                  go_enter Try.func46, Try.ntmps46
                  go_wp2_with (go_at_call 60; (with_reducible refine Calls.mono (em _) ?_); rintro e w1 ⟨rfl, hb1⟩; have HX1 := bk_step HX.out hb1; have x0 := cells_at HX1 0; have x1 := cells_at HX1 1; have x2 := cells_at HX1 2; simp only [List.getElem?_toArray, List.getElem?_cons_zero, List.getElem?_cons_succ] at x0 x1 x2; clear HX1)
                  go_ret
                  exact ⟨ret_bool (by rw [HR.out, HL.out] <;> first | rfl | (simp; done) | (simp; omega) | (simpa using h1)), bl_step HB.out hb1⟩
                · have HL := Lib.hid (show lfI 0 v m = false from decide_eq_false (by omega))
                  have d5 : decide (m = 0) = false := decide_eq_false h5
                  have d5' : (m == 0) = false := by simpa using h5
                  go_enter Try.func46, Try.ntmps46
                  go_wp2_with (go_at_call 60; (with_reducible refine Calls.mono (em _) ?_); rintro e w1 ⟨rfl, hb1⟩; have HX1 := bk_step HX.out hb1; have x0 := cells_at HX1 0; have x1 := cells_at HX1 1; have x2 := cells_at HX1 2; simp only [List.getElem?_toArray, List.getElem?_cons_zero, List.getElem?_cons_succ] at x0 x1 x2; clear HX1)
                  go_ret
                  exact ⟨ret_bool (by rw [HR.out, HL.out] <;> first | rfl | (simp; done) | (simp; omega) | (simpa using h1)), bl_step HB.out hb1⟩
            · have HL := Lib.hid (show lfI 0 v m = false from decide_eq_false (by omega))
              go_enter Try.func46, Try.ntmps46
              go_wp2_with (go_at_call 60; (with_reducible refine Calls.mono (em _) ?_); rintro e w1 ⟨rfl, hb1⟩; have HX1 := bk_step HX.out hb1; have x0 := cells_at HX1 0; have x1 := cells_at HX1 1; have x2 := cells_at HX1 2; simp only [List.getElem?_toArray, List.getElem?_cons_zero, List.getElem?_cons_succ] at x0 x1 x2; clear HX1)
              go_ret
              exact ⟨ret_bool (by rw [HR.out, HL.out] <;> first | rfl | (simp; done) | (simp; omega) | (simpa using h1)), bl_step HB.out hb1⟩
          · have HL := Lib.hid (show lfI 0 v m = false from decide_eq_false (by omega))
            go_enter Try.func46, Try.ntmps46
            go_wp2_with (go_at_call 60; (with_reducible refine Calls.mono (em _) ?_); rintro e w1 ⟨rfl, hb1⟩; have HX1 := bk_step HX.out hb1; have x0 := cells_at HX1 0; have x1 := cells_at HX1 1; have x2 := cells_at HX1 2; simp only [List.getElem?_toArray, List.getElem?_cons_zero, List.getElem?_cons_succ] at x0 x1 x2; clear HX1)
            go_ret
            exact ⟨ret_bool (by rw [HR.out, HL.out] <;> first | rfl | (simp; done) | (simp; omega) | (simpa using h1)), bl_step HB.out hb1⟩
      · have HL := Lib.hid (show lfI (n + 1) v m = false from decide_eq_false (by omega))
        have h0 : ((n : Int) + 1 = 0) = False := by simp; omega
        have h0' : ((n : Int) + 1 == 0) = false := beq_eq_false_iff_ne.2 (by omega)
        have h1 := h0'
        go_enter Try.func46, Try.ntmps46
        go_wp2_with (go_at_call 60; (with_reducible refine Calls.mono (em _) ?_); rintro e w1 ⟨rfl, hb1⟩; have HX1 := bk_step HX.out hb1; have x0 := cells_at HX1 0; have x1 := cells_at HX1 1; have x2 := cells_at HX1 2; simp only [List.getElem?_toArray, List.getElem?_cons_zero, List.getElem?_cons_succ] at x0 x1 x2; clear HX1)
        go_ret
        exact ⟨ret_bool (by rw [HR.out, HL.out] <;> first | rfl | (simp; done) | (simp; omega) | (simpa using h1)), bl_step HB.out hb1⟩
  | succ h ih =>
    intro t A cap S w hh hcap hk
    have HB := Lib.hid ((Below.refl w.heap.size w).alloc (Nat.le_refl _) (.cells #[.slice A t.kids.length cap, .int .i64 t.val, .int .i64 t.marks] 26))
    have em := fun w => rEmpty_w A t.kids.length cap t.val t.marks w
    rw [show emI t.kids.length t.val t.marks = t.emB from rfl] at em
    have hz : ¬ (h : Int) + 1 = 0 := by omega
    have hz2 : ((h : Int) + 1 == 0) = false := beq_eq_false_iff_ne.2 hz
    have hz3 : decide ((h : Int) + 1 = 0) = false := decide_eq_false hz
    rw [show ((h + 1 : Nat) : Int) = (h : Int) + 1 by omega]
    cases he : t.emB with
    | true =>
      have HR := Lib.hid (rightT_em he (h + 1))
      rw [he] at em
      clear he
      go_enter Try.func46, Try.ntmps46
      go_wp2_with (go_at_call 60; (with_reducible refine Calls.mono (em _) ?_); rintro e w1 ⟨rfl, hb1⟩)
      go_ret
      exact ⟨ret_bool HR.out.symm, bl_step HB.out hb1⟩
    | false =>
      rw [he] at em
      have HE := Lib.hid he
      clear he
      have HX := Lib.hid (heap_alloc_at w (.cells #[.slice A t.kids.length cap, .int .i64 t.val, .int .i64 t.marks] 26))
      by_cases hv : t.val = 0
      · by_cases hl : t.kids.length = 4
        · have HE2 := Lib.hid (fun ha => right_end (h := h) HE.out hv hl ha)
          have HL := Lib.hid hl
          rw [hl] at em HX HB hcap ⊢
          rw [hv] at em HX HB ⊢
          have HK := Lib.hid (fun w' (hb : Below w.heap.size w w') => hk.step hb)
          have HKID := Lib.hid (fun i k (hi : t.kids[i]? = some k) hf => right_kid (h := h) HE.out hi hf)
          have HLV := Lib.hid (show t.kids.take 4 = t.kids by rw [← hl]; exact List.take_length)
          have hw : IntKind.i64.wrap ((h : Int) + 1 - 1) = (h : Int) := by rw [show (h : Int) + 1 - 1 = h by omega]; exact w64 (by omega)
          have hw2 := w64 (x := (h : Int)) (by omega)
          clear hv hl hk
          generalize t.marks = m at em HX HB HE2 ⊢
          generalize t.kids = ks at HE2 HK HKID HLV HL
          clear HE
          obtain ⟨b1, hb1e⟩ : ∃ b, b = w.heap.size := ⟨_, rfl⟩
          rw [← hb1e] at HX
          have HBe := Lib.hid hb1e
          clear hb1e
          go_enter Try.func46, Try.ntmps46
          go_upto_region 0 with fail
          go_cut [2] (fun s2 wx => s2 = .pointer (some ⟨b1, 0, none⟩) ∧ wx.heap[b1]? = some (.cells #[.slice A 4 cap, .int .i64 0, .int .i64 m] 26 (0, 0)) ∧ Below w.heap.size w wx)
          case first =>
            go_wp2
            go_meet
            case rel => exact ⟨by rw [HBe.out], HX.out, HB.out⟩
          case rest =>
            clear HX HB
            obtain ⟨rfl, hX, hW⟩ := hcut
            have x0 := cells_at hX 0; have x1 := cells_at hX 1; have x2 := cells_at hX 2; simp only [List.getElem?_toArray, List.getElem?_cons_zero, List.getElem?_cons_succ] at x0 x1 x2
            have HX := Lib.hid hX
            have HW := Lib.hid hW
            clear hX hW
            go_upto_region 7 with (go_at_call 60; (with_reducible refine Calls.mono (em _) ?_); rintro e w1 ⟨rfl, hb1⟩; have HX1 := Lib.hid (bk_step HX.out hb1); have HW1 := Lib.hid (bl_step HW.out hb1); have x0 := cells_at HX1.out 0; have x1 := cells_at HX1.out 1; have x2 := cells_at HX1.out 2; simp only [List.getElem?_toArray, List.getElem?_cons_zero, List.getElem?_cons_succ] at x0 x1 x2)
            clear HX HW em hb1 hz hz2 hz3
            go_wp2
            clear x0 x1 x2
            go_loopw [5, 6, 7] (fun s5 s6 s27 wx => ∃ i : Nat, i ≤ 4 ∧ s27 = .int .i64 i ∧ s5 = .int .i64 (orK (ks.take i)) ∧ s6 = .bool (someK (ks.take i)) ∧ (ks.take i).all (rightT h) = true ∧ wx.heap[b1]? = some (.cells #[.slice A 4 cap, .int .i64 0, .int .i64 m] 26 (0, 0)) ∧ Below w.heap.size w wx) (fun _ _ s27 _ => 4 - (intOf s27).toNat)
            case atStart => exact ⟨0, by omega, rfl, rfl, rfl, rfl, HX1.out, HW1.out⟩
            case round =>
              clear HX1 HW1
              obtain ⟨i, hi4, rfl, rfl, rfl, hall, hX, hW⟩ := hrel
              have HX := Lib.hid hX
              have HW := Lib.hid hW
              have HA := Lib.hid hall
              clear hX hW hall
              by_cases hlt : i < 4
              · have hNK := HK.out _ HW.out
                obtain ⟨b, o, k, A', cap', rfl, _, hbl, hi, hNC, hkm, hkc, hkk⟩ := hNK.at_ (show i < ks.length by rw [HL.out]; exact hlt)
                obtain ⟨c0, c1, c2⟩ := hNC
                have HOR := Lib.hid (orK_take hi)
                have HSM := Lib.hid (someK_take hi)
                have HAL := Lib.hid (fun hk => all_take (p := rightT h) hi HA.out hk)
                have HKB := Lib.hid (HKID.out i k hi)
                have HC0 := Lib.hid c0
                have HC1 := Lib.hid c1
                have HC2 := Lib.hid c2
                have hr := fun w' (hb : Below wr.heap.size wr w') => ih k A' cap' S w' (by omega) hkc (hkk.step hb)
                have emk := fun w => rEmpty_w A' k.kids.length cap' k.val k.marks w
                rw [show emI k.kids.length k.val k.marks = k.emB from rfl] at emk
                have i0 : (0 : Int) ≤ (i : Int) := by omega
                have i1 : (i : Int) < 4 := by omega
                have i2 : (i : Int) < (cap : Int) := by omega
                have i3 : (i : Int) ≤ (cap : Int) := by omega
                generalize k.kids.length = kn at hr emk c0 HC0 hkm hkc
                generalize k.marks = km at hr emk c2 HC2 HOR
                generalize k.val = kv at hr emk c1 HC1
                clear hNK hi hkk HA
                have x0 := cells_at HX.out 0; have x1 := cells_at HX.out 1; have x2 := cells_at HX.out 2; simp only [List.getElem?_toArray, List.getElem?_cons_zero, List.getElem?_cons_succ] at x0 x1 x2
                cases hrk : rightT h k with
                | false =>
                  have HR := Lib.hid (HKB.out hrk)
                  rw [hrk] at hr
                  clear hrk
                  go_wp2_with (go_at_call 46; (with_reducible refine Calls.mono (hr _ (Below.refl _ _)) ?_); rintro e w1 ⟨rfl, hb1⟩; have HX2 := Lib.hid (bk_step HX.out hb1); have HW2 := Lib.hid (bl_step HW.out hb1); have y0 := (hb1.cell (p := ⟨b, _, none⟩) hbl).trans HC0.out; have y1 := (hb1.cell (p := ⟨b, _, none⟩) hbl).trans HC1.out; have y2 := (hb1.cell (p := ⟨b, _, none⟩) hbl).trans HC2.out; have z0 := cells_at HX2.out 0; have z2 := cells_at HX2.out 2; simp only [List.getElem?_toArray, List.getElem?_cons_zero, List.getElem?_cons_succ] at z0 z2)
                  go_ret
                  exact ⟨ret_bool HR.out.symm, HW2.out⟩
                | true =>
                  have HAK := Lib.hid (HAL.out hrk)
                  rw [hrk] at hr
                  clear hrk
                  cases hsm : someK (ks.take i) with
                  | true =>
                    rw [hsm] at HSM
                    go_wp2_with (go_at_call 46; (with_reducible refine Calls.mono (hr _ (Below.refl _ _)) ?_); rintro e w1 ⟨rfl, hb1⟩; have HX2 := Lib.hid (bk_step HX.out hb1); have HW2 := Lib.hid (bl_step HW.out hb1); have y0 := (hb1.cell (p := ⟨b, _, none⟩) hbl).trans HC0.out; have y1 := (hb1.cell (p := ⟨b, _, none⟩) hbl).trans HC1.out; have y2 := (hb1.cell (p := ⟨b, _, none⟩) hbl).trans HC2.out; have z0 := cells_at HX2.out 0; have z2 := cells_at HX2.out 2; simp only [List.getElem?_toArray, List.getElem?_cons_zero, List.getElem?_cons_succ] at z0 z2)
                    go_roundw
                    case rel => exact ⟨i + 1, by omega, by go_num, by rw [HOR.out], by rw [HSM.out]; rfl, HAK.out, HX2.out, HW2.out⟩
                    case measure => simp [intOf]; omega
                  | false =>
                    rw [hsm] at HSM
                    go_wp2_with (first
                      | (go_at_call 46; (with_reducible refine Calls.mono (hr _ (Below.refl _ _)) ?_); rintro e w1 ⟨rfl, hb1⟩; have HX2 := Lib.hid (bk_step HX.out hb1); have HW2 := Lib.hid (bl_step HW.out hb1); have y0 := (hb1.cell (p := ⟨b, _, none⟩) hbl).trans HC0.out; have y1 := (hb1.cell (p := ⟨b, _, none⟩) hbl).trans HC1.out; have y2 := (hb1.cell (p := ⟨b, _, none⟩) hbl).trans HC2.out; have z0 := cells_at HX2.out 0; have z2 := cells_at HX2.out 2; simp only [List.getElem?_toArray, List.getElem?_cons_zero, List.getElem?_cons_succ] at z0 z2)
                      | (go_at_call 60; (with_reducible refine Calls.mono (emk _) ?_); rintro e w1 ⟨rfl, hb2⟩))
                    go_roundw
                    case rel => exact ⟨i + 1, by omega, by go_num, by rw [HOR.out], by rw [HSM.out]; rfl, HAK.out, bk_step HX2.out hb2, bl_step HW2.out hb2⟩
                    case measure => simp [intOf]; omega
              · obtain rfl : i = 4 := by omega
                have hR := HE2.out
                have hA := HA.out
                rw [HLV.out] at hA ⊢
                have HR := Lib.hid (hR hA)
                have x0 := cells_at HX.out 0; have x1 := cells_at HX.out 1; have x2 := cells_at HX.out 2; simp only [List.getElem?_toArray, List.getElem?_cons_zero, List.getElem?_cons_succ] at x0 x1 x2
                clear hR hA
                cases hs : someK ks with
                | true =>
                  rw [hs] at HR
                  by_cases hm : m = orK ks
                  · subst hm
                    go_wp2
                    go_ret
                    exact ⟨ret_bool (by rw [HR.out]; simp), HW.out⟩
                  · have hd : decide (m = orK ks) = false := decide_eq_false hm
                    go_wp2
                    go_ret
                    exact ⟨ret_bool (by rw [HR.out]; simp [hm]), HW.out⟩
                | false =>
                  rw [hs] at HR
                  go_wp2
                  go_ret
                  exact ⟨ret_bool (by rw [HR.out]; simp), HW.out⟩
        · have HR := Lib.hid (right_val (h := h) HE.out (.inr hl))
          have hd : decide ((t.kids.length : Int) = 4) = false := decide_eq_false (by omega)
          have hd2 : ((t.kids.length : Int) == 4) = false := by simp; omega
          have hd3 : ¬ (t.kids.length : Int) = 4 := by omega
          rw [hv] at HX HB em ⊢
          go_enter Try.func46, Try.ntmps46
          go_wp2_with (go_at_call 60; (with_reducible refine Calls.mono (em _) ?_); rintro e w1 ⟨rfl, hb1⟩; have HX1 := bk_step HX.out hb1; have x0 := cells_at HX1 0; have x1 := cells_at HX1 1; have x2 := cells_at HX1 2; simp only [List.getElem?_toArray, List.getElem?_cons_zero, List.getElem?_cons_succ] at x0 x1 x2; clear HX1)
          go_ret
          exact ⟨ret_bool HR.out.symm, bl_step HB.out hb1⟩
      · have HR := Lib.hid (right_val (h := h) HE.out (.inl hv))
        have hd : decide (t.val = 0) = false := decide_eq_false hv
        have hd2 : (t.val == 0) = false := by simpa using hv
        go_enter Try.func46, Try.ntmps46
        go_wp2_with (go_at_call 60; (with_reducible refine Calls.mono (em _) ?_); rintro e w1 ⟨rfl, hb1⟩; have HX1 := bk_step HX.out hb1; have x0 := cells_at HX1 0; have x1 := cells_at HX1 1; have x2 := cells_at HX1 2; simp only [List.getElem?_toArray, List.getElem?_cons_zero, List.getElem?_cons_succ] at x0 x1 x2; clear HX1)
        all_goals go_ret
        all_goals exact ⟨ret_bool HR.out.symm, bl_step HB.out hb1⟩

end Go.Proofs.Ytpoagdffpajdjaa
