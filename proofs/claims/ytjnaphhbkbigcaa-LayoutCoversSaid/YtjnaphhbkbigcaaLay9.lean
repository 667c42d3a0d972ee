/-
  The reference's Runs, by contract.
-/
import Derived.Test.YtjnaphhbkbigcaaLay8
namespace Go.Proofs.Ytjnaphhbkbigcaa
open Go.RowKit
set_option linter.unusedVariables false
set_option linter.unusedSimpArgs false

theorem eight_get {p : Nat} (h : p < 8) : ([0, 1, 2, 3, 4, 5, 6, 7] : List Int)[p]? = some (p : Int) := by
  have : p = 0 ∨ p = 1 ∨ p = 2 ∨ p = 3 ∨ p = 4 ∨ p = 5 ∨ p = 6 ∨ p = 7 := by omega
  rcases this with rfl | rfl | rfl | rfl | rfl | rfl | rfl | rfl <;> rfl
/-- The reference's list behind the pages below p. -/
def accR (s m : Int) (pages : List Int) (p : Nat) : List Sp := ((([0, 1, 2, 3, 4, 5, 6, 7] : List Int).take p).filter (fun x => pages.any (· == x))).foldl (stepR s m) []
theorem accR_succ {s m : Int} {pages : List Int} {p : Nat} (h : p < 8) : accR s m pages (p + 1) = if pages.any (· == (p : Int)) = true then stepR s m (accR s m pages p) p else accR s m pages p := by
  unfold accR
  rw [List.take_add_one, eight_get h, Option.toList_some, List.filter_append, List.foldl_append]
  by_cases hq : pages.any (· == (p : Int)) = true
  · rw [if_pos hq]
    simp only [List.filter_cons, hq, List.filter_nil, if_true, List.foldl_cons, List.foldl_nil]
  · rw [if_neg hq]
    simp only [List.filter_cons, hq, List.filter_nil, if_false, List.foldl_nil]
    rfl
/-- What is known of the spans. -/
def SB (K : Int) (l : List Sp) : Prop := ∀ x ∈ l, -1 ≤ x.1 ∧ x.1 ≤ 200 ∧ 0 ≤ x.2 ∧ x.2 ≤ K
theorem stepR_len (s m : Int) (acc : List Sp) (p : Int) : (stepR s m acc p).length ≤ acc.length + 1 := by
  unfold stepR
  split
  · split
    · simp
    · simp
  · simp
theorem stepR_SB {s m K : Int} {acc : List Sp} {p : Int} (h : SB K acc) (hs : 0 ≤ s ∧ s < 7) (hp : 0 ≤ p ∧ p < 8) (hK : 0 ≤ K) : SB (K + 2) (stepR s m acc p) := by
  have hpg := pg_in hs hp
  have hmono : ∀ x ∈ acc, -1 ≤ x.1 ∧ x.1 ≤ 200 ∧ 0 ≤ x.2 ∧ x.2 ≤ K + 2 := fun x hx => by have := h x hx; omega
  unfold stepR
  split
  · rename_i a n hl
    have hm := List.mem_of_getLast? hl
    split
    · intro x hx
      rcases List.mem_append.1 hx with hx | hx
      · exact hmono x (List.dropLast_subset _ hx)
      · have := h _ hm
        simp only [List.mem_singleton] at hx
        subst hx
        simp only at this ⊢
        omega
    · intro x hx
      rcases List.mem_append.1 hx with hx | hx
      · exact hmono x hx
      · simp only [List.mem_singleton] at hx
        subst hx
        simp only
        omega
  · intro x hx
    rcases List.mem_append.1 hx with hx | hx
    · exact hmono x hx
    · simp only [List.mem_singleton] at hx
      subst hx
      simp only
      omega
theorem last_snoc {α : Type} (l : List α) (h : l ≠ []) : ∃ pre x, l = pre ++ [x] := ⟨l.dropLast, l.getLast h, (List.dropLast_concat_getLast h).symm⟩

/-- Whether the last span grows. -/
def tB (m at_ : Int) (acc : List Sp) : Bool := match acc.getLast? with
  | some (a, n) => decide (a + n = at_ ∧ n + 2 ≤ m)
  | none => false
theorem tB_snoc (m at_ : Int) (pre : List Sp) (a n : Int) : tB m at_ (pre ++ [(a, n)]) = decide (a + n = at_ ∧ n + 2 ≤ m) := by
  unfold tB
  simp
theorem stepR_t {s m p : Int} {acc : List Sp} (h : tB m (pgP s p) acc = false) : stepR s m acc p = acc ++ [(pgP s p, 2)] := by
  by_cases h0 : acc = []
  · subst h0; rfl
  · obtain ⟨pre, ⟨a, n⟩, rfl⟩ := last_snoc acc h0
    rw [tB_snoc] at h
    rw [stepR_snoc, if_neg (by simpa using h)]
theorem own_form {w : World} {b : Nat} {t : TypeId} {v : Value} {sz n : Nat} {xs : List Value} (h : w.ownsRow b t sz v n xs) : ∃ A cap, v = .slice A n cap := by
  rcases h.2 with ⟨h1, h2⟩ | ⟨g, cap, cur, h1, _⟩
  · exact ⟨none, 0, by rw [h1, h2]⟩
  · exact ⟨_, _, h1⟩
set_option maxRecDepth 100000 in
set_option maxHeartbeats 4000000 in
theorem rRuns_w (s most : Int) (A : Option Addr) (pages : List Int) (cap : Nat) (w : World) (h : ZA w A pages) (hl : pages.length ≤ 1000) (hm63 : most ≤ 9223372036854775807) :
    Calls Try.prog 21 #[.int .i64 s, .slice A pages.length cap, .int .i64 most] w (RetSp (runsP s pages most) w) := by
  have hk := fun w => rSlot_w s w
  have HZ := Lib.hid h
  clear h
  by_cases h0 : 0 ≤ s ∧ s < 7
  · rw [decide_eq_true h0] at hk
    by_cases h2 : most < 2
    · have HR := Lib.hid (show runsP s pages most = [] by unfold runsP; rw [if_neg (by omega)])
      clear h0
      go_enter Try.func21, Try.ntmps21
      go_wp2_with (go_at_call 26; (with_reducible refine Calls.mono (hk _) ?_); rintro e w1 ⟨rfl, rfl⟩)
      go_ret
      exact ⟨_, rfl, by rw [HR.out]; exact SpA.nil _, Below.refl _ _⟩
    · have HR := Lib.hid (show accR s (most / 2 * 2) pages 8 = runsP s pages most from runs_eq h0 (by omega) pages)
      obtain ⟨s0, s1⟩ := h0
      obtain ⟨hf, hhf⟩ : ∃ hf, most / 2 = hf := ⟨_, rfl⟩
      have e1 := (tdiv_pos (x := most) (n := 2) (by omega)).trans hhf
      have w1 : IntKind.i64.wrap hf = hf := IntWalk.i64_in _ (by omega)
      have w2 : IntKind.i64.wrap (hf * 2) = hf * 2 := IntWalk.i64_in _ (by omega)
      rw [hhf] at HR
      have hm1 : hf * 2 ≤ 9223372036854775807 := by omega
      have hm2 : 2 ≤ hf * 2 := by omega
      obtain ⟨i0, hi, hz0, hz1, hz2⟩ := info_parts sp_info
      clear hhf
      go_enter Try.func21, Try.ntmps21
      go_wp2_with (go_at_call 26; (with_reducible refine Calls.mono (hk _) ?_); rintro e w1 ⟨rfl, rfl⟩)
      clear e1 w1 w2
      generalize hf * 2 = m at HR hm1 hm2 ⊢
      go_loopw [7, 8] (fun s7 s8 wx => ∃ p : Nat, p ≤ 8 ∧ s8 = .int .i64 p ∧ wx.ownsRow w.heap.size 36 2 s7 (accR s m pages p).length (sps (accR s m pages p)) ∧ SB (2 * (p : Int)) (accR s m pages p) ∧ (accR s m pages p).length ≤ p ∧ Below w.heap.size w wx) (fun _ s8 _ => 8 - (intOf s8).toNat)
      case atStart => exact ⟨0, by omega, rfl, World.ownsRow_nil _ _ _ _, fun x hx => by simp [accR] at hx, by simp [accR], Below.refl _ _⟩
      case round =>
        obtain ⟨p, hp8, rfl, hown, hsb, hal, hW⟩ := hrel
        have Hown := Lib.hid hown
        have HW := Lib.hid hW
        have Hsb := Lib.hid hsb
        by_cases hp : p < 8
        · have p0 : (0 : Int) ≤ (p : Int) := by omega
          have p1 : (p : Int) < 8 := by omega
          have Hs := Lib.hid (accR_succ (s := s) (m := m) (pages := pages) hp)
          have Hs2 := Lib.hid (stepR_SB (m := m) (p := (p : Int)) hsb ⟨s0, s1⟩ ⟨p0, p1⟩ (by omega))
          have hsl := stepR_len s m (accR s m pages p) (p : Int)
          have hpg := fun w => rPg_w s (p : Int) w
          rw [pg_in ⟨s0, s1⟩ ⟨p0, p1⟩] at hpg
          have Hst := Lib.hid (fun pre a n (h : accR s m pages p = pre ++ [(a, n)]) => by
            have := stepR_snoc s m pre a n (p : Int)
            rw [← h, pg_in ⟨s0, s1⟩ ⟨p0, p1⟩] at this
            exact this)
          have Hse := Lib.hid (show accR s m pages p = [] → stepR s m (accR s m pages p) (p : Int) = [] ++ [(s * 18 + 2 + (p : Int) * 2, 2)] from fun h => by rw [h, ← pg_in ⟨s0, s1⟩ ⟨p0, p1⟩]; rfl)
          generalize accR s m pages p = acc at Hown Hsb Hs Hs2 hsl Hst Hse hal
          clear hown hsb hW
          go_wp2
          go_loopw [9, 10] (fun s9 s10 wx => ∃ i : Nat, i ≤ pages.length ∧ s10 = .int .i64 i ∧ s9 = .bool ((pages.take i).any (· == (p : Int))) ∧ wx = wr) (fun _ s10 _ => pages.length - (intOf s10).toNat)
          case atStart => exact ⟨0, by omega, rfl, rfl, rfl⟩
          case round =>
            obtain ⟨i, hil, rfl, rfl, rfl⟩ := hrel
            by_cases hlt : i < pages.length
            · obtain ⟨b, o, z, rfl, lb, he, c0⟩ := (HZ.out.step HW.out).at_ hlt
              have HT := Lib.hid (show (pages.take (i + 1)).any (· == (p : Int)) = ((pages.take i).any (· == (p : Int)) || (z == (p : Int))) by rw [List.take_add_one, he, Option.toList_some, List.any_append]; simp)
              have z0 : (0 : Int) ≤ (i : Int) := by omega
              have z1 : (i : Int) < (pages.length : Int) := by omega
              clear he
              cases hb : (pages.take i).any (· == (p : Int)) with
              | true =>
                rw [hb] at HT
                clear hb
                go_wp2
                go_roundw
                case rel => exact ⟨i + 1, by omega, by go_num, by rw [HT.out]; rfl, trivial⟩
                case measure => simp [intOf]; omega
              | false =>
                rw [hb] at HT
                clear hb
                go_wp2
                go_roundw
                case rel => exact ⟨i + 1, by omega, by go_num, by rw [HT.out]; rfl, trivial⟩
                case measure => simp [intOf]; omega
            · obtain rfl : i = pages.length := by omega
              rw [List.take_length]
              cases hq : pages.any (· == (p : Int)) with
              | false =>
                have HX := Lib.hid (show accR s m pages (p + 1) = acc by rw [Hs.out, hq]; rfl)
                clear hq
                go_wp2
                go_roundw
                case rel => exact ⟨p + 1, by omega, by go_num, by rw [HX.out]; exact Hown.out, by rw [HX.out]; exact fun x hx => by have := Hsb.out x hx; omega, by rw [HX.out]; omega, HW.out⟩
                case measure => simp [intOf]; omega
              | true =>
                have HX := Lib.hid (show accR s m pages (p + 1) = stepR s m acc p by rw [Hs.out, hq]; rfl)
                have wat := w64 (x := s * 18 + 2 + (p : Int) * 2) (by omega)
                clear hq Hs
                obtain ⟨A7, cap7, hu⟩ := own_form Hown.out
                subst hu
                go_upto_region 16 with (go_at_call 16; (with_reducible refine Calls.mono (hpg _) ?_); rintro e w1 ⟨rfl, rfl⟩)
                go_cut [78] from 23 to 92 (fun s78 wx => ∃ t, s78 = .bool t ∧ tB m (s * 18 + 2 + (p : Int) * 2) acc = t ∧ wx.ownsRow w.heap.size 36 2 (.slice A7 acc.length cap7) acc.length (sps acc) ∧ Below w.heap.size w wx)
                case first =>
                  clear HX Hst Hse Hs2
                  by_cases ha : acc = []
                  · subst ha
                    go_quiet (fail)
                    go_wp2
                    go_meet
                    case rel => exact ⟨_, rfl, rfl, own_step Hown.out (below_drewN (Below.refl _ _) _), below_drewN HW.out _⟩
                  · obtain ⟨pre, ⟨a, n⟩, hpre⟩ := last_snoc acc ha
                    have HT := Lib.hid (tB_snoc m (s * 18 + 2 + (p : Int) * 2) pre a n)
                    rw [← hpre] at HT
                    have hown := Hown.out
                    obtain ⟨x0, x1, x2, x3⟩ := Hsb.out (a, n) (by rw [hpre]; simp)
                    simp only at x0 x1 x2 x3
                    obtain ⟨gg, cap', hu, _, _⟩ := hown.form (List.length_pos_iff.2 ha)
                    simp only [Value.slice.injEq, true_and] at hu
                    obtain ⟨rfl, rfl⟩ := hu
                    obtain ⟨y0, y1⟩ := sps_get acc pre.length a n (by rw [hpre]; simp)
                    have hln : acc.length = pre.length + 1 := by rw [hpre]; simp
                    have c0 := (hown.cellAt (pre.length * 2) (by omega)).trans y0
                    have c1 := (hown.cellAt (pre.length * 2 + 1) (by omega)).trans y1
                    have w2 := w64 (x := (pre.length : Int) + 1 - 1) (by omega)
                    have w2' : (pre.length : Int) + 1 - 1 = pre.length := by omega
                    have w3 := w64 (x := a + n) (by omega)
                    have w4 := w64 (x := n + 2) (by omega)
                    have z0 : (0 : Int) ≤ (pre.length : Int) := by omega
                    have z1 : (pre.length : Int) < (pre.length : Int) + 1 := by omega
                    have g1 : decide ((0 : Int) < (pre.length : Int) + 1) = true := decide_eq_true (by omega)
                    clear hown ha hpre y0 y1
                    by_cases q1 : a + n = s * 18 + 2 + (p : Int) * 2
                    · have e1 : (a + n == s * 18 + 2 + (p : Int) * 2) = true := by simp [q1]
                      have HT2 := Lib.hid (show tB m (s * 18 + 2 + (p : Int) * 2) acc = decide (n + 2 ≤ m) by rw [HT.out, Bool.eq_iff_iff]; simp [q1])
                      clear q1
                      go_quiet (fail)
                      go_wp2
                      go_meet
                      case rel => exact ⟨_, rfl, HT2.out, own_step Hown.out (below_drewN (Below.refl _ _) _), below_drewN HW.out _⟩
                    · have e1 : (a + n == s * 18 + 2 + (p : Int) * 2) = false := by simp [q1]
                      have HT2 := Lib.hid (show tB m (s * 18 + 2 + (p : Int) * 2) acc = false by rw [HT.out]; simp [q1])
                      clear q1
                      go_quiet (fail)
                      go_wp2
                      go_meet
                      case rel => exact ⟨_, rfl, HT2.out, own_step Hown.out (below_drewN (Below.refl _ _) _), below_drewN HW.out _⟩
                case rest =>
                  clear Hown HW
                  obtain ⟨t, rfl, ht, hown, hW⟩ := hcut
                  have Hown := Lib.hid hown
                  have HW := Lib.hid hW
                  cases t with
                  | false =>
                    have HE := Lib.hid (show accR s m pages (p + 1) = acc ++ [(s * 18 + 2 + (p : Int) * 2, 2)] by rw [HX.out, stepR_t (by rw [pg_in ⟨s0, s1⟩ ⟨p0, p1⟩]; exact ht), pg_in ⟨s0, s1⟩ ⟨p0, p1⟩])
                    have HS := Lib.hid (show SB (2 * (p : Int) + 2) (accR s m pages (p + 1)) by rw [HX.out]; exact Hs2.out)
                    have hsz := hW.size
                    clear ht hown hW HX Hst Hse Hs2
                    go_wp2_with (at_builtin; go_loud (refine wpList_append_lies _ rfl (.tmp 88) (.tmp 91) 34 rfl w.heap.size 36 i0 _ 2 16 Try.underlying34 hi hz0 hz1 hz2 rfl (by omega) _ acc.length (sps acc) rfl (Hown.out.alloc _) ⟨_, 0, none⟩ 1 1 [.int .i64 (s * 18 + 2 + (p : Int) * 2), .int .i64 2] rfl rfl (World.news_of_block (heap_at_new _ _ _ (by first | rfl | simp))) (by simp [Value.oneCell']) (by omega) (by unfold maxLen; omega) (by omega) (by simp; omega) _ rfl ?_); intro gg cap4 w4 hown4 hg4 hat4 hlt4)
                    go_roundw
                    case rel => exact ⟨p + 1, by omega, by go_num, by rw [HE.out]; exact own_sp hown4, fun x hx => by have := HS.out x hx; omega, by rw [HE.out, List.length_append]; simp; omega, (HW.out.alloc hsz _).grown hg4 (by simp; omega) (fun g hg => (Hown.out.lt g hg).1)⟩
                    case measure => simp [intOf]; omega
                  | true =>
                    have ha : acc ≠ [] := fun h => by rw [h] at ht; cases ht
                    obtain ⟨pre, ⟨a, n⟩, hpre⟩ := last_snoc acc ha
                    have ht2 := ht
                    rw [hpre, tB_snoc, decide_eq_true_eq] at ht2
                    have HE := Lib.hid (show accR s m pages (p + 1) = pre ++ [(a, n + 2)] by
                      rw [HX.out]
                      have := Hst.out pre a n hpre
                      rw [if_pos ht2] at this
                      exact this)
                    have HS := Lib.hid (show SB (2 * (p : Int) + 2) (accR s m pages (p + 1)) by rw [HX.out]; exact Hs2.out)
                    obtain ⟨x0, x1, x2, x3⟩ := Hsb.out (a, n) (by rw [hpre]; simp)
                    simp only at x0 x1 x2 x3
                    obtain ⟨gg, cap', hu, _, _⟩ := hown.form (List.length_pos_iff.2 ha)
                    simp only [Value.slice.injEq, true_and] at hu
                    obtain ⟨rfl, rfl⟩ := hu
                    obtain ⟨y0, y1⟩ := sps_get acc pre.length a n (by rw [hpre]; simp)
                    have hln : acc.length = pre.length + 1 := by rw [hpre]; simp
                    have c1 := (hown.cellAt (pre.length * 2 + 1) (by omega)).trans y1
                    have f1 := hown.frozenAt (pre.length * 2 + 1)
                    have w2 := w64 (x := (pre.length : Int) + 1 - 1) (by omega)
                    have w2' : (pre.length : Int) + 1 - 1 = pre.length := by omega
                    have w4 := w64 (x := n + 2) (by omega)
                    have z0 : (0 : Int) ≤ (pre.length : Int) := by omega
                    have z1 : (pre.length : Int) < (pre.length : Int) + 1 := by omega
                    have HP := Lib.hid hpre
                    clear ht ht2 ha hpre y0 y1 hown hW HX Hst Hse Hs2
                    go_wp2
                    go_roundw
                    case rel =>
                      have hs := Hown.out.stored (pre.length * 2 + 1) (.int .i64 (n + 2))
                      rw [show sps acc = sps (pre ++ [(a, n)]) by rw [HP.out], sps_set] at hs
                      refine ⟨p + 1, by omega, by go_num, ?_, fun x hx => by have := HS.out x hx; omega, by rw [HE.out, List.length_append]; simp; omega, HW.out.grown hs.2 HW.out.size (fun g hg => by injection hg with hg; have := (Hown.out.lt gg rfl).1; omega)⟩
                      rw [HE.out]
                      have e : (pre ++ [(a, n + 2)]).length = acc.length := by rw [hln]; simp
                      rw [e]
                      exact hs.1
                    case measure => simp [intOf]; omega
        · obtain rfl : p = 8 := by omega
          rw [HR.out] at Hown hal
          clear hown hsb hW Hsb
          go_wp2
          go_ret
          exact ⟨_, rfl, SpA.of_own Hown.out (by unfold maxLen; omega), HW.out⟩
  · rw [decide_eq_false h0] at hk
    have HR := Lib.hid (show runsP s pages most = [] by unfold runsP; rw [if_neg (by omega)])
    clear h0
    go_enter Try.func21, Try.ntmps21
    go_wp2_with (go_at_call 26; (with_reducible refine Calls.mono (hk _) ?_); rintro e w1 ⟨rfl, rfl⟩)
    go_ret
    exact ⟨_, rfl, by rw [HR.out]; exact SpA.nil _, Below.refl _ _⟩

end Go.Proofs.Ytjnaphhbkbigcaa
