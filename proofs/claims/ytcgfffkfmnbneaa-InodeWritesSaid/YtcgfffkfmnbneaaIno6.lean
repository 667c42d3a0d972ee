/-
  Decode, Choose, Next, Torn of both packages, by contracts: both compute the same.
-/
import Derived.Test.YtcgfffkfmnbneaaIno5
import Derived.Outline
namespace Go.Proofs.Ytcgfffkfmnbneaa
open Go.RowKit
set_option linter.unusedVariables false
set_option linter.unusedSimpArgs false

def byteAt (s : ByteArray) (k : Nat) : Int := (s.data.getD k 0).toNat
def decOk (s : ByteArray) (f : Int) : Bool :=
  match s.data.toList with
  | [a, b, c, d, e, g, h, i] => decide (0 ≤ f ∧ f < 8) && ok8 a b c d e g h i f
  | _ => false
def decQ (s : ByteArray) (f : Int) : Int := if decOk s f = true then byteAt s 0 * 256 + byteAt s 1 else 0
def decS (s : ByteArray) (f : Int) : Int := if decOk s f = true then byteAt s 2 else 0
def decB (s : ByteArray) (f : Int) : Int := if decOk s f = true then byteAt s 3 else 0
def RetD (ok : Bool) (q s b : Int) (w : World) (e : Ending) (w' : World) : Prop := e = .returned (.tuple #[.agg #[.int .i64 q, .int .i64 s, .int .i64 b], .bool ok]) ∧ Below w.heap.size w w'
/-- One answer of Decode. -/
abbrev RetX (s : ByteArray) (f : Int) (w : World) : Ending → World → Prop := RetD (decOk s f) (decQ s f) (decS s f) (decB s f) w
theorem size8 (s : ByteArray) (h : s.size = 8) : ∃ a b c d e g h i, s = sec a b c d e g h i := by
  obtain ⟨⟨l⟩⟩ := s
  match l, h with
  | [a, b, c, d, e, g, h, i], _ => exact ⟨a, b, c, d, e, g, h, i, rfl⟩
theorem decOk_not (s : ByteArray) (f : Int) (h : ¬ (s.size = 8 ∧ 0 ≤ f ∧ f < 8)) : decOk s f = false := by
  obtain ⟨⟨l⟩⟩ := s
  unfold decOk
  split
  · rename_i a b c d e g h' i heq
    have hl : l = [a, b, c, d, e, g, h', i] := heq
    subst hl
    have : ¬ (0 ≤ f ∧ f < 8) := fun hf => h ⟨rfl, hf⟩
    simp [this]
  · rfl
theorem retx_of (a b c d e g h i : UInt8) (f : Int) (h1 : 0 ≤ f) (h2 : f < 8) (w : World) (en : Ending) (w' : World) (H : RetDec (ok8 a b c d e g h i f) (((a.toNat : Nat) : Int) * 256 + b.toNat) c.toNat d.toNat w en w') : RetX (sec a b c d e g h i) f w en w' := by
  have e1 : decOk (sec a b c d e g h i) f = ok8 a b c d e g h i f := by
    show (decide (0 ≤ f ∧ f < 8) && ok8 a b c d e g h i f) = _
    simp [h1, h2]
  obtain ⟨H1, H2⟩ := H
  refine ⟨?_, H2⟩
  rw [H1]
  unfold decQ decS decB
  rw [e1]
  cases ok8 a b c d e g h i f <;> rfl
theorem retx_bad (s : ByteArray) (f : Int) (h : ¬ (s.size = 8 ∧ 0 ≤ f ∧ f < 8)) (w : World) (en : Ending) (w' : World) (H : RetD false 0 0 0 w en w') : RetX s f w en w' := by
  have e1 := decOk_not s f h
  unfold RetX decQ decS decB
  rw [e1]
  exact H

theorem decode_bad (s : ByteArray) (f : Int) (w : World) (h : ¬ (s.size = 8 ∧ 0 ≤ f ∧ f < 8)) (hm : s.size ≤ maxLen) : Calls Try.prog 13 #[.string s, .int .i64 f] w (RetD false 0 0 0 w) := by
  unfold maxLen at hm
  by_cases h8 : s.size = 8
  · have hd : decide (0 ≤ f ∧ f < 8) = false := by simp; omega
    have H := Lib.hid h
    clear h
    obtain ⟨a, b, c, d, e, g, h, i, rfl⟩ := size8 s h8
    clear h8 H
    unfold sec
    go_enter Try.func13, Try.ntmps13
    go_wp2_with (go_at_call 25; (with_reducible refine Calls.mono (known_w _ _) ?_); rintro e w2 ⟨rfl, rfl⟩)
    exact bodyPost_ret (v := .tuple #[.agg #[.int .i64 0, .int .i64 0, .int .i64 0], .bool false]) (by simp [results, Try.results13, go_sem]) rfl ⟨rfl, (Below.refl _ _).alloc (Nat.le_refl _) _⟩
  · have h8' : ¬ (s.size : Int) = 8 := by omega
    go_enter Try.func13, Try.ntmps13
    go_wp2_with fail
    exact bodyPost_ret (v := .tuple #[.agg #[.int .i64 0, .int .i64 0, .int .i64 0], .bool false]) (by simp [results, Try.results13, go_sem]) rfl ⟨rfl, (Below.refl _ _).alloc (Nat.le_refl _) _⟩

theorem rdecode_bad (s : ByteArray) (f : Int) (w : World) (h : ¬ (s.size = 8 ∧ 0 ≤ f ∧ f < 8)) (hm : s.size ≤ maxLen) : Calls Try.prog 14 #[.string s, .int .i64 f] w (RetD false 0 0 0 w) := by
  unfold maxLen at hm
  by_cases h8 : s.size = 8
  · have hf : f < 0 ∨ (0 ≤ f ∧ 8 ≤ f) := by omega
    have H := Lib.hid h
    clear h
    obtain ⟨a, b, c, d, e, g, h, i, rfl⟩ := size8 s h8
    clear h8 H
    unfold sec
    rcases hf with hf | ⟨hf, hf'⟩
    all_goals
      go_enter Try.func14, Try.ntmps14
      go_wp2_with fail
      exact bodyPost_ret (v := .tuple #[.agg #[.int .i64 0, .int .i64 0, .int .i64 0], .bool false]) (by simp [results, Try.results14, go_sem]) rfl ⟨rfl, (Below.refl _ _).alloc (Nat.le_refl _) _⟩
  · have h8' : ¬ (s.size : Int) = 8 := by omega
    go_enter Try.func14, Try.ntmps14
    go_wp2_with fail
    exact bodyPost_ret (v := .tuple #[.agg #[.int .i64 0, .int .i64 0, .int .i64 0], .bool false]) (by simp [results, Try.results14, go_sem]) rfl ⟨rfl, (Below.refl _ _).alloc (Nat.le_refl _) _⟩
theorem rdecode_w (s : ByteArray) (f : Int) (w : World) (hm : s.size ≤ maxLen) : Calls Try.prog 14 #[.string s, .int .i64 f] w (RetX s f w) := by
  by_cases h : s.size = 8 ∧ 0 ≤ f ∧ f < 8
  · obtain ⟨h8, h1, h2⟩ := h
    obtain ⟨a, b, c, d, e, g, h, i, rfl⟩ := size8 s h8
    exact (rdecode_8 a b c d e g h i f w h1 h2).mono fun en w' H => retx_of a b c d e g h i f h1 h2 w en w' H
  · exact (rdecode_bad s f w h hm).mono fun en w' H => retx_bad s f h w en w' H

/-- What Next answers. -/
def nxE (q s b : Int) : Int := if vaB q s b = true then if q = 65535 then 3 else 0 else 1
def RetIE (q s b n : Int) (w : World) (e : Ending) (w' : World) : Prop := e = .returned (.tuple #[.agg #[.int .i64 q, .int .i64 s, .int .i64 b], .int .i64 n]) ∧ Below w.heap.size w w'
abbrev RetNx (q s b : Int) (w : World) : Ending → World → Prop := RetIE (if nxE q s b = 0 then q + 1 else 0) (if nxE q s b = 0 then s else 0) (if nxE q s b = 0 then b else 0) (nxE q s b) w
theorem inext_w (q s b : Int) (w : World) : Calls Try.prog 17 #[.agg #[.int .i64 q, .int .i64 s, .int .i64 b]] w (RetNx q s b w) := by
  by_cases hva : vaB q s b = true
  · obtain ⟨h1, h2, h3, h4, h5, h6⟩ := va_t hva
    by_cases hq : q = 65535
    · subst hq
      have HE : Hid (nxE 65535 s b = 3) := by show _ = _; simp [nxE, hva]
      go_enter Try.func17, Try.ntmps17
      go_wp2_with (go_at_call 24; (with_reducible refine Calls.mono (valid_w _ _ _ _) ?_); rintro e w1 ⟨rfl, hb⟩; have B0 := (hb.block w.heap.size (by simp; omega)).trans ((heap_at_old _ _ _ (by simp)).trans (heap_at_new _ _ _ rfl)); have R0 := (hb.block (w.heap.size + 1) (by simp)).trans (heap_at_new _ _ _ (by simp)); have m0 := cells_at B0 0; have m1 := cells_at B0 1; have m2 := cells_at B0 2; have n0 := free_at B0 0; have r0 := cells_at R0 0; have r1 := cells_at R0 1; have r2 := cells_at R0 2; have q0 := free_at R0 0; have q1 := free_at R0 1; have q2 := free_at R0 2; simp only [List.getElem?_toArray, List.getElem?_cons_zero, List.getElem?_cons_succ] at m0 m1 m2 r0 r1 r2)
      exact bodyPost_ret (v := .tuple #[.agg #[.int .i64 0, .int .i64 0, .int .i64 0], .int .i64 3]) (by simp [results, Try.results17, go_sem, m0, m1, m2, r0, r1, r2]) rfl ⟨by rw [HE.out]; rfl, by (repeat (with_reducible first | assumption | exact Below.refl _ _ | refine bl_alloc ?_ _ | apply Below.drew | refine below_drewN ?_ _ | (apply bl_step2; assumption) | (refine Below.setCell ?_ (Nat.le_refl _) _) | (refine Below.setCell ?_ (by first | omega | (simp; done) | (go_simp; done)) _)))⟩
    · have HE : Hid (nxE q s b = 0) := by show _ = _; simp [nxE, hva, hq]
      go_enter Try.func17, Try.ntmps17
      go_wp2_with (go_at_call 24; (with_reducible refine Calls.mono (valid_w _ _ _ _) ?_); rintro e w1 ⟨rfl, hb⟩; have B0 := (hb.block w.heap.size (by simp; omega)).trans ((heap_at_old _ _ _ (by simp)).trans (heap_at_new _ _ _ rfl)); have R0 := (hb.block (w.heap.size + 1) (by simp)).trans (heap_at_new _ _ _ (by simp)); have m0 := cells_at B0 0; have m1 := cells_at B0 1; have m2 := cells_at B0 2; have n0 := free_at B0 0; have r0 := cells_at R0 0; have r1 := cells_at R0 1; have r2 := cells_at R0 2; have q0 := free_at R0 0; have q1 := free_at R0 1; have q2 := free_at R0 2; simp only [List.getElem?_toArray, List.getElem?_cons_zero, List.getElem?_cons_succ] at m0 m1 m2 r0 r1 r2)
      exact bodyPost_ret (v := .tuple #[.agg #[.int .i64 (q + 1), .int .i64 s, .int .i64 b], .int .i64 0]) (by simp [results, Try.results17, go_sem, m0, m1, m2, r0, r1, r2]) rfl ⟨by rw [HE.out]; rfl, by (repeat (with_reducible first | assumption | exact Below.refl _ _ | refine bl_alloc ?_ _ | apply Below.drew | refine below_drewN ?_ _ | (apply bl_step2; assumption) | (refine Below.setCell ?_ (Nat.le_refl _) _) | (refine Below.setCell ?_ (by first | omega | (simp; done) | (go_simp; done)) _)))⟩
  · simp only [Bool.not_eq_true] at hva
    have HE : Hid (nxE q s b = 1) := by show _ = _; simp [nxE, hva]
    go_enter Try.func17, Try.ntmps17
    go_wp2_with (go_at_call 24; (with_reducible refine Calls.mono (valid_w _ _ _ _) ?_); rintro e w1 ⟨rfl, hb⟩; have B0 := (hb.block w.heap.size (by simp; omega)).trans ((heap_at_old _ _ _ (by simp)).trans (heap_at_new _ _ _ rfl)); have R0 := (hb.block (w.heap.size + 1) (by simp)).trans (heap_at_new _ _ _ (by simp)); have m0 := cells_at B0 0; have m1 := cells_at B0 1; have m2 := cells_at B0 2; have n0 := free_at B0 0; have r0 := cells_at R0 0; have r1 := cells_at R0 1; have r2 := cells_at R0 2; have q0 := free_at R0 0; have q1 := free_at R0 1; have q2 := free_at R0 2; simp only [List.getElem?_toArray, List.getElem?_cons_zero, List.getElem?_cons_succ] at m0 m1 m2 r0 r1 r2)
    exact bodyPost_ret (v := .tuple #[.agg #[.int .i64 0, .int .i64 0, .int .i64 0], .int .i64 1]) (by simp [results, Try.results17, go_sem, m0, m1, m2, r0, r1, r2]) rfl ⟨by rw [HE.out]; rfl, by (repeat (with_reducible first | assumption | exact Below.refl _ _ | refine bl_alloc ?_ _ | apply Below.drew | refine below_drewN ?_ _ | (apply bl_step2; assumption) | (refine Below.setCell ?_ (Nat.le_refl _) _) | (refine Below.setCell ?_ (by first | omega | (simp; done) | (go_simp; done)) _)))⟩
theorem irnext_w (q s b : Int) (w : World) : Calls Try.prog 18 #[.agg #[.int .i64 q, .int .i64 s, .int .i64 b]] w (RetNx q s b w) := by
  by_cases hva : vaB q s b = true
  · obtain ⟨h1, h2, h3, h4, h5, h6⟩ := va_t hva
    by_cases hq : q = 65535
    · subst hq
      have HE : Hid (nxE 65535 s b = 3) := by show _ = _; simp [nxE, hva]
      go_enter Try.func18, Try.ntmps18
      go_wp2_with (go_at_call 28; (with_reducible refine Calls.mono (rvalid_w _ _ _ _) ?_); rintro e w1 ⟨rfl, hb⟩; have B0 := (hb.block w.heap.size (by simp; omega)).trans ((heap_at_old _ _ _ (by simp)).trans (heap_at_new _ _ _ rfl)); have R0 := (hb.block (w.heap.size + 1) (by simp)).trans (heap_at_new _ _ _ (by simp)); have m0 := cells_at B0 0; have m1 := cells_at B0 1; have m2 := cells_at B0 2; have n0 := free_at B0 0; have r0 := cells_at R0 0; have r1 := cells_at R0 1; have r2 := cells_at R0 2; have q0 := free_at R0 0; have q1 := free_at R0 1; have q2 := free_at R0 2; simp only [List.getElem?_toArray, List.getElem?_cons_zero, List.getElem?_cons_succ] at m0 m1 m2 r0 r1 r2)
      exact bodyPost_ret (v := .tuple #[.agg #[.int .i64 0, .int .i64 0, .int .i64 0], .int .i64 3]) (by simp [results, Try.results18, go_sem, m0, m1, m2, r0, r1, r2]) rfl ⟨by rw [HE.out]; rfl, by (repeat (with_reducible first | assumption | exact Below.refl _ _ | refine bl_alloc ?_ _ | apply Below.drew | refine below_drewN ?_ _ | (apply bl_step2; assumption) | (refine Below.setCell ?_ (Nat.le_refl _) _) | (refine Below.setCell ?_ (by first | omega | (simp; done) | (go_simp; done)) _)))⟩
    · have HE : Hid (nxE q s b = 0) := by show _ = _; simp [nxE, hva, hq]
      go_enter Try.func18, Try.ntmps18
      go_wp2_with (go_at_call 28; (with_reducible refine Calls.mono (rvalid_w _ _ _ _) ?_); rintro e w1 ⟨rfl, hb⟩; have B0 := (hb.block w.heap.size (by simp; omega)).trans ((heap_at_old _ _ _ (by simp)).trans (heap_at_new _ _ _ rfl)); have R0 := (hb.block (w.heap.size + 1) (by simp)).trans (heap_at_new _ _ _ (by simp)); have m0 := cells_at B0 0; have m1 := cells_at B0 1; have m2 := cells_at B0 2; have n0 := free_at B0 0; have r0 := cells_at R0 0; have r1 := cells_at R0 1; have r2 := cells_at R0 2; have q0 := free_at R0 0; have q1 := free_at R0 1; have q2 := free_at R0 2; simp only [List.getElem?_toArray, List.getElem?_cons_zero, List.getElem?_cons_succ] at m0 m1 m2 r0 r1 r2)
      exact bodyPost_ret (v := .tuple #[.agg #[.int .i64 (q + 1), .int .i64 s, .int .i64 b], .int .i64 0]) (by simp [results, Try.results18, go_sem, m0, m1, m2, r0, r1, r2]) rfl ⟨by rw [HE.out]; rfl, by (repeat (with_reducible first | assumption | exact Below.refl _ _ | refine bl_alloc ?_ _ | apply Below.drew | refine below_drewN ?_ _ | (apply bl_step2; assumption) | (refine Below.setCell ?_ (Nat.le_refl _) _) | (refine Below.setCell ?_ (by first | omega | (simp; done) | (go_simp; done)) _)))⟩
  · simp only [Bool.not_eq_true] at hva
    have HE : Hid (nxE q s b = 1) := by show _ = _; simp [nxE, hva]
    go_enter Try.func18, Try.ntmps18
    go_wp2_with (go_at_call 28; (with_reducible refine Calls.mono (rvalid_w _ _ _ _) ?_); rintro e w1 ⟨rfl, hb⟩; have B0 := (hb.block w.heap.size (by simp; omega)).trans ((heap_at_old _ _ _ (by simp)).trans (heap_at_new _ _ _ rfl)); have R0 := (hb.block (w.heap.size + 1) (by simp)).trans (heap_at_new _ _ _ (by simp)); have m0 := cells_at B0 0; have m1 := cells_at B0 1; have m2 := cells_at B0 2; have n0 := free_at B0 0; have r0 := cells_at R0 0; have r1 := cells_at R0 1; have r2 := cells_at R0 2; have q0 := free_at R0 0; have q1 := free_at R0 1; have q2 := free_at R0 2; simp only [List.getElem?_toArray, List.getElem?_cons_zero, List.getElem?_cons_succ] at m0 m1 m2 r0 r1 r2)
    exact bodyPost_ret (v := .tuple #[.agg #[.int .i64 0, .int .i64 0, .int .i64 0], .int .i64 1]) (by simp [results, Try.results18, go_sem, m0, m1, m2, r0, r1, r2]) rfl ⟨by rw [HE.out]; rfl, by (repeat (with_reducible first | assumption | exact Below.refl _ _ | refine bl_alloc ?_ _ | apply Below.drew | refine below_drewN ?_ _ | (apply bl_step2; assumption) | (refine Below.setCell ?_ (Nat.le_refl _) _) | (refine Below.setCell ?_ (by first | omega | (simp; done) | (go_simp; done)) _)))⟩

/-- What Torn answers. -/
def toS (o n : ByteArray) (k : Int) : ByteArray := if o.size = 8 ∧ n.size = 8 then if k = 0 then n.extract 0 4 ++ o.extract 4 8 else if k = 1 then o.extract 0 4 ++ n.extract 4 8 else ⟨#[]⟩ else ⟨#[]⟩
def toE (o n : ByteArray) (k : Int) : Int := if o.size = 8 ∧ n.size = 8 then if k = 0 then 0 else if k = 1 then 0 else 2 else 6
theorem torn_w (o n : ByteArray) (k : Int) (w : World) (ho : o.size ≤ maxLen) (hn : n.size ≤ maxLen) : Calls Try.prog 20 #[.string o, .string n, .int .i64 k] w (RetSE (toS o n k) (toE o n k) w) := by
  unfold maxLen at ho hn
  by_cases h1 : o.size = 8
  · by_cases h2 : n.size = 8
    · by_cases h3 : k = 0
      · have HE : Hid (toE o n k = 0 ∧ toS o n k = n.extract 0 4 ++ o.extract 4 8) := by show _ ∧ _; simp [toE, toS, h1, h2, h3]
        subst h3
        go_enter Try.func20, Try.ntmps20
        go_wp2_with fail
        go_quiet (fail)
        go_wp2
        go_ret2
        exact ⟨ret_se (by rw [HE.out.2]) HE.out.1.symm, below_drewN (Below.refl _ _) _⟩
      · by_cases h4 : k = 1
        · have HE : Hid (toE o n k = 0 ∧ toS o n k = o.extract 0 4 ++ n.extract 4 8) := by show _ ∧ _; simp [toE, toS, h1, h2, h4]
          subst h4
          clear h3
          go_enter Try.func20, Try.ntmps20
          go_wp2_with fail
          go_quiet (fail)
          go_wp2
          go_ret2
          exact ⟨ret_se (by rw [HE.out.2]) HE.out.1.symm, below_drewN (Below.refl _ _) _⟩
        · have HE : Hid (toE o n k = 2 ∧ toS o n k = ⟨#[]⟩) := by show _ ∧ _; simp [toE, toS, h1, h2, h3, h4]
          have b0 : (k == 0) = false := by simp [h3]
          have b1 : (k == 1) = false := by simp [h4]
          have b2 : (k != 0) = true := by simp [h3]
          have b3 : (k != 1) = true := by simp [h4]
          clear h3 h4
          go_enter Try.func20, Try.ntmps20
          go_wp2_with fail
          go_ret2
          exact ⟨ret_se HE.out.2.symm HE.out.1.symm, Below.refl _ _⟩
    · have h2' : ¬ (n.size : Int) = 8 := by omega
      have HE : Hid (toE o n k = 6 ∧ toS o n k = ⟨#[]⟩) := by show _ ∧ _; simp [toE, toS, h1, h2]
      go_enter Try.func20, Try.ntmps20
      go_wp2_with fail
      go_ret2
      exact ⟨ret_se HE.out.2.symm HE.out.1.symm, Below.refl _ _⟩
  · have h1' : ¬ (o.size : Int) = 8 := by omega
    have HE : Hid (toE o n k = 6 ∧ toS o n k = ⟨#[]⟩) := by show _ ∧ _; simp [toE, toS, h1]
    go_enter Try.func20, Try.ntmps20
    go_wp2_with fail
    go_ret2
    exact ⟨ret_se HE.out.2.symm HE.out.1.symm, Below.refl _ _⟩
theorem rtorn_w (o n : ByteArray) (k : Int) (w : World) (ho : o.size ≤ maxLen) (hn : n.size ≤ maxLen) : Calls Try.prog 21 #[.string o, .string n, .int .i64 k] w (RetSE (toS o n k) (toE o n k) w) := by
  unfold maxLen at ho hn
  by_cases h1 : o.size = 8
  · by_cases h2 : n.size = 8
    · by_cases h3 : k = 0
      · have HE : Hid (toE o n k = 0 ∧ toS o n k = n.extract 0 4 ++ o.extract 4 8) := by show _ ∧ _; simp [toE, toS, h1, h2, h3]
        subst h3
        go_enter Try.func21, Try.ntmps21
        go_wp2_with fail
        go_quiet (fail)
        go_wp2
        go_ret2
        exact ⟨ret_se (by rw [HE.out.2]) HE.out.1.symm, below_drewN (Below.refl _ _) _⟩
      · by_cases h4 : k = 1
        · have HE : Hid (toE o n k = 0 ∧ toS o n k = o.extract 0 4 ++ n.extract 4 8) := by show _ ∧ _; simp [toE, toS, h1, h2, h4]
          subst h4
          clear h3
          go_enter Try.func21, Try.ntmps21
          go_wp2_with fail
          go_quiet (fail)
          go_wp2
          go_ret2
          exact ⟨ret_se (by rw [HE.out.2]) HE.out.1.symm, below_drewN (Below.refl _ _) _⟩
        · have HE : Hid (toE o n k = 2 ∧ toS o n k = ⟨#[]⟩) := by show _ ∧ _; simp [toE, toS, h1, h2, h3, h4]
          have b0 : (k == 0) = false := by simp [h3]
          have b1 : (k == 1) = false := by simp [h4]
          have b2 : (k != 0) = true := by simp [h3]
          have b3 : (k != 1) = true := by simp [h4]
          clear h3 h4
          go_enter Try.func21, Try.ntmps21
          go_wp2_with fail
          go_ret2
          exact ⟨ret_se HE.out.2.symm HE.out.1.symm, Below.refl _ _⟩
    · have h2' : ¬ (n.size : Int) = 8 := by omega
      have HE : Hid (toE o n k = 6 ∧ toS o n k = ⟨#[]⟩) := by show _ ∧ _; simp [toE, toS, h1, h2]
      go_enter Try.func21, Try.ntmps21
      go_wp2_with fail
      go_ret2
      exact ⟨ret_se HE.out.2.symm HE.out.1.symm, Below.refl _ _⟩
  · have h1' : ¬ (o.size : Int) = 8 := by omega
    have HE : Hid (toE o n k = 6 ∧ toS o n k = ⟨#[]⟩) := by show _ ∧ _; simp [toE, toS, h1]
    go_enter Try.func21, Try.ntmps21
    go_wp2_with fail
    go_ret2
    exact ⟨ret_se HE.out.2.symm HE.out.1.symm, Below.refl _ _⟩

end Go.Proofs.Ytcgfffkfmnbneaa
