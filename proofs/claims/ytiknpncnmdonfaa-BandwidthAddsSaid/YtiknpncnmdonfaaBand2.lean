/-
  The functions of packages bandwidth and pagecacheref12, by contracts, second part: Start, Note, Rate.
-/
import Derived.Test.YtiknpncnmdonfaaBand
namespace Go.Proofs.Ytiknpncnmdonfaa
open Go.RowKit
set_option linter.unusedVariables false

/-- Behind two new blocks and a call that leaves what was there. -/
theorem bel2 {w w1 : World} {A B : Obj} (hb : Below ((w.alloc A).alloc B).heap.size ((w.alloc A).alloc B) w1) :
    Below w.heap.size w w1 ∧ w.heap.size < w1.heap.size ∧ w.heap.size + 1 < w1.heap.size ∧ ¬ w.heap.size = w1.heap.size ∧ ¬ w.heap.size + 1 = w1.heap.size := by
  have hz := hb.size
  simp at hz
  exact ⟨(((Below.refl _ _).alloc (Nat.le_refl _) _).alloc (by simp) _).trans (hb.mono (by simp; omega)), by omega, by omega, by omega, by omega⟩
theorem gcell {b : Nat} {W w1 : World} (hg : W.grownBy w1 (some b)) : (∀ c o, c < W.heap.size → c ≠ b → w1.cell? ⟨c, o, none⟩ = W.cell? ⟨c, o, none⟩) ∧ (∀ c o, c < W.heap.size → c ≠ b → w1.frozen? ⟨c, o, none⟩ = W.frozen? ⟨c, o, none⟩) :=
  ⟨fun c o h hn => World.cell?_of_block (a := ⟨c, o, none⟩) (hg.block c h (by simpa using hn)), fun c o h hn => World.frozen?_of_block (a := ⟨c, o, none⟩) (hg.block c h (by simpa using hn))⟩
theorem below_of_grown {B b : Nat} {w w1 w2 : World} (h : Below B w w1) (hB : B ≤ w1.heap.size) (hb : B ≤ b) (hg : w1.grownBy w2 (some b)) : Below B w w2 :=
  h.grown hg hB (by intro k hk; simp at hk; omega)

/-- A measure and an error come back; what was in memory is as it was. -/
def RetM (a s d x : Int) (w : World) (e : Ending) (w' : World) : Prop := e = .returned (.tuple #[.agg #[.int .i64 a, .int .i64 s, .int .i64 d], .int .i64 x]) ∧ Below w.heap.size w w'

def stA (n : Int) : Int := if 0 ≤ n ∧ n ≤ 1000000 then 256 else 0
def stS (n : Int) : Int := if 0 ≤ n ∧ n ≤ 1000000 then n else 0
def stE (n : Int) : Int := if 0 ≤ n ∧ n ≤ 1000000 then 0 else 2


theorem ret_m {a b c x a' b' c' x' : Int} (h1 : a = a') (h2 : b = b') (h3 : c = c') (h4 : x = x') :
    Ending.returned (.tuple #[.agg #[.int .i64 a, .int .i64 b, .int .i64 c], .int .i64 x]) = .returned (.tuple #[.agg #[.int .i64 a', .int .i64 b', .int .i64 c'], .int .i64 x']) := by rw [h1, h2, h3, h4]

theorem start_w (n : Int) (w : World) : Calls Try.prog 8 #[.int .i64 n] w (RetM (stA n) (stS n) 0 (stE n) w) := by
  by_cases h : 0 ≤ n ∧ n ≤ 1000000
  · obtain ⟨h1, h2⟩ := h
    go_enter Try.func8, Try.ntmps8
    go_wp2
    exact bodyPost_ret (v := .tuple #[.agg #[.int .i64 256, .int .i64 n, .int .i64 0], .int .i64 0]) (by simp [results, Try.results8, go_sem]) rfl
      ⟨ret_m (by simp [stA, h1, h2]) (by simp [stS, h1, h2]) rfl (by simp [stE, h1, h2]), (Below.refl _ _).alloc (Nat.le_refl _) _⟩
  · go_enter Try.func8, Try.ntmps8
    go_wp2
    all_goals refine bodyPost_ret (v := .tuple #[.agg #[.int .i64 0, .int .i64 0, .int .i64 0], .int .i64 2]) (by simp [results, Try.results8, go_sem]) rfl ⟨ret_m ?_ ?_ rfl ?_, (Below.refl _ _).alloc (Nat.le_refl _) _⟩
    all_goals simp [stA, stS, stE, h]
theorem rstart_w (n : Int) (w : World) : Calls Try.prog 9 #[.int .i64 n] w (RetM (stA n) (stS n) 0 (stE n) w) := by
  by_cases h : 0 ≤ n ∧ n ≤ 1000000
  · obtain ⟨h1, h2⟩ := h
    go_enter Try.func9, Try.ntmps9
    go_wp2
    exact bodyPost_ret (v := .tuple #[.agg #[.int .i64 256, .int .i64 n, .int .i64 0], .int .i64 0]) (by simp [results, Try.results9, go_sem]) rfl
      ⟨ret_m (by simp [stA, h1, h2]) (by simp [stS, h1, h2]) rfl (by simp [stE, h1, h2]), (Below.refl _ _).alloc (Nat.le_refl _) _⟩
  · go_enter Try.func9, Try.ntmps9
    go_wp2
    all_goals refine bodyPost_ret (v := .tuple #[.agg #[.int .i64 0, .int .i64 0, .int .i64 0], .int .i64 2]) (by simp [results, Try.results9, go_sem]) rfl ⟨ret_m ?_ ?_ rfl ?_, (Below.refl _ _).alloc (Nat.le_refl _) _⟩
    all_goals simp [stA, stS, stE, h]

def xA (a s d now p : Int) : Int := if chB a s d = true ∧ okB s now p = true then nAvg a s d now p else a
def xS (a s d now p : Int) : Int := if chB a s d = true ∧ okB s now p = true then nStamp s now else s
def xD (a s d now p : Int) : Int := if chB a s d = true ∧ okB s now p = true then nDone s d now p else d
def xE (a s d now p : Int) : Int := if chB a s d = true then (if okB s now p = true then 0 else 2) else 1

/-- The same, the cells of the two blocks written out. -/
theorem own2 {w w1 : World} {a s d a' s' d' : Value} {t t' : TypeId} (hb : Below ((w.alloc (.cells #[a, s, d] t)).alloc (.cells #[a', s', d'] t')).heap.size ((w.alloc (.cells #[a, s, d] t)).alloc (.cells #[a', s', d'] t')) w1) :
    Below w.heap.size w w1 ∧ w1.cell? ⟨w.heap.size, 0, none⟩ = some a ∧ w1.cell? ⟨w.heap.size, 1, none⟩ = some s ∧ w1.cell? ⟨w.heap.size, 2, none⟩ = some d ∧
    w1.frozen? ⟨w.heap.size, 0, none⟩ = false ∧ w1.frozen? ⟨w.heap.size, 1, none⟩ = false ∧ w1.frozen? ⟨w.heap.size, 2, none⟩ = false ∧
    w1.cell? ⟨w.heap.size + 1, 0, none⟩ = some a' ∧ w1.cell? ⟨w.heap.size + 1, 1, none⟩ = some s' ∧ w1.cell? ⟨w.heap.size + 1, 2, none⟩ = some d' ∧
    w1.frozen? ⟨w.heap.size + 1, 0, none⟩ = false ∧ w1.frozen? ⟨w.heap.size + 1, 1, none⟩ = false ∧ w1.frozen? ⟨w.heap.size + 1, 2, none⟩ = false ∧
    w.heap.size < w1.heap.size ∧ w.heap.size + 1 < w1.heap.size ∧ ¬ w.heap.size = w1.heap.size ∧ ¬ w.heap.size + 1 = w1.heap.size := by
  obtain ⟨hc, hf⟩ := bcell hb
  obtain ⟨bel, z1, z2, y1, y2⟩ := bel2 hb
  refine ⟨bel, ?_, ?_, ?_, ?_, ?_, ?_, ?_, ?_, ?_, ?_, ?_, ?_, z1, z2, y1, y2⟩
  all_goals first | (rw [hc _ _ (by simp; try omega)]; simp; done) | (rw [hf _ _ (by simp; try omega)]; simp; done)

set_option maxRecDepth 100000 in
set_option maxHeartbeats 1600000 in
theorem bnote_w (a s d now p : Int) (w : World) : Calls Try.prog 10 #[.agg #[.int .i64 a, .int .i64 s, .int .i64 d], .int .i64 now, .int .i64 p] w
    (RetM (xA a s d now p) (xS a s d now p) (xD a s d now p) (xE a s d now p) w) := by
  by_cases h : chB a s d = true
  · by_cases ho : okB s now p = true
    · have ⟨n1, n2, p1, p2⟩ : s ≤ now ∧ now ≤ 1000000 ∧ 0 ≤ p ∧ p ≤ 64 := by simpa [okB] using ho
      go_enter Try.func10, Try.ntmps10
      go_wp2_with (go_at_call 12; refine (check_w _ _ _ _).mono ?_; rintro e w1 ⟨rfl, hb⟩; obtain ⟨hc, hf⟩ := bcell hb; obtain ⟨bel, z1, z2, y1, y2⟩ := bel2 hb)
      refine (note_w _ a s d now p _ h ho (by simp) (by simp) (by simp) (by simp) (by simp) (by simp)).mono ?_
      rintro e w2 ⟨rfl, hg, k0, k1, k2⟩
      obtain ⟨gc, gf⟩ := gcell hg
      have gz := hg.size
      have bel2 : Below w.heap.size w w2 := below_of_grown (bel.alloc (by omega) _) (by simp; omega) (by omega) hg
      clear bel
      have bel := bel2
      clear bel2
      go_wp2
      exact bodyPost_ret (v := .tuple #[.agg #[.int .i64 (nAvg a s d now p), .int .i64 (nStamp s now), .int .i64 (nDone s d now p)], .int .i64 0]) (by simp [results, Try.results10, go_sem, gc, gf, hc, hf, z1, z2, y1, y2, Nat.lt_succ_of_lt z2]) rfl
        ⟨ret_m (by simp [xA, h, ho]) (by simp [xS, h, ho]) (by simp [xD, h, ho]) (by simp [xE, h, ho]), by (repeat (with_reducible first | exact bel | apply Below.drew | (refine Below.setCell ?_ (by simp) _)))⟩
    · have hno : ¬ (s ≤ now ∧ now ≤ 1000000 ∧ 0 ≤ p ∧ p ≤ 64) := by simpa [okB] using ho
      have Ho := Lib.hid ho
      clear ho
      go_enter Try.func10, Try.ntmps10
      go_wp2_with (go_at_call 12; refine (check_w _ _ _ _).mono ?_; rintro e w1 ⟨rfl, hb⟩; obtain ⟨hc, hf⟩ := bcell hb; obtain ⟨bel, z1, z2, y1, y2⟩ := bel2 hb)
      all_goals refine bodyPost_ret (v := .tuple #[.agg #[.int .i64 a, .int .i64 s, .int .i64 d], .int .i64 2]) ?_ rfl ⟨ret_m ?_ ?_ ?_ ?_, ?_⟩
      all_goals first
        | (simp [results, Try.results10, go_sem, hc, hf, z1, z2, y1, y2]; done)
        | (clear hc hf; simp [xA, xS, xD, xE, h, Ho.out]; done)
        | (clear hc hf; (repeat (with_reducible first | exact bel | apply Below.drew | (refine Below.setCell ?_ (by simp) _))); done)
  · simp only [Bool.not_eq_true] at h
    go_enter Try.func10, Try.ntmps10
    go_wp2_with (go_at_call 12; refine (check_w _ _ _ _).mono ?_; rintro e w1 ⟨rfl, hb⟩; obtain ⟨hc, hf⟩ := bcell hb; obtain ⟨bel, z1, z2, y1, y2⟩ := bel2 hb)
    exact bodyPost_ret (v := .tuple #[.agg #[.int .i64 a, .int .i64 s, .int .i64 d], .int .i64 1]) (by simp [results, Try.results10, go_sem, hc, hf, z1, z2, y1, y2]) rfl
        ⟨ret_m (by simp [xA, h]) (by simp [xS, h]) (by simp [xD, h]) (by simp [xE, h]), by (repeat (with_reducible first | exact bel | apply Below.drew | (refine Below.setCell ?_ (by simp) _)))⟩


end Go.Proofs.Ytiknpncnmdonfaa
