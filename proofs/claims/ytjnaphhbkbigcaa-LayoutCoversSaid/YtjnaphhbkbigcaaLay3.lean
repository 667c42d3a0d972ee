/-
  Spans in memory; Split in plain Lean.
-/
import Derived.Test.YtjnaphhbkbigcaaLay2
namespace Go.Proofs.Ytjnaphhbkbigcaa
open Go.RowKit
set_option linter.unusedVariables false
set_option linter.unusedSimpArgs false

/-- A span: sector, count. -/
abbrev Sp := Int × Int
def sps : List Sp → List Value
  | [] => []
  | (s, c) :: l => .int .i64 s :: .int .i64 c :: sps l
theorem sps_snoc (l : List Sp) (s c : Int) : sps (l ++ [(s, c)]) = sps l ++ [.int .i64 s, .int .i64 c] := by
  induction l with
  | nil => rfl
  | cons a l ih => obtain ⟨x, y⟩ := a; simp [sps, ih]
theorem sps_len (l : List Sp) : (sps l).length = l.length * 2 := by
  induction l with
  | nil => rfl
  | cons a l ih => obtain ⟨x, y⟩ := a; simp [sps, ih]; omega
theorem sps_get : ∀ (l : List Sp) (i : Nat) (s c : Int), l[i]? = some (s, c) → (sps l)[i * 2]? = some (.int .i64 s) ∧ (sps l)[i * 2 + 1]? = some (.int .i64 c)
  | [], i, s, c, h => by simp at h
  | (x, y) :: l, 0, s, c, h => by simp at h; obtain ⟨rfl, rfl⟩ := h; simp [sps]
  | (x, y) :: l, i + 1, s, c, h => by
    have h1 := sps_get l i s c (by simpa using h)
    rw [show (i + 1) * 2 = i * 2 + 2 from by omega, show i * 2 + 2 + 1 = i * 2 + 1 + 2 from by omega]
    simpa [sps] using h1
theorem sps_set : ∀ (l : List Sp) (s c m : Int), (sps (l ++ [(s, c)])).set (l.length * 2 + 1) (.int .i64 m) = sps (l ++ [(s, m)])
  | [], _, _, _ => rfl
  | (x, y) :: l, s, c, m => by
    have := sps_set l s c m
    simp only [List.cons_append, sps, List.length_cons]
    rw [show (l.length + 1) * 2 + 1 = (l.length * 2 + 1) + 1 + 1 by omega]
    simp only [List.set_cons_succ, this]
def SpR (w : World) (A : Option Addr) (l : List Sp) : Prop :=
  l = [] ∨ ∃ b, A = some ⟨b, 0, none⟩ ∧ b < w.heap.size ∧ ∀ i s c, l[i]? = some (s, c) → w.cell? ⟨b, i * 2, none⟩ = some (.int .i64 s) ∧ w.cell? ⟨b, i * 2 + 1, none⟩ = some (.int .i64 c)
theorem SpR.step {w w' : World} {A : Option Addr} {l : List Sp} (h : SpR w A l) (hb : Below w.heap.size w w') : SpR w' A l := by
  rcases h with h | ⟨b, h1, h2, h3⟩
  · exact .inl h
  · refine .inr ⟨b, h1, Nat.lt_of_lt_of_le h2 hb.size, fun i s c hi => ?_⟩
    obtain ⟨c0, c1⟩ := h3 i s c hi
    exact ⟨(hb.cell (p := ⟨b, _, none⟩) h2).trans c0, (hb.cell (p := ⟨b, _, none⟩) h2).trans c1⟩
theorem SpR.drewN {w : World} {A : Option Addr} {l : List Sp} (h : SpR w A l) (n : Nat) : SpR (w.drewN n) A l := h
theorem SpR.at_ {w : World} {A : Option Addr} {l : List Sp} (h : SpR w A l) {i : Nat} (hi : i < l.length) : ∃ b s c, A = some ⟨b, 0, none⟩ ∧ b < w.heap.size ∧ l[i]? = some (s, c) ∧
    w.cell? ⟨b, i * 2, none⟩ = some (.int .i64 s) ∧ w.cell? ⟨b, i * 2 + 1, none⟩ = some (.int .i64 c) := by
  rcases h with h | ⟨b, h1, h2, h3⟩
  · subst h; simp at hi
  · have he : l[i]? = some l[i] := List.getElem?_eq_getElem hi
    obtain ⟨c0, c1⟩ := h3 i _ _ he
    exact ⟨b, _, _, h1, h2, he, c0, c1⟩
/-- A slice of spans. -/
def SpA (w : World) (v : Value) (l : List Sp) : Prop := ∃ A cap, v = .slice A l.length cap ∧ l.length ≤ maxLen ∧ SpR w A l
theorem SpA.step {w w' : World} {v : Value} {l : List Sp} (h : SpA w v l) (hb : Below w.heap.size w w') : SpA w' v l := by
  obtain ⟨A, cap, e, hm, h⟩ := h
  exact ⟨A, cap, e, hm, h.step hb⟩
theorem SpA.nil (w : World) : SpA w (.slice none 0 0) [] := ⟨none, 0, rfl, by simp, .inl rfl⟩
theorem SpA.of_own {w : World} {base : Nat} {v : Value} {l : List Sp} {t : TypeId} (h : w.ownsRow base t 2 v l.length (sps l)) (hm : l.length ≤ maxLen) : SpA w v l := by
  by_cases h0 : l = []
  · subst h0
    rcases h.2 with ⟨h1, _⟩ | ⟨g, cap, cur, h1, _⟩
    · rw [h1]; exact SpA.nil w
    · exact ⟨_, cap, h1, hm, .inl rfl⟩
  · obtain ⟨g, cap, hv, _, hlt⟩ := h.form (List.length_pos_iff.2 h0)
    subst hv
    refine ⟨_, cap, rfl, hm, .inr ⟨g, rfl, hlt, fun i s c hi => ?_⟩⟩
    have hil : i < l.length := (List.getElem?_eq_some_iff.1 hi).1
    obtain ⟨x0, x1⟩ := sps_get l i s c hi
    exact ⟨(h.cellAt (i * 2) (by omega)).trans x0, (h.cellAt (i * 2 + 1) (by omega)).trans x1⟩
def SP.sp (l : List Sp) : SP := ⟨fun v w => SpA w v l, fun _ _ _ hb h => h.step hb⟩
/-- A slice of spans comes back. -/
def RetSp (l : List Sp) (w : World) (e : Ending) (w' : World) : Prop := ∃ v, e = .returned v ∧ SpA w' v l ∧ Below w.heap.size w w'
theorem sp_info : (Try.prog.info? 36).map (fun i => (i.zero, i.size, i.bytes)) = some (some (.agg #[.int .i64 0, .int .i64 0]), 2, 16) := by kernel_rfl
theorem own_sp {w : World} {b : Nat} {t : TypeId} {v : Value} {l : List Sp} {x y : Int} (h : w.ownsRow b t 2 v (l.length + 1) (sps l ++ [.int .i64 x, .int .i64 y])) : w.ownsRow b t 2 v (l ++ [(x, y)]).length (sps (l ++ [(x, y)])) := by
  rw [sps_snoc]
  simpa using h

/-- A span cut into spans of at most most sectors. -/
def cutP (most : Int) : Nat → Int → Int → List Sp
  | 0, _, _ => []
  | f + 1, s, c => if 0 < c then (s, min c most) :: cutP most f (s + min c most) (c - min c most) else []
theorem cutP_done {most : Int} (f : Nat) {s c : Int} (h : c ≤ 0) : cutP most f s c = [] := by
  cases f with
  | zero => rfl
  | succ f => simp only [cutP]; rw [if_neg (by omega)]
theorem cutP_len (most : Int) : ∀ (f : Nat) (s c : Int), (cutP most f s c).length ≤ f
  | 0, _, _ => by simp [cutP]
  | f + 1, s, c => by
    simp only [cutP]
    split
    · have := cutP_len most f (s + min c most) (c - min c most)
      simp; omega
    · simp
/-- Whether a span is left out. -/
def outB (most : Int) (x : Sp) : Bool := decide (most < 1 ∨ x.1 < 0 ∨ 128 < x.1 ∨ 128 - x.1 < x.2)
def pieceP (most : Int) (x : Sp) : List Sp := if outB most x = true then [] else cutP most x.2.toNat x.1 x.2
def splitP (most : Int) (l : List Sp) : List Sp := l.flatMap (pieceP most)
theorem splitP_take {most : Int} {l : List Sp} {i : Nat} {x : Sp} (h : l[i]? = some x) : splitP most (l.take (i + 1)) = splitP most (l.take i) ++ pieceP most x := by
  unfold splitP
  rw [List.take_add_one, h, Option.toList_some, List.flatMap_append]
  simp
theorem pieceP_len (most : Int) (x : Sp) : (pieceP most x).length ≤ 128 := by
  unfold pieceP
  by_cases h : outB most x = true
  · rw [if_pos h]; simp
  · rw [if_neg h]
    have := cutP_len most x.2.toNat x.1 x.2
    simp [outB] at h
    omega
theorem splitP_len (most : Int) : ∀ (l : List Sp), (splitP most l).length ≤ 128 * l.length
  | [] => by simp [splitP]
  | x :: l => by
    have h1 := pieceP_len most x
    have h2 := splitP_len most l
    unfold splitP at h2 ⊢
    simp only [List.flatMap_cons, List.length_append, List.length_cons]
    omega

end Go.Proofs.Ytjnaphhbkbigcaa
