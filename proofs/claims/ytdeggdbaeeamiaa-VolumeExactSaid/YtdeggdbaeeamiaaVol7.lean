/-
  The pieces of a request in plain Lean; slices of pieces in memory; place by one contract.
-/
import Derived.Test.YtdeggdbaeeamiaaVol6
import Derived.Deep.AppendLies
namespace Go.Proofs.Ytdeggdbaeeamiaa
open Go.RowKit
set_option linter.unusedVariables false
set_option linter.unusedSimpArgs false

/-- A piece: drive, sector, count, offset. -/
abbrev Pc := Int × Int × Int × Int
def pcs : List Pc → List Value
  | [] => []
  | (d, s, c, f) :: l => .int .i64 d :: .int .i64 s :: .int .i64 c :: .int .i64 f :: pcs l
theorem pcs_snoc (l : List Pc) (d s c f : Int) : pcs (l ++ [(d, s, c, f)]) = pcs l ++ [.int .i64 d, .int .i64 s, .int .i64 c, .int .i64 f] := by
  induction l with
  | nil => rfl
  | cons a l ih => obtain ⟨x, y, z, t⟩ := a; simp [pcs, ih]
theorem pcs_len (l : List Pc) : (pcs l).length = l.length * 4 := by
  induction l with
  | nil => rfl
  | cons a l ih => obtain ⟨x, y, z, t⟩ := a; simp [pcs, ih]; omega
theorem pcs_get : ∀ (l : List Pc) (i : Nat) (d s c f : Int), l[i]? = some (d, s, c, f) → (pcs l)[i * 4]? = some (.int .i64 d) ∧ (pcs l)[i * 4 + 1]? = some (.int .i64 s) ∧ (pcs l)[i * 4 + 2]? = some (.int .i64 c) ∧ (pcs l)[i * 4 + 3]? = some (.int .i64 f)
  | [], i, d, s, c, f, h => by simp at h
  | (x, y, z, t) :: l, 0, d, s, c, f, h => by simp at h; obtain ⟨rfl, rfl, rfl, rfl⟩ := h; simp [pcs]
  | (x, y, z, t) :: l, i + 1, d, s, c, f, h => by
    have h1 := pcs_get l i d s c f (by simpa using h)
    rw [show (i + 1) * 4 = i * 4 + 4 from by omega, show i * 4 + 4 + 1 = i * 4 + 1 + 4 from by omega, show i * 4 + 4 + 2 = i * 4 + 2 + 4 from by omega, show i * 4 + 4 + 3 = i * 4 + 3 + 4 from by omega]
    simpa [pcs] using h1
/-- A slice of pieces lies in memory. -/
def PcA (w : World) (v : Value) (l : List Pc) : Prop :=
  ∃ A cap, v = .slice A l.length cap ∧ l.length ≤ maxLen ∧ (l = [] ∨ ∃ b, A = some ⟨b, 0, none⟩ ∧ b < w.heap.size ∧ ∀ i d s c f, l[i]? = some (d, s, c, f) →
    w.cell? ⟨b, i * 4, none⟩ = some (.int .i64 d) ∧ w.cell? ⟨b, i * 4 + 1, none⟩ = some (.int .i64 s) ∧ w.cell? ⟨b, i * 4 + 2, none⟩ = some (.int .i64 c) ∧ w.cell? ⟨b, i * 4 + 3, none⟩ = some (.int .i64 f))
theorem PcA.step {w w' : World} {v : Value} {l : List Pc} (h : PcA w v l) (hb : Below w.heap.size w w') : PcA w' v l := by
  obtain ⟨A, cap, e, hm, h⟩ := h
  refine ⟨A, cap, e, hm, ?_⟩
  rcases h with h | ⟨b, h1, h2, h3⟩
  · exact .inl h
  · refine .inr ⟨b, h1, Nat.lt_of_lt_of_le h2 hb.size, fun i d s c f hi => ?_⟩
    obtain ⟨c0, c1, c2, c3⟩ := h3 i d s c f hi
    exact ⟨(hb.cell (p := ⟨b, _, none⟩) h2).trans c0, (hb.cell (p := ⟨b, _, none⟩) h2).trans c1, (hb.cell (p := ⟨b, _, none⟩) h2).trans c2, (hb.cell (p := ⟨b, _, none⟩) h2).trans c3⟩
theorem PcA.alloc {w : World} {v : Value} {l : List Pc} (h : PcA w v l) (o : Obj) : PcA (w.alloc o) v l := h.step ((Below.refl _ _).alloc (Nat.le_refl _) _)
theorem PcA.drewN {w : World} {v : Value} {l : List Pc} (h : PcA w v l) (n : Nat) : PcA (w.drewN n) v l := h
theorem PcA.of_own {w : World} {base : Nat} {v : Value} {l : List Pc} {t : TypeId} (h : w.ownsRow base t 4 v l.length (pcs l)) (hm : l.length ≤ maxLen) : PcA w v l := by
  rcases Nat.eq_zero_or_pos l.length with h0 | h0
  · rcases h.2 with ⟨h1, _⟩ | ⟨g, cap, cur, h1, _⟩
    · exact ⟨none, 0, by rw [h1, h0], hm, .inl (List.eq_nil_of_length_eq_zero h0)⟩
    · exact ⟨_, cap, h1, hm, .inl (List.eq_nil_of_length_eq_zero h0)⟩
  · obtain ⟨g, cap, hv, _, hlt⟩ := h.form h0
    subst hv
    refine ⟨_, cap, rfl, hm, .inr ⟨g, rfl, hlt, fun i d s c f hi => ?_⟩⟩
    have hil : i < l.length := (List.getElem?_eq_some_iff.1 hi).1
    obtain ⟨x0, x1, x2, x3⟩ := pcs_get l i d s c f hi
    exact ⟨(h.cellAt (i * 4) (by omega)).trans x0, (h.cellAt (i * 4 + 1) (by omega)).trans x1, (h.cellAt (i * 4 + 2) (by omega)).trans x2, (h.cellAt (i * 4 + 3) (by omega)).trans x3⟩

/-- The pieces of a mirror: one for each part that is asked for. -/
def mirP (s c cp : Int) : List Seg → Nat → List Pc
  | [], _ => []
  | x :: l, k => (if cp = (k : Int) ∨ cp = -1 then [(x.1, x.2.1 + s, c, 0)] else []) ++ mirP s c cp l (k + 1)
/-- The pieces of the other kinds, from an offset on. -/
def runP (kd ch : Int) (L : List Seg) (s c : Int) : Nat → Int → List Pc
  | 0, _ => []
  | f + 1, off => if off < c then ((at0 L (plc kd ch L (s + off)).1).1, (plc kd ch L (s + off)).2.1, min (plc kd ch L (s + off)).2.2 (c - off), off) :: runP kd ch L s c f (off + min (plc kd ch L (s + off)).2.2 (c - off)) else []
def okB (kd ch : Int) (L : List Seg) (s c : Int) : Bool := decide (1 ≤ c ∧ 0 ≤ s ∧ s < szB kd ch L ∧ c ≤ szB kd ch L - s)
def mapP (kd ch : Int) (L : List Seg) (s c cp : Int) : List Pc :=
  if okB kd ch L s c = true then (if kd = 3 then mirP s c cp L 0 else runP kd ch L s c c.toNat 0) else []

theorem kind_cases {kd ch : Int} {L : List Seg} (h : soundB kd ch L = true) : (kd = 1 ∨ kd = 2 ∨ kd = 3) ∧ (kd = 2 → 1 ≤ ch ∧ ch ≤ 128 ∧ (at0 L 0).2.2 % ch = 0) := by
  obtain ⟨h1, h4, ha, _, hk, _⟩ := sound_parts h
  have hx : L[0]? = some L[0] := List.getElem?_eq_getElem (by omega)
  obtain ⟨_, _, _, _, c1, c2⟩ := seg_t (seg_of_all ha hx)
  rw [← at0_some hx] at c1 c2
  simp only [kindB, Bool.or_eq_true, Bool.and_eq_true, beq_iff_eq, decide_eq_true_eq] at hk
  rcases hk with ⟨⟨h2, h3⟩, h5⟩ | ⟨h2 | h2, h3⟩
  · refine ⟨.inr (.inl h2), fun _ => ⟨h3, ?_, h5⟩⟩
    have hd := Int.le_of_dvd (by omega) (Int.dvd_of_emod_eq_zero h5)
    omega
  · exact ⟨.inl h2, fun h => by omega⟩
  · exact ⟨.inr (.inr h2), fun h => by omega⟩
theorem place_w (kd ch : Int) (A : Option Addr) (L : List Seg) (cap : Nat) (s : Int) (w : World) (h : PA w A L) (hs : soundB kd ch L = true) (hk : kd ≠ 3) (s0 : 0 ≤ s) (s1 : s < sizeV kd L) :
    Calls Try.prog 31 #[volV kd ch A L.length cap, .int .i64 s] w (Ret3 (plc kd ch L s).1 (plc kd ch L s).2.1 (plc kd ch L s).2.2 w) := by
  obtain ⟨h1, h4, ha, _, _, hz⟩ := sound_parts hs
  obtain ⟨hkd, hch⟩ := kind_cases hs
  rw [show sizeV kd L = sumK L L.length from by unfold sizeV; rw [if_neg hk]] at s1 hz
  rcases hkd with rfl | rfl | rfl
  · exact place1_w ch A L cap s w h h4 ha s0 s1
  · obtain ⟨a, b, _⟩ := hch rfl
    exact place2_w ch A L cap s w h h1 h4 ha a b s0 (by omega)
  · exact absurd rfl hk
/-- What is known of a place. -/
theorem plc_range {kd ch : Int} {L : List Seg} {s : Int} (hs : soundB kd ch L = true) (hk : kd ≠ 3) (s0 : 0 ≤ s) (s1 : s < sizeV kd L) :
    (plc kd ch L s).1 < L.length ∧ 1 ≤ (plc kd ch L s).2.2 ∧ (plc kd ch L s).2.2 ≤ 128 := by
  obtain ⟨h1, h4, ha, _, _, hz⟩ := sound_parts hs
  obtain ⟨hkd, hch⟩ := kind_cases hs
  rw [show sizeV kd L = sumK L L.length from by unfold sizeV; rw [if_neg hk]] at s1
  by_cases h2 : kd = 2
  · obtain ⟨a, b, _⟩ := hch h2
    unfold plc
    rw [if_pos h2]
    have e1 := Int.emod_nonneg (s / ch) (show (L.length : Int) ≠ 0 by omega)
    have e2 := Int.emod_lt_of_pos (s / ch) (show (0 : Int) < L.length by omega)
    have e3 := Int.emod_nonneg s (show ch ≠ 0 by omega)
    have e4 := Int.emod_lt_of_pos s (show 0 < ch by omega)
    exact ⟨by simp only; omega, by simp only; omega, by simp only; omega⟩
  · obtain ⟨j, hj, hl, l0, l1⟩ := linP_drop L s 0 s0 s1 (fun x hx => by obtain ⟨_, _, _, _, a, _⟩ := seg_t (List.all_eq_true.1 ha x hx); exact a)
    obtain ⟨_, _, _, _, c1, c2⟩ := seg_t (seg_of_all ha (show L[j]? = some L[j] from List.getElem?_eq_getElem hj))
    rw [← at0_some (List.getElem?_eq_getElem hj)] at c1 c2
    unfold plc
    rw [if_neg h2, hl, Nat.zero_add]
    exact ⟨hj, by simp only; omega, by simp only; omega⟩

end Go.Proofs.Ytdeggdbaeeamiaa
