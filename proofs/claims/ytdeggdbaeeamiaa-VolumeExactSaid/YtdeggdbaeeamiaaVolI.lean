/-
  The sectors of pieces: plain part, and the law's own sectors and same by contracts.
-/
import Derived.Test.YtdeggdbaeeamiaaVolH
namespace Go.Proofs.Ytdeggdbaeeamiaa
open Go.RowKit
set_option linter.unusedVariables false
set_option linter.unusedSimpArgs false

/-- The first n sectors of a piece. -/
def pcSec (from_ : Int) (p : Pc) (n : Nat) : List Seg := (List.range n).map (fun k : Nat => (p.1, p.2.1 + (k : Int), from_ + p.2.2.2 + (k : Int)))
def secs (from_ : Int) : List Pc → List Seg
  | [] => []
  | p :: l => pcSec from_ p p.2.2.1.toNat ++ secs from_ l
theorem pcSec_succ (from_ : Int) (p : Pc) (n : Nat) : pcSec from_ p (n + 1) = pcSec from_ p n ++ [(p.1, p.2.1 + (n : Int), from_ + p.2.2.2 + (n : Int))] := by
  simp [pcSec, List.range_succ]
theorem pcSec_len (from_ : Int) (p : Pc) (n : Nat) : (pcSec from_ p n).length = n := by simp [pcSec]
theorem secs_snoc (from_ : Int) : ∀ (l : List Pc) (p : Pc), secs from_ (l ++ [p]) = secs from_ l ++ pcSec from_ p p.2.2.1.toNat
  | [], p => by simp [secs]
  | q :: l, p => by simp [secs, secs_snoc from_ l p]
theorem secs_take {from_ : Int} {l : List Pc} {i : Nat} {p : Pc} (h : l[i]? = some p) : secs from_ (l.take (i + 1)) = secs from_ (l.take i) ++ pcSec from_ p p.2.2.1.toNat := by
  rw [List.take_add_one, h, Option.toList_some, secs_snoc]
theorem secs_len {from_ : Int} : ∀ {l : List Pc}, (∀ p ∈ l, p.2.2.1 ≤ 128) → (secs from_ l).length ≤ 128 * l.length
  | [], _ => by simp [secs]
  | p :: l, h => by
    have h1 := h p (by simp)
    have := secs_len (from_ := from_) (l := l) (fun q hq => h q (List.mem_cons_of_mem _ hq))
    simp only [secs, List.length_append, pcSec_len, List.length_cons]
    omega
/-- The sectors of a request, from an offset to its end. -/
def secR (kd ch : Int) (L : List Seg) (s from_ : Int) (off : Int) (n : Nat) : List Seg :=
  (List.range n).map (fun k : Nat => ((at0 L (plc kd ch L (s + off + (k : Int))).1).1, (plc kd ch L (s + off + (k : Int))).2.1, from_ + off + (k : Int)))
theorem secR_add (kd ch : Int) (L : List Seg) (s from_ off : Int) (m n : Nat) : secR kd ch L s from_ off (m + n) = secR kd ch L s from_ off m ++ secR kd ch L s from_ (off + m) n := by
  unfold secR
  rw [List.range_add, List.map_append, List.map_map]
  congr 1
  refine List.map_congr_left (fun k _ => ?_)
  simp only [Function.comp]
  rw [show s + off + ((m + k : Nat) : Int) = s + (off + m) + k by omega, show from_ + off + ((m + k : Nat) : Int) = from_ + (off + m) + k by omega]
theorem secs_runP {kd ch : Int} {L : List Seg} {s c from_ : Int} (hs : soundB kd ch L = true) (hk : kd ≠ 3) (s0 : 0 ≤ s) (s1 : s + c ≤ sizeV kd L) : ∀ (f : Nat) (off : Int), 0 ≤ off → off ≤ c → c - off ≤ f →
    secs from_ (runP kd ch L s c f off) = secR kd ch L s from_ off (c - off).toNat
  | 0, off, h0, h1, h2 => by
    rw [show (c - off).toNat = 0 by omega]
    rfl
  | f + 1, off, h0, h1, h2 => by
    simp only [runP]
    by_cases hlt : off < c
    · rw [if_pos hlt]
      obtain ⟨r1, r2, r3⟩ := plc_range (s := s + off) hs hk (by omega) (by omega)
      obtain ⟨m, hm⟩ := Int.eq_ofNat_of_zero_le (show 0 ≤ min (plc kd ch L (s + off)).2.2 (c - off) by omega)
      have ih := secs_runP (from_ := from_) hs hk s0 s1 f (off + m) (by omega) (by omega) (by omega)
      simp only [secs, hm]
      rw [ih, show (c - off).toNat = m + (c - (off + m)).toNat by omega, secR_add, Int.toNat_natCast]
      congr 1
      refine List.map_congr_left (fun k hk' => ?_)
      have hkm : k < m := List.mem_range.1 hk'
      rw [plc_shift (s := s + off) (k := (k : Int)) hs hk (by omega) (by omega) (by omega) (by omega)]
    · rw [if_neg hlt, show (c - off).toNat = 0 by omega]
      rfl
theorem secR_from (kd ch : Int) (L : List Seg) (s a : Int) (n : Nat) : secR kd ch L (s + a) a 0 n = secR kd ch L s 0 a n := by
  unfold secR
  refine List.map_congr_left (fun k _ => ?_)
  rw [show s + a + 0 + (k : Int) = s + a + k by omega, show a + 0 + (k : Int) = 0 + a + k by omega]
theorem runP_shift {kd ch : Int} {L : List Seg} {s a b : Int} (hs : soundB kd ch L = true) (hk : kd ≠ 3) (s0 : 0 ≤ s) (a0 : 0 ≤ a) (s1 : s + a + b ≤ sizeV kd L) : ∀ (f g : Nat) (o : Int), 0 ≤ o → b - o ≤ f → b - o ≤ g →
    (runP kd ch L (s + a) b f o).length = (runP kd ch L s (a + b) g (a + o)).length
  | 0, g, o, h0, h1, h2 => by
    have : ¬ a + o < a + b := by omega
    cases g <;> simp [runP, this]
  | f + 1, 0, o, h0, h1, h2 => by
    have : ¬ o < b := by omega
    simp [runP, this]
  | f + 1, g + 1, o, h0, h1, h2 => by
    simp only [runP]
    by_cases hlt : o < b
    · rw [if_pos hlt, if_pos (by omega)]
      have e : s + (a + o) = s + a + o := by omega
      rw [e]
      obtain ⟨r1, r2, r3⟩ := plc_range (s := s + a + o) hs hk (by omega) (by omega)
      have e2 : a + b - (a + o) = b - o := by omega
      rw [e2]
      have := runP_shift hs hk s0 a0 s1 f g (o + min (plc kd ch L (s + a + o)).2.2 (b - o)) (by omega) (by omega) (by omega)
      simp only [List.length_cons, this]
      rw [Int.add_assoc a o]
    · rw [if_neg hlt, if_neg (by omega)]
theorem runP_done {kd ch : Int} {L : List Seg} {s c : Int} (f : Nat) {off : Int} (h : c ≤ off) : runP kd ch L s c f off = [] := by
  cases f with
  | zero => rfl
  | succ f => simp only [runP]; rw [if_neg (by omega)]
/-- Joining two requests makes no more pieces. -/
theorem runP_join {kd ch : Int} {L : List Seg} {s a b : Int} (hs : soundB kd ch L = true) (hk : kd ≠ 3) (s0 : 0 ≤ s) (b0 : 1 ≤ b) (s1 : s + a + b ≤ sizeV kd L) : ∀ (f g h : Nat) (off : Int), 0 ≤ off → off ≤ a → a + b - off ≤ f → a - off ≤ g → b ≤ h →
    (runP kd ch L s (a + b) f off).length ≤ (runP kd ch L s a g off).length + (runP kd ch L (s + a) b h 0).length
  | 0, g, h, off, h0, h1, h2, h3, h4 => by simp [runP]
  | f + 1, g, h, off, h0, h1, h2, h3, h4 => by
    by_cases hlt : off < a
    · obtain ⟨g, rfl⟩ : ∃ n, g = n + 1 := ⟨g - 1, by omega⟩
      simp only [runP]
      rw [if_pos (show off < a + b by omega), if_pos hlt]
      obtain ⟨r1, r2, r3⟩ := plc_range (s := s + off) hs hk (by omega) (by omega)
      by_cases hq : (plc kd ch L (s + off)).2.2 ≤ a - off
      · rw [Int.min_eq_left (show (plc kd ch L (s + off)).2.2 ≤ a + b - off by omega), Int.min_eq_left hq]
        have := runP_join hs hk s0 b0 s1 f g h (off + (plc kd ch L (s + off)).2.2) (by omega) (by omega) (by omega) (by omega) h4
        simp only [List.length_cons]
        omega
      · rw [Int.min_eq_right (show a - off ≤ (plc kd ch L (s + off)).2.2 by omega)]
        have hsh := plc_shift (s := s + off) (k := a - off) hs hk (by omega) (by omega) (by omega) (by omega)
        rw [show s + off + (a - off) = s + a by omega] at hsh
        obtain ⟨h, rfl⟩ : ∃ n, h = n + 1 := ⟨h - 1, by omega⟩
        simp only [runP]
        rw [if_pos (show (0 : Int) < b by omega), Int.add_zero, hsh, runP_done (f := g) (show a ≤ off + (a - off) by omega)]
        simp only [List.length_cons, List.length_nil, Int.sub_zero, Int.zero_add]
        obtain ⟨m, hm⟩ : ∃ m, min ((plc kd ch L (s + off)).2.2 - (a - off)) b = m := ⟨_, rfl⟩
        have hz : min (plc kd ch L (s + off)).2.2 (a + b - off) = a - off + m := by omega
        rw [hm, hz, runP_shift (f := h) (g := f) hs hk s0 (by omega) s1 m (by omega) (by omega) (by omega), show a + m = off + (a - off + m) by omega]
        omega
    · obtain rfl : off = a := by omega
      rw [runP_done (f := g) (Int.le_refl _), runP_shift (f := h) (g := f + 1) hs hk s0 h0 s1 0 (by omega) (by omega) (by omega), Int.add_zero]
      simp
theorem secs_mir {x : Seg} {s c from_ : Int} : secs from_ [(x.1, x.2.1 + s, c, 0)] = pcSec from_ (x.1, x.2.1 + s, c, 0) c.toNat := by simp [secs]
/-- Two requests side by side and the joined one. -/
theorem parts {kd ch : Int} {L : List Seg} {s a b : Int} (hz : 0 ≤ s ∧ 1 ≤ a ∧ 1 ≤ b ∧ s + a + b ≤ szB kd ch L) :
    secs 0 (mapP kd ch L s a 0) ++ secs a (mapP kd ch L (s + a) b 0) = secs 0 (mapP kd ch L s (a + b) 0) ∧ (mapP kd ch L s (a + b) 0).length ≤ (mapP kd ch L s a 0).length + (mapP kd ch L (s + a) b 0).length := by
  obtain ⟨z1, z2, z3, z4⟩ := hz
  have o1 := ok_mk (kd := kd) (ch := ch) (L := L) (s := s) (c := a) (by omega) (by omega) (by omega) (by omega)
  have o2 := ok_mk (kd := kd) (ch := ch) (L := L) (s := s + a) (c := b) (by omega) (by omega) (by omega) (by omega)
  have o3 := ok_mk (kd := kd) (ch := ch) (L := L) (s := s) (c := a + b) (by omega) (by omega) (by omega) (by omega)
  obtain ⟨hs, hsz, _⟩ := ok_sound o1
  unfold mapP
  simp only [o1, o2, o3, if_true]
  by_cases hk : kd = 3
  · simp only [if_pos hk]
    rw [mirP_zero s a (sound_parts hs).1, mirP_zero (s + a) b (sound_parts hs).1, mirP_zero s (a + b) (sound_parts hs).1]
    refine ⟨?_, by simp⟩
    simp only [secs_mir]
    obtain ⟨m, rfl⟩ := Int.eq_ofNat_of_zero_le (show 0 ≤ a by omega)
    obtain ⟨n, rfl⟩ := Int.eq_ofNat_of_zero_le (show 0 ≤ b by omega)
    rw [show ((m : Int) + (n : Int)).toNat = m + n by omega, Int.toNat_natCast, Int.toNat_natCast]
    unfold pcSec
    rw [List.range_add, List.map_append, List.map_map]
    congr 1
    refine List.map_congr_left (fun k _ => ?_)
    simp only [Function.comp, Prod.mk.injEq, true_and]
    omega
  · simp only [if_neg hk]
    rw [hsz] at z4
    rw [secs_runP hs hk z1 (by omega) _ _ (by omega) (by omega) (by omega), secs_runP hs hk (by omega) (by omega) _ _ (by omega) (by omega) (by omega), secs_runP hs hk z1 (by omega) _ _ (by omega) (by omega) (by omega)]
    refine ⟨?_, runP_join hs hk z1 z3 (by omega) _ _ _ _ (by omega) (by omega) (by omega) (by omega) (by omega)⟩
    rw [secR_from, Int.sub_zero, Int.sub_zero, Int.sub_zero, show (a + b).toNat = a.toNat + b.toNat by omega, secR_add, show (0 : Int) + (a.toNat : Int) = a by omega]

end Go.Proofs.Ytdeggdbaeeamiaa
