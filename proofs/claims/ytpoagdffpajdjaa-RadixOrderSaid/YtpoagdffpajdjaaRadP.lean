/-
  Radix trees in plain Lean: contents, canonical trees.
-/
import Derived.Test.YtpoagdffpajdjaaRad2
namespace Go.Proofs.Ytpoagdffpajdjaa
open Go.RowKit
set_option linter.unusedVariables false
set_option linter.unusedSimpArgs false

/-- Contents: value and marks of each index; (0, 0) is no entry. -/
abbrev Cn := Nat → Int × Int
def sh (c : Cn) (k : Nat) : Cn := fun i => c (k + i)
theorem sh_sh (c : Cn) (a b : Nat) : sh (sh c a) b = sh c (a + b) := by funext i; simp [sh, Nat.add_assoc]
theorem sh_zero (c : Cn) : sh c 0 = c := by funext i; simp [sh]
def noneB (n : Nat) (c : Cn) : Bool := decide (∀ i, i < n → c i = (0, 0))
theorem noneB_true {n : Nat} {c : Cn} : noneB n c = true ↔ ∀ i, i < n → c i = (0, 0) := by simp [noneB]
theorem noneB_false {n : Nat} {c : Cn} : noneB n c = false ↔ ∃ i, i < n ∧ c i ≠ (0, 0) := by simp [noneB]
def cano : Nat → Cn → T
  | 0, c => .mk [] (c 0).1 (c 0).2
  | h + 1, c => if noneB (4 ^ (h + 1)) c then .nil else .mk ((List.range 4).map fun k => cano h (sh c (k * 4 ^ h))) 0 (orK ((List.range 4).map fun k => cano h (sh c (k * 4 ^ h))))
def kidsC (h : Nat) (c : Cn) : List T := (List.range 4).map fun k => cano h (sh c (k * 4 ^ h))
theorem cano_succ (h : Nat) (c : Cn) : cano (h + 1) c = if noneB (4 ^ (h + 1)) c then .nil else .mk (kidsC h c) 0 (orK (kidsC h c)) := rfl
theorem kidsC_len (h : Nat) (c : Cn) : (kidsC h c).length = 4 := by simp [kidsC]
theorem kidsC_at {h : Nat} {c : Cn} {k : Nat} (hk : k < 4) : (kidsC h c)[k]? = some (cano h (sh c (k * 4 ^ h))) := by
  unfold kidsC
  rw [List.getElem?_map, List.getElem?_range hk]
  rfl
def leafV (x : Int × Int) : Prop := x = (0, 0) ∨ (x.1 ≠ 0 ∧ 0 ≤ x.2 ∧ x.2 ≤ 7 ∧ (0 < x.1 ∨ x.2 = 0))
def leafy (c : Cn) : Prop := ∀ i, leafV (c i)
theorem leafy.sh {c : Cn} (h : leafy c) (k : Nat) : leafy (sh c k) := fun i => h (k + i)
theorem pow_split {h i : Nat} (hi : i < 4 ^ (h + 1)) : i / 4 ^ h < 4 ∧ i / 4 ^ h * 4 ^ h + i % 4 ^ h = i ∧ i % 4 ^ h < 4 ^ h := by
  have h0 : 0 < 4 ^ h := Nat.pow_pos (by omega)
  refine ⟨?_, ?_, Nat.mod_lt _ h0⟩
  · rw [Nat.div_lt_iff_lt_mul h0]
    rw [Nat.pow_succ] at hi
    omega
  · have := Nat.div_add_mod i (4 ^ h)
    rw [Nat.mul_comm]
    exact this
theorem pow_lt {h k j : Nat} (hk : k < 4) (hj : j < 4 ^ h) : k * 4 ^ h + j < 4 ^ (h + 1) := by
  rw [Nat.pow_succ]
  have : k * 4 ^ h ≤ 3 * 4 ^ h := Nat.mul_le_mul_right _ (by omega)
  omega
theorem none_succ {h : Nat} {c : Cn} : noneB (4 ^ (h + 1)) c = true ↔ ∀ k, k < 4 → noneB (4 ^ h) (sh c (k * 4 ^ h)) = true := by
  simp only [noneB_true]
  constructor
  · intro H k hk j hj
    exact H _ (pow_lt hk hj)
  · intro H i hi
    obtain ⟨h1, h2, h3⟩ := pow_split hi
    have := H _ h1 _ h3
    simp only [sh] at this
    rw [h2] at this
    exact this
theorem cano_ext : ∀ (h : Nat) {c c' : Cn}, (∀ i, i < 4 ^ h → c i = c' i) → cano h c = cano h c'
  | 0, c, c', H => by simp only [cano]; rw [H 0 (by simp)]
  | h + 1, c, c', H => by
    have e : kidsC h c = kidsC h c' := by
      unfold kidsC
      refine List.map_congr_left fun k hk => cano_ext h fun i hi => ?_
      exact H _ (pow_lt (List.mem_range.1 hk) hi)
    have e2 : noneB (4 ^ (h + 1)) c = noneB (4 ^ (h + 1)) c' := by
      rw [Bool.eq_iff_iff, noneB_true, noneB_true]
      exact ⟨fun G i hi => (H i hi).symm.trans (G i hi), fun G i hi => (H i hi).trans (G i hi)⟩
    rw [cano_succ, cano_succ, e, e2]
theorem emB_mk (ks : List T) (v m : Int) : (T.mk ks v m).emB = emI ks.length v m := rfl
theorem lfB_mk (ks : List T) (v m : Int) : (T.mk ks v m).lfB = lfI ks.length v m := rfl
theorem emI_true {n : Nat} {v m : Int} : emI n v m = true ↔ n = 0 ∧ v = 0 ∧ m = 0 := by simp [emI]
theorem lfI_true {n : Nat} {v m : Int} : lfI n v m = true ↔ n = 0 ∧ v ≠ 0 ∧ 0 ≤ m ∧ m ≤ 7 ∧ (0 < v ∨ m = 0) := by simp [lfI]
theorem emB_nil : T.nil.emB = true := by decide
theorem emB_cano (h : Nat) (c : Cn) : (cano h c).emB = noneB (4 ^ h) c := by
  cases h with
  | zero =>
    rw [Bool.eq_iff_iff, noneB_true, show cano 0 c = .mk [] (c 0).1 (c 0).2 from rfl, emB_mk, emI_true]
    constructor
    · rintro ⟨_, h1, h2⟩ i hi
      obtain rfl : i = 0 := by simpa using hi
      exact Prod.ext h1 h2
    · intro H
      have := H 0 (by simp)
      rw [this]
      simp
  | succ h =>
    rw [cano_succ]
    cases hn : noneB (4 ^ (h + 1)) c with
    | true => rw [if_pos rfl, emB_nil]
    | false =>
      rw [if_neg (by simp)]
      simp [emB_mk, emI, kidsC_len]
theorem someK_kids (h : Nat) (c : Cn) : someK (kidsC h c) = !noneB (4 ^ (h + 1)) c := by
  rw [Bool.eq_iff_iff]
  unfold someK
  rw [List.any_eq_true, Bool.not_eq_true', ← Bool.not_eq_true, none_succ]
  constructor
  · rintro ⟨t, ht, h1⟩ H
    unfold kidsC at ht
    obtain ⟨k, hk, rfl⟩ := List.mem_map.1 ht
    rw [emB_cano, H k (List.mem_range.1 hk)] at h1
    simp at h1
  · intro H
    have : ∃ k, k < 4 ∧ noneB (4 ^ h) (sh c (k * 4 ^ h)) ≠ true := by
      apply Classical.byContradiction
      intro G
      exact H fun k hk => Classical.byContradiction fun g => G ⟨k, hk, g⟩
    obtain ⟨k, hk, hn⟩ := this
    exact ⟨_, List.mem_of_getElem? (kidsC_at hk), by rw [emB_cano]; simpa using hn⟩
theorem right_cano : ∀ (h : Nat) {c : Cn}, leafy c → rightT h (cano h c) = true
  | 0, c, hc => by
    simp only [rightT, Bool.or_eq_true]
    rw [show cano 0 c = .mk [] (c 0).1 (c 0).2 from rfl, emB_mk, lfB_mk, emI_true, lfI_true]
    rcases hc 0 with h | h
    · left; rw [h]; simp
    · right; exact ⟨rfl, h⟩
  | h + 1, c, hc => by
    cases hn : noneB (4 ^ (h + 1)) c with
    | true => exact rightT_em (by rw [emB_cano]; exact hn) _
    | false =>
      rw [cano_succ, hn, if_neg (by simp)]
      have he : (T.mk (kidsC h c) 0 (orK (kidsC h c))).emB = false := by simp [emB_mk, emI, kidsC_len]
      rw [rightT_succ he]
      simp only [T.kids, T.val, T.marks, kidsC_len, someK_kids, hn]
      have : (kidsC h c).all (rightT h) = true := by
        rw [List.all_eq_true]
        intro t ht
        unfold kidsC at ht
        obtain ⟨k, _, rfl⟩ := List.mem_map.1 ht
        exact right_cano h (hc.sh _)
      rw [this]
      simp
def zeroC : Cn := fun _ => (0, 0)
theorem leafy_zero : leafy zeroC := fun _ => .inl rfl
theorem none_zero (n : Nat) : noneB n zeroC = true := noneB_true.2 fun _ _ => rfl
theorem cano_none {h : Nat} {c : Cn} (hn : noneB (4 ^ h) c = true) : cano h c = .nil := by
  cases h with
  | zero =>
    simp only [cano]
    rw [noneB_true.1 hn 0 (by simp)]
    rfl
  | succ h => rw [cano_succ, hn, if_pos rfl]
theorem em_nil {t : T} (h : t.emB = true) : t = .nil := by
  obtain ⟨ks, v, m⟩ := t
  rw [emB_mk, emI_true] at h
  obtain ⟨h1, rfl, rfl⟩ := h
  rw [List.length_eq_zero_iff.1 h1]
  rfl
theorem cano_of_right : ∀ (h : Nat) {t : T}, rightT h t = true → ∃ c, leafy c ∧ (∀ i, 4 ^ h ≤ i → c i = (0, 0)) ∧ t = cano h c
  | h, t, hr => by
    cases he : t.emB with
    | true => exact ⟨zeroC, leafy_zero, fun _ _ => rfl, by rw [em_nil he, cano_none (none_zero _)]⟩
    | false =>
      match h with
      | 0 =>
        rw [rightT_zero he] at hr
        obtain ⟨ks, v, m⟩ := t
        rw [lfB_mk, lfI_true] at hr
        obtain ⟨h1, h2⟩ := hr
        refine ⟨fun i => if i = 0 then (v, m) else (0, 0), fun i => ?_, fun i hi => ?_, ?_⟩
        · by_cases hi : i = 0
          · simp only [hi, if_true]; exact .inr h2
          · simp only [hi, if_false]; exact .inl rfl
        · have : i ≠ 0 := by simp at hi; omega
          simp [this]
        · rw [List.length_eq_zero_iff.1 h1]; simp [cano]
      | h + 1 =>
        rw [rightT_succ he] at hr
        simp only [Bool.and_eq_true, decide_eq_true_eq] at hr
        obtain ⟨⟨⟨h1, h2⟩, h3⟩, h4, h5⟩ := hr
        obtain ⟨ks, v, m⟩ := t
        simp only [T.kids, T.val, T.marks] at h1 h2 h3 h4 h5
        subst h1
        have ch : ∀ k : Nat, ∃ c, leafy c ∧ ∀ x, ks[k]? = some x → x = cano h c := fun k => by
          cases hx : ks[k]? with
          | none => exact ⟨zeroC, leafy_zero, fun _ h => by cases h⟩
          | some x =>
            obtain ⟨c, hc, _, e⟩ := cano_of_right h (List.all_eq_true.1 h3 x (List.mem_of_getElem? hx))
            exact ⟨c, hc, fun y hy => by injection hy with hy; rw [← hy]; exact e⟩
        let f : Nat → Cn := fun k => Classical.choose (ch k)
        have hf : ∀ k, leafy (f k) ∧ ∀ x, ks[k]? = some x → x = cano h (f k) := fun k => Classical.choose_spec (ch k)
        have p0 : 0 < 4 ^ h := Nat.pow_pos (by omega)
        refine ⟨fun i => if i < 4 ^ (h + 1) then f (i / 4 ^ h) (i % 4 ^ h) else (0, 0), fun i => ?_, fun i hi => ?_, ?_⟩
        · by_cases hi : i < 4 ^ (h + 1)
          · simp only [hi, if_true]; exact (hf _).1 _
          · simp only [hi, if_false]; exact .inl rfl
        · show (if i < 4 ^ (h + 1) then _ else _) = _
          rw [if_neg (by omega)]
        · have e : ks = kidsC h (fun i => if i < 4 ^ (h + 1) then f (i / 4 ^ h) (i % 4 ^ h) else (0, 0)) := by
            apply List.ext_getElem?
            intro k
            by_cases hk : k < 4
            · rw [kidsC_at hk]
              have hx : ks[k]? = some ks[k] := List.getElem?_eq_getElem (by omega)
              rw [hx]
              congr 1
              rw [(hf k).2 _ hx]
              refine cano_ext h fun j hj => ?_
              simp only [sh]
              rw [if_pos (pow_lt hk hj)]
              have e1 : (k * 4 ^ h + j) / 4 ^ h = k := by rw [Nat.add_comm, Nat.add_mul_div_right _ _ p0, Nat.div_eq_of_lt hj, Nat.zero_add]
              have e2 : (k * 4 ^ h + j) % 4 ^ h = j := by rw [Nat.add_comm, Nat.add_mul_mod_self_right, Nat.mod_eq_of_lt hj]
              rw [e1, e2]
            · rw [List.getElem?_eq_none (by omega), List.getElem?_eq_none (by rw [kidsC_len]; omega)]
          generalize (fun i => if i < 4 ^ (h + 1) then f (i / 4 ^ h) (i % 4 ^ h) else (0, 0) : Cn) = c at e
          subst e
          rw [someK_kids] at h4
          rw [cano_succ, if_neg (by simpa using h4), h5]
/-- A right tree of a height, as high as it must be. -/
def TreeOk (h : Nat) (c : Cn) : Prop := h ≤ 4 ∧ (∀ i, 4 ^ h ≤ i → c i = (0, 0)) ∧ (h = 0 ∨ ∃ i, 4 ^ (h - 1) ≤ i ∧ c i ≠ (0, 0))
theorem TreeOk.le {h h' : Nat} {c : Cn} (a : TreeOk h c) (b : TreeOk h' c) : h ≤ h' := by
  rcases a.2.2 with h0 | ⟨i, h1, h2⟩
  · omega
  · rcases Nat.lt_or_ge h' h with hlt | hge
    · exfalso
      exact h2 (b.2.1 i (Nat.le_trans (Nat.pow_le_pow_right (by omega) (by omega)) h1))
    · exact hge
theorem TreeOk.uniq {h h' : Nat} {c : Cn} (a : TreeOk h c) (b : TreeOk h' c) : h = h' := Nat.le_antisymm (a.le b) (b.le a)
theorem TreeOk.zero : TreeOk 0 zeroC := ⟨by omega, fun _ _ => rfl, .inl rfl⟩
/-- Whether a root has an entry behind its first kid. -/
def highT (t : T) : Bool := someK (t.kids.drop 1)
theorem high_cano {h : Nat} {c : Cn} : highT (cano (h + 1) c) = true ↔ ∃ i, 4 ^ h ≤ i ∧ i < 4 ^ (h + 1) ∧ c i ≠ (0, 0) := by
  rw [cano_succ]
  cases hn : noneB (4 ^ (h + 1)) c with
  | true =>
    rw [if_pos rfl]
    constructor
    · intro h; simp [highT, T.nil, T.kids, someK] at h
    · rintro ⟨i, _, h2, h3⟩
      exact absurd (noneB_true.1 hn i h2) h3
  | false =>
    rw [if_neg (by simp)]
    simp only [highT, T.kids, someK, List.any_eq_true]
    have p0 : 0 < 4 ^ h := Nat.pow_pos (by omega)
    constructor
    · rintro ⟨t, ht, h1⟩
      obtain ⟨k, hk⟩ := List.getElem?_of_mem ht
      rw [List.getElem?_drop] at hk
      have hk4 : 1 + k < 4 := by
        have := (List.getElem?_eq_some_iff.1 hk).1
        rw [kidsC_len] at this
        exact this
      rw [kidsC_at hk4] at hk
      injection hk with hk
      subst hk
      rw [emB_cano] at h1
      obtain ⟨j, hj, hne⟩ := noneB_false.1 (by simpa using h1)
      refine ⟨(1 + k) * 4 ^ h + j, ?_, pow_lt hk4 hj, hne⟩
      have : 1 * 4 ^ h ≤ (1 + k) * 4 ^ h := Nat.mul_le_mul_right _ (by omega)
      omega
    · rintro ⟨i, h1, h2, h3⟩
      obtain ⟨q1, q2, q3⟩ := pow_split h2
      have hq : 1 ≤ i / 4 ^ h := by rw [Nat.le_div_iff_mul_le p0]; omega
      refine ⟨cano h (sh c (i / 4 ^ h * 4 ^ h)), ?_, ?_⟩
      · refine List.mem_of_getElem? (i := i / 4 ^ h - 1) ?_
        rw [List.getElem?_drop, show 1 + (i / 4 ^ h - 1) = i / 4 ^ h by omega, kidsC_at q1]
      · rw [emB_cano, noneB_false.2 ⟨i % 4 ^ h, q3, by simp only [sh]; rw [q2]; exact h3⟩]
        rfl
def validT (h : Int) (t : T) : Bool := decide (0 ≤ h ∧ h ≤ 4) && (rightT h.toNat t && (decide (h = 0) || highT t))
theorem valid_of {h : Nat} {c : Cn} (hc : leafy c) (ht : TreeOk h c) : validT h (cano h c) = true := by
  unfold validT
  rw [decide_eq_true (by have := ht.1; omega), Int.toNat_natCast, right_cano h hc]
  rcases h with _ | h
  · simp
  · rcases ht.2.2 with h0 | ⟨i, h1, h2⟩
    · omega
    · have : highT (cano (h + 1) c) = true := high_cano.2 ⟨i, by simpa using h1, by
        rcases Nat.lt_or_ge i (4 ^ (h + 1)) with hlt | hge
        · exact hlt
        · exact absurd (ht.2.1 i hge) h2, h2⟩
      rw [this]
      simp
theorem of_valid {hI : Int} {t : T} (h : validT hI t = true) : ∃ (h : Nat) (c : Cn), hI = h ∧ leafy c ∧ TreeOk h c ∧ t = cano h c := by
  unfold validT at h
  simp only [Bool.and_eq_true, decide_eq_true_eq, Bool.or_eq_true] at h
  obtain ⟨⟨h0, h4⟩, hr, hh⟩ := h
  obtain ⟨n, rfl⟩ := Int.eq_ofNat_of_zero_le h0
  rw [Int.toNat_natCast] at hr
  obtain ⟨c, hc, hf, rfl⟩ := cano_of_right n hr
  refine ⟨n, c, rfl, hc, ⟨by omega, hf, ?_⟩, rfl⟩
  rcases n with _ | n
  · exact .inl rfl
  · right
    have : highT (cano (n + 1) c) = true := hh.resolve_left (by omega)
    obtain ⟨i, h1, _, h3⟩ := high_cano.1 this
    exact ⟨i, by simpa using h1, h3⟩

end Go.Proofs.Ytpoagdffpajdjaa
