/-
  What the readers of a tree answer, the program's and the reference's: the same; sameEntries.
-/
import Derived.Test.YtpoagdffpajdjaaRadSq
namespace Go.Proofs.Ytpoagdffpajdjaa
open Go.RowKit
set_option linter.unusedVariables false
set_option linter.unusedSimpArgs false

theorem getR_lk {h : Nat} {c : Cn} (ht : TreeOk h c) (i : Int) : getR c i = (lkP (ents 0 (4 ^ h) c) i).1 := by
  have hp : 4 ^ h ≤ 256 := show 4 ^ h ≤ 4 ^ 4 from Nat.pow_le_pow_right (by omega) ht.1
  rw [lkP_ents ht.2.1]
  unfold getR inB
  by_cases h0 : 0 ≤ i
  · by_cases h1 : i ≤ 255
    · simp [h0, h1]
    · have : c i.toNat = (0, 0) := ht.2.1 _ (by omega)
      simp [h0, h1, this]
  · simp [h0]
theorem andI_zero (m : Int) (h : oneB m = true) : andI 0 m = 0 := by
  unfold oneB at h
  simp only [decide_eq_true_eq] at h
  rcases h with rfl | rfl | rfl <;> decide +kernel
theorem markedR_lk {h : Nat} {c : Cn} (hl : leafy c) (ht : TreeOk h c) (i m : Int) : markedR c i m = rMarkedP (ents 0 (4 ^ h) c) i m := by
  have hp : 4 ^ h ≤ 256 := show 4 ^ h ≤ 4 ^ 4 from Nat.pow_le_pow_right (by omega) ht.1
  unfold rMarkedP markedR frR
  rw [lkP_ents ht.2.1]
  cases hm : oneB m with
  | false => by_cases h0 : 0 ≤ i <;> by_cases h1 : i ≤ 255 <;> simp [inB, h0, h1]
  | true =>
    by_cases h0 : 0 ≤ i
    · by_cases h1 : i ≤ 255
      · by_cases hv : (c i.toNat).1 ≤ 0
        · have : (c i.toNat).2 = 0 := by
            rcases hl i.toNat with e | ⟨e1, e2, e3, e4⟩
            · rw [e]
            · rcases e4 with e4 | e4
              · omega
              · exact e4
          simp [inB, h0, h1, hv, this, andI_zero m hm]
        · simp [inB, h0, h1, hv]
      · have : c i.toNat = (0, 0) := ht.2.1 _ (by omega)
        simp [inB, h0, h1, this, andI_zero m hm]
    · simp [inB, h0, andI_zero m hm]
/-- What the readers answer about a tree. -/
structure Beh (x : Value) (V : Bool) (l : List En) (w : World) : Prop where
  va : ∀ w', Below w.heap.size w w' → Calls Try.prog 15 #[x] w' (RetB V w')
  rva : ∀ w', Below w.heap.size w w' → Calls Try.prog 16 #[x] w' (RetB V w')
  get : ∀ i w', Below w.heap.size w w' → Calls Try.prog 17 #[x, .int .i64 i] w' (RetI (lkP l i).1 w')
  rget : ∀ i w', Below w.heap.size w w' → Calls Try.prog 18 #[x, .int .i64 i] w' (RetI (lkP l i).1 w')
  mkd : ∀ i m w', Below w.heap.size w w' → Calls Try.prog 19 #[x, .int .i64 i, .int .i64 m] w' (RetB (rMarkedP l i m) w')
  rmk : ∀ i m w', Below w.heap.size w w' → Calls Try.prog 20 #[x, .int .i64 i, .int .i64 m] w' (RetB (rMarkedP l i m) w')
  nx : ∀ i m w', Below w.heap.size w w' → Calls Try.prog 13 #[x, .int .i64 i, .int .i64 m] w' (RetNx l i m w')
  rnx : ∀ i m w', Below w.heap.size w w' → Calls Try.prog 14 #[x, .int .i64 i, .int .i64 m] w' (RetNx l i m w')
  ct : ∀ m w', Below w.heap.size w w' → Calls Try.prog 21 #[x, .int .i64 m] w' (RetI (countP l m) w')
  rct : ∀ m w', Below w.heap.size w w' → Calls Try.prog 22 #[x, .int .i64 m] w' (RetI (countP l m) w')
  en : ∀ w', Below w.heap.size w w' → Calls Try.prog 24 #[x] w' (RetE l w')
  ren : ∀ w', Below w.heap.size w w' → Calls Try.prog 25 #[x] w' (RetE l w')
  len : l.length ≤ 256
theorem Ents.step {x : Value} {l : List En} {w w' : World} (h : Ents x l w) (hb : Below w.heap.size w w') : Ents x l w' := fun w2 hb2 => h w2 (bl_step hb hb2)
theorem Beh.step {x : Value} {V : Bool} {l : List En} {w w' : World} (h : Beh x V l w) (hb : Below w.heap.size w w') : Beh x V l w' := by
  have k : ∀ {w2}, Below w'.heap.size w' w2 → Below w.heap.size w w2 := fun h2 => bl_step hb h2
  exact ⟨fun w2 h2 => h.va w2 (k h2), fun w2 h2 => h.rva w2 (k h2), fun i w2 h2 => h.get i w2 (k h2), fun i w2 h2 => h.rget i w2 (k h2), fun i m w2 h2 => h.mkd i m w2 (k h2), fun i m w2 h2 => h.rmk i m w2 (k h2), fun i m w2 h2 => h.nx i m w2 (k h2), fun i m w2 h2 => h.rnx i m w2 (k h2), fun m w2 h2 => h.ct m w2 (k h2), fun m w2 h2 => h.rct m w2 (k h2), fun w2 h2 => h.en w2 (k h2), fun w2 h2 => h.ren w2 (k h2), h.len⟩
theorem Beh.good {h : Nat} {c : Cn} {A : Option Addr} {cap : Nat} {S : Nat → Prop} {w : World} (hl : leafy c) (ht : TreeOk h c) (hcap : (cano h c).kids.length ≤ cap) (hk : NK w S A (cano h c).kids) :
    Beh (trV h A (cano h c).kids.length cap (cano h c).val (cano h c).marks) true (ents 0 (4 ^ h) c) w := by
  have hE := Ents.of_valid hl ht hcap hk
  have hp : 4 ^ h ≤ 256 := show 4 ^ h ≤ 4 ^ 4 from Nat.pow_le_pow_right (by omega) ht.1
  refine ⟨fun w' hb => ?_, fun w' hb => ?_, fun i w' hb => ?_, fun i w' hb => rGet_w _ _ _ _ _ _ _ w' (hE.step hb) i, fun i m w' hb => ?_, fun i m w' hb => rMarked_w _ _ _ _ _ _ _ w' (hE.step hb) i m, fun i m w' hb => rxNext_w h c A cap S i m w' hl ht hcap (hk.step hb), fun i m w' hb => rNext_w _ _ _ _ _ _ _ w' (hE.step hb) i m, fun m w' hb => count_w h c A cap S m w' hl ht hcap (hk.step hb), fun m w' hb => rCount_w _ _ _ _ _ _ _ w' (hE.step hb) m, fun w' hb => entries_w h c A cap S w' hl ht hcap (hk.step hb), hE, Nat.le_trans (ents_len _ _ _) hp⟩
  · have := valid_w h (cano h c) A cap S w' (cano_ml _ _) hcap (hk.step hb)
    rwa [valid_of hl ht] at this
  · have := rValid_w h (cano h c) A cap S w' (cano_ml _ _) hcap (hk.step hb)
    rwa [valid_of hl ht] at this
  · rw [← getR_lk ht]
    exact get_w h c A cap S i w' hl ht hcap (hk.step hb)
  · rw [← markedR_lk hl ht]
    exact marked_w h c A cap S i m w' hl ht hcap (hk.step hb)
theorem Beh.bad {hI : Int} {t : T} {A : Option Addr} {cap : Nat} {S : Nat → Prop} {w : World} (hm : t.kids.length ≤ maxLen) (hcap : t.kids.length ≤ cap) (hk : NK w S A t.kids) (hbad : validT hI t = false) :
    Beh (trV hI A t.kids.length cap t.val t.marks) false [] w := by
  have hE := Ents.of_bad hm hcap hk hbad
  refine ⟨fun w' hb => ?_, fun w' hb => ?_, fun i w' hb => get_bad hI t A cap S w' hm hcap (hk.step hb) hbad i, fun i w' hb => rGet_w _ _ _ _ _ _ _ w' (hE.step hb) i, fun i m w' hb => ?_, fun i m w' hb => rMarked_w _ _ _ _ _ _ _ w' (hE.step hb) i m, fun i m w' hb => next_bad hI t A cap S w' hm hcap (hk.step hb) hbad i m, fun i m w' hb => rNext_w _ _ _ _ _ _ _ w' (hE.step hb) i m, fun m w' hb => count_bad hI t A cap S w' hm hcap (hk.step hb) hbad m, fun m w' hb => rCount_w _ _ _ _ _ _ _ w' (hE.step hb) m, fun w' hb => (entries_bad hI t A cap S w' hm hcap (hk.step hb) hbad).mono ?_, hE, by simp⟩
  · have := valid_w hI t A cap S w' hm hcap (hk.step hb)
    rwa [hbad] at this
  · have := rValid_w hI t A cap S w' hm hcap (hk.step hb)
    rwa [hbad] at this
  · have e : rMarkedP [] i m = false := by
      unfold rMarkedP lkP
      cases h : oneB m
      · rfl
      · simp [andI_zero m h]
    rw [e]
    exact marked_bad hI t A cap S w' hm hcap (hk.step hb) hbad i m
  · rintro e w2 ⟨rfl, hb2⟩
    exact ⟨_, rfl, World.ownsRow_nil _ _ _ _, hb2⟩
theorem Beh.of {hI : Int} {t : T} {A : Option Addr} {cap : Nat} {S : Nat → Prop} {w : World} (hm : t.kids.length ≤ maxLen) (hcap : t.kids.length ≤ cap) (hk : NK w S A t.kids) :
    ∃ V l, Beh (trV hI A t.kids.length cap t.val t.marks) V l w := by
  cases hv : validT hI t with
  | false => exact ⟨_, _, Beh.bad hm hcap hk hv⟩
  | true =>
    obtain ⟨h, c, rfl, hl, ht, rfl⟩ := of_valid hv
    exact ⟨_, _, Beh.good hl ht hcap hk⟩
theorem sameEntries_w (l : List En) (u v : Value) (S : Nat → Prop) (w : World) (hu : EA w S u l) (hv : EA w S v l) (hl : l.length ≤ 256) : Calls Try.prog 23 #[u, v] w (RetB true w) := by
  obtain ⟨A, ca, rfl, a1, a2, ha⟩ := hu
  obtain ⟨A', ca', rfl, b1, b2, hb⟩ := hv
  go_enter Try.func23, Try.ntmps23
  go_wp2
  go_loopw [5] (fun s5 wx => ∃ i : Nat, s5 = .int .i64 i ∧ i ≤ l.length ∧ Below w.heap.size w wx) (fun s5 _ => l.length - (intOf s5).toNat)
  case atStart => exact ⟨0, rfl, by omega, Below.refl _ _⟩
  case round =>
    obtain ⟨i, rfl, hi, hB⟩ := hrel
    by_cases hlt : i < l.length
    · obtain ⟨⟨d, s, c⟩, hx⟩ : ∃ x, l[i]? = some x := ⟨_, List.getElem?_eq_getElem hlt⟩
      rcases ha with rfl | ⟨b, o, rfl, hbl, _, ha⟩
      · simp at hlt
      rcases hb with rfl | ⟨b', o', rfl, hbl', _, hb⟩
      · simp at hlt
      obtain ⟨p0, p1, p2⟩ := ha i d s c hx
      obtain ⟨q0, q1, q2⟩ := hb i d s c hx
      have p0 := (hB.cell hbl).trans p0
      have p1 := (hB.cell hbl).trans p1
      have p2 := (hB.cell hbl).trans p2
      have q0 := (hB.cell hbl').trans q0
      have q1 := (hB.cell hbl').trans q1
      have q2 := (hB.cell hbl').trans q2
      have h0 : (0 : Int) ≤ (i : Int) := by omega
      have hln : (i : Int) < (l.length : Int) := by omega
      go_wp2
      go_quiet (fail)
      go_wp2
      go_roundw
      case rel => exact ⟨i + 1, by go_num, by omega, below_drewN hB _⟩
      case measure => simp [intOf]; omega
    · obtain rfl : i = l.length := by omega
      go_wp2
      go_ret
      exact ⟨rfl, hB⟩
end Go.Proofs.Ytpoagdffpajdjaa
