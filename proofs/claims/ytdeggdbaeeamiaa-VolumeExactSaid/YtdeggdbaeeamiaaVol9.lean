/-
  dock's Round, the reference's Size, the comparison of equal lists of pieces, and the law's sanity check, by contracts.
-/
import Derived.Test.YtdeggdbaeeamiaaVol5
import Derived.Test.YtdeggdbaeeamiaaVol8
namespace Go.Proofs.Ytdeggdbaeeamiaa
open Go.RowKit
set_option linter.unusedVariables false
set_option linter.unusedSimpArgs false

theorem round_w (x n : Int) (w : World) (h1 : 1 ≤ n) (h2 : n ≤ 9223372036854775807) :
    Calls Try.prog 15 #[.int .i64 x, .int .i64 n] w fun e w' => e = .returned (.int .i64 (cutI x n)) ∧ w = w' := by
  go_enter Try.func15, Try.ntmps15
  go_wp2
  go_ret
  exact ⟨ret_int (cutI_eq x n h1 h2), rfl⟩
theorem round0_w (x n : Int) (w : World) (h1 : n < 1) :
    Calls Try.prog 15 #[.int .i64 x, .int .i64 n] w fun e w' => e = .returned (.int .i64 0) ∧ w = w' := by
  go_enter Try.func15, Try.ntmps15
  go_wp2
  go_ret
  exact ⟨rfl, rfl⟩

/-- The elements of a slice of pieces. -/
def PcR (w : World) (A : Option Addr) (l : List Pc) : Prop :=
  l = [] ∨ ∃ b, A = some ⟨b, 0, none⟩ ∧ b < w.heap.size ∧ ∀ i d s c f, l[i]? = some (d, s, c, f) →
    w.cell? ⟨b, i * 4, none⟩ = some (.int .i64 d) ∧ w.cell? ⟨b, i * 4 + 1, none⟩ = some (.int .i64 s) ∧ w.cell? ⟨b, i * 4 + 2, none⟩ = some (.int .i64 c) ∧ w.cell? ⟨b, i * 4 + 3, none⟩ = some (.int .i64 f)
theorem PcA.parts {w : World} {v : Value} {l : List Pc} (h : PcA w v l) : ∃ A cap, v = .slice A l.length cap ∧ l.length ≤ maxLen ∧ PcR w A l := h
theorem PcR.step {w w' : World} {A : Option Addr} {l : List Pc} (h : PcR w A l) (hb : Below w.heap.size w w') : PcR w' A l := by
  rcases h with h | ⟨b, h1, h2, h3⟩
  · exact .inl h
  · refine .inr ⟨b, h1, Nat.lt_of_lt_of_le h2 hb.size, fun i d s c f hi => ?_⟩
    obtain ⟨c0, c1, c2, c3⟩ := h3 i d s c f hi
    exact ⟨(hb.cell (p := ⟨b, _, none⟩) h2).trans c0, (hb.cell (p := ⟨b, _, none⟩) h2).trans c1, (hb.cell (p := ⟨b, _, none⟩) h2).trans c2, (hb.cell (p := ⟨b, _, none⟩) h2).trans c3⟩
theorem PcR.drewN {w : World} {A : Option Addr} {l : List Pc} (h : PcR w A l) (n : Nat) : PcR (w.drewN n) A l := h
theorem PcR.alloc {w : World} {A : Option Addr} {l : List Pc} (h : PcR w A l) (o : Obj) : PcR (w.alloc o) A l := h.step ((Below.refl _ _).alloc (Nat.le_refl _) _)
theorem PcR.at_ {w : World} {A : Option Addr} {l : List Pc} (h : PcR w A l) {i : Nat} (hi : i < l.length) : ∃ b d s c f, A = some ⟨b, 0, none⟩ ∧ b < w.heap.size ∧ l[i]? = some (d, s, c, f) ∧
    w.cell? ⟨b, i * 4, none⟩ = some (.int .i64 d) ∧ w.cell? ⟨b, i * 4 + 1, none⟩ = some (.int .i64 s) ∧ w.cell? ⟨b, i * 4 + 2, none⟩ = some (.int .i64 c) ∧ w.cell? ⟨b, i * 4 + 3, none⟩ = some (.int .i64 f) := by
  rcases h with h | ⟨b, h1, h2, h3⟩
  · subst h; simp at hi
  · have he : l[i]? = some l[i] := List.getElem?_eq_getElem hi
    obtain ⟨c0, c1, c2, c3⟩ := h3 i _ _ _ _ he
    exact ⟨b, _, _, _, _, h1, h2, he, c0, c1, c2, c3⟩

set_option maxHeartbeats 1000000 in
theorem samePieces_w (va vb : Value) (l : List Pc) (w : World) (ha : PcA w va l) (hb : PcA w vb l) : Calls Try.prog 22 #[va, vb] w (RetB true w) := by
  obtain ⟨A, ca, rfl, hm, hA⟩ := ha.parts
  obtain ⟨B, cb, rfl, _, hB⟩ := hb.parts
  unfold maxLen at hm
  have HA := Lib.hid hA
  have HB := Lib.hid hB
  clear ha hb hA hB
  go_enter Try.func22, Try.ntmps22
  go_wp2
  go_loopw [5] (fun s5 wx => ∃ k : Nat, k ≤ l.length ∧ s5 = .int .i64 k ∧ PcR wx A l ∧ PcR wx B l ∧ Below w.heap.size w wx) (fun s5 _ => l.length - (intOf s5).toNat)
  case atStart => exact ⟨0, by omega, rfl, HA.out, HB.out, Below.refl _ _⟩
  case round =>
    clear HA HB
    obtain ⟨k, hk, rfl, hA, hB, hW⟩ := hrel
    have HA := Lib.hid hA
    have HB := Lib.hid hB
    clear hA hB
    by_cases hlt : k < l.length
    · obtain ⟨b, d, s, c, f, rfl, lb, he, a0, a1, a2, a3⟩ := HA.out.at_ hlt
      obtain ⟨b', d', s', c', f', rfl, lb', he', b0, b1, b2, b3⟩ := HB.out.at_ hlt
      rw [he] at he'
      simp only [Option.some.injEq, Prod.mk.injEq] at he'
      obtain ⟨rfl, rfl, rfl, rfl⟩ := he'
      have z0 : (0 : Int) ≤ (k : Int) := by omega
      have z1 : (k : Int) < (l.length : Int) := by omega
      clear he
      go_upto_region 6 with fail
      go_quiet (fail)
      go_wp2
      go_roundw
      case rel => exact ⟨k + 1, by omega, by go_num, HA.out.drewN _, HB.out.drewN _, below_drewN hW _⟩
      case measure => simp [intOf]; omega
    · obtain rfl : k = l.length := by omega
      go_wp2
      go_ret
      exact ⟨rfl, hW⟩

set_option maxHeartbeats 1000000 in
theorem rSize_w (kd ch : Int) (A : Option Addr) (L : List Seg) (cap : Nat) (w : World) (h : PA w A L) (hl : L.length ≤ maxLen) :
    Calls Try.prog 12 #[volV kd ch A L.length cap] w (RetI (szB kd ch L) w) := by
  have hl' := hl
  unfold maxLen at hl'
  have cs := rsound_w kd ch A L cap _ (VS.new (kd := kd) (ch := ch) (cap := cap) h).2.1 hl
  cases hs : soundB kd ch L with
  | false =>
    have Hz := Lib.hid (show szB kd ch L = 0 by unfold szB; rw [hs]; rfl)
    rw [hs] at cs
    have HB := Lib.hid (VS.new (kd := kd) (ch := ch) (cap := cap) h).below
    clear hs h
    go_enter Try.func12, Try.ntmps12
    go_wp2_with (go_at_call 30; (with_reducible refine Calls.mono cs ?_); rintro e w1 ⟨rfl, hb1⟩)
    go_ret
    exact ⟨ret_int Hz.out.symm, bl_step HB.out hb1⟩
  | true =>
    obtain ⟨h1, h4, ha, _⟩ := sound_parts hs
    rw [hs] at cs
    have Hz := Lib.hid (show szB kd ch L = sizeV kd L by unfold szB; rw [hs]; rfl)
    have HV := Lib.hid (VS.new (kd := kd) (ch := ch) (cap := cap) h)
    have HA := Lib.hid ha
    clear hs h ha
    by_cases k3 : kd = 3
    · have e3 : (kd == 3) = true := by simp [k3]
      have Hs := Lib.hid (show sizeV kd L = (at0 L 0).2.2 by unfold sizeV; rw [if_pos k3])
      clear k3
      go_enter Try.func12, Try.ntmps12
      go_wp2_with (go_at_call 30; (with_reducible refine Calls.mono cs ?_); rintro e w1 ⟨rfl, hb1⟩; have HV1 := Lib.hid (HV.out.step hb1); obtain ⟨v0, v1, v2⟩ := HV1.out.cell; obtain ⟨b, o, d, s, c, rfl, hb, he, c0, c1, c2⟩ := HV1.out.pa.at_ (i := 0) (by omega); (simp only [Nat.zero_mul, Nat.add_zero] at c0 c1 c2); have Hc := Lib.hid (at0_some he); clear he)
      go_ret
      exact ⟨ret_int (by rw [Hz.out, Hs.out, Hc.out]), HV1.out.below⟩
    · have e3 : (kd == 3) = false := by simp [k3]
      have Hs := Lib.hid (show sizeV kd L = sumK L L.length by unfold sizeV; rw [if_neg k3])
      clear k3
      go_enter Try.func12, Try.ntmps12
      go_wp2_with (go_at_call 30; (with_reducible refine Calls.mono cs ?_); rintro e w1 ⟨rfl, hb1⟩; have HV1 := Lib.hid (HV.out.step hb1); obtain ⟨v0, v1, v2⟩ := HV1.out.cell)
      clear v0 v1 v2
      go_loopw [3, 4] (fun s3 s4 wx => ∃ k : Nat, k ≤ L.length ∧ s4 = .int .i64 k ∧ s3 = .int .i64 (sumK L k) ∧ VS w w.heap.size kd ch A L cap wx) (fun _ s4 _ => L.length - (intOf s4).toNat)
      case atStart => exact ⟨0, by omega, rfl, by rw [sumK_zero], HV1.out⟩
      case round =>
        clear HV HV1
        obtain ⟨k, hk, rfl, rfl, hV⟩ := hrel
        obtain ⟨u1, u2⟩ := sumK_range HA.out k hk
        obtain ⟨v0, v1, v2⟩ := hV.cell
        by_cases hlt : k < L.length
        · obtain ⟨b, o, d, s, c, rfl, hb, he, c0, c1, c2⟩ := hV.pa.at_ hlt
          obtain ⟨_, _, _, _, b1, b2⟩ := seg_t (seg_of_all HA.out he)
          simp only at b1 b2
          have Hn := Lib.hid (sumK_succ he)
          have HV2 := Lib.hid hV
          clear he hV
          go_wp2
          go_roundw
          case rel => exact ⟨k + 1, by omega, by go_num, by rw [Hn.out], HV2.out⟩
          case measure => simp [intOf]; omega
        · obtain rfl : k = L.length := by omega
          have HB := Lib.hid hV.below
          clear hV
          go_wp2
          go_ret
          exact ⟨ret_int (by rw [Hz.out, Hs.out]), HB.out⟩

end Go.Proofs.Ytdeggdbaeeamiaa
