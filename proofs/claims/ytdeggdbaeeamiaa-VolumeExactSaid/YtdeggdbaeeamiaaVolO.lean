/-
  The reference's at, by contract.
-/
import Derived.Test.YtdeggdbaeeamiaaVolN
namespace Go.Proofs.Ytdeggdbaeeamiaa
open Go.RowKit
set_option linter.unusedVariables false
set_option linter.unusedSimpArgs false

/-- Two numbers come back. -/
def Ret2 (a b : Int) (w : World) (e : Ending) (w' : World) : Prop := e = .returned (.tuple #[.int .i64 a, .int .i64 b]) ∧ Below w.heap.size w w'
/-- The place of a sector in part k. -/
def atP (kd ch : Int) (L : List Seg) (s : Int) (k : Nat) : Nat × Int := if kd = 3 then (k, (at0 L k).2.1 + s) else ((plc kd ch L s).1, (plc kd ch L s).2.1)

set_option maxRecDepth 100000 in
set_option maxHeartbeats 4000000 in
theorem at2_w (ch : Int) (A : Option Addr) (L : List Seg) (cap : Nat) (s : Int) (kk : Nat) (w : World) (h : PA w A L) (h1 : 1 ≤ L.length) (h4 : L.length ≤ 4) (hs : L.all segB = true) (hch : 1 ≤ ch) (hc2 : ch ≤ 128) (s0 : 0 ≤ s) (s1 : s < 1000) :
    Calls Try.prog 32 #[volV 2 ch A L.length cap, .int .i64 s, .int .i64 kk] w (Ret2 (atP 2 ch L s kk).1 (atP 2 ch L s kk).2 w) := by
  obtain ⟨q, hq⟩ : ∃ q, s / ch = q := ⟨_, rfl⟩
  have q0 : 0 ≤ q := by rw [← hq]; exact Int.ediv_nonneg s0 (by omega)
  have q1 : q ≤ s := by rw [← hq]; exact Int.ediv_le_self _ s0
  obtain ⟨m, hm⟩ : ∃ m, s % ch = m := ⟨_, rfl⟩
  have m0 : 0 ≤ m := by rw [← hm]; exact Int.emod_nonneg _ (by omega)
  have m1 : m < ch := by rw [← hm]; exact Int.emod_lt_of_pos _ (by omega)
  obtain ⟨r, hr⟩ : ∃ r, q / (L.length : Int) = r := ⟨_, rfl⟩
  have r0 : 0 ≤ r := by rw [← hr]; exact Int.ediv_nonneg q0 (by omega)
  have r1 : r ≤ q := by rw [← hr]; exact Int.ediv_le_self _ q0
  obtain ⟨j, hj⟩ : ∃ j : Nat, q % (L.length : Int) = (j : Int) := Int.eq_ofNat_of_zero_le (Int.emod_nonneg _ (by omega))
  have j1 : j < L.length := by have := Int.emod_lt_of_pos q (show (0 : Int) < L.length by omega); omega
  have rc : 0 ≤ r * ch ∧ r * ch ≤ 128000 := ⟨Int.mul_nonneg r0 (by omega), by
    have h1 : r * ch ≤ r * 128 := Int.mul_le_mul_of_nonneg_left hc2 r0
    omega⟩
  obtain ⟨b, o, d, st, c, rfl, hb, he, c0, c1, c2⟩ := h.at_ j1
  obtain ⟨a1, a2, a3, a4, a5, a6⟩ := seg_t (seg_of_all hs he)
  simp only at a1 a2 a3 a4 a5 a6
  have Hp := Lib.hid (show atP 2 ch L s kk = (j, st + r * ch + m) by
    unfold atP plc
    rw [if_neg (by omega), if_pos rfl, hq, hj, hr, hm, Int.toNat_natCast, at0_some he])
  have HV := Lib.hid (VS.new (kd := 2) (ch := ch) (cap := cap) h)
  have e1 : s.tdiv ch = q := by rw [Int.tdiv_eq_ediv_of_nonneg s0]; exact hq
  have e2 : s.tmod ch = m := by rw [Int.tmod_eq_emod_of_nonneg s0]; exact hm
  have e3 : q.tdiv (L.length : Int) = r := by rw [Int.tdiv_eq_ediv_of_nonneg q0]; exact hr
  have e4 : q.tmod (L.length : Int) = (j : Int) := by rw [Int.tmod_eq_emod_of_nonneg q0]; exact hj
  obtain ⟨rc', hrc⟩ : ∃ x, r * ch = x := ⟨_, rfl⟩
  rw [hrc] at rc Hp
  have lw : ∀ o' : Obj, (w.alloc o').cell? ⟨b, o + j * 3 + 1, none⟩ = some (.int .i64 st) := fun o' => (World.cell?_alloc_lt w o' ⟨b, _, none⟩ hb).trans c1
  have z1 : (ch == 0) = false := by simp; omega
  have z2 : ((L.length : Int) == 0) = false := beq_eq_false_iff_ne.2 (by omega)
  have z3 : (0 : Int) ≤ (j : Int) := by omega
  have z4 : (j : Int) < (L.length : Int) := by omega
  have w1 := w64 (x := q) (by omega)
  have w2 := w64 (x := r) (by omega)
  have w3 := w64 (x := rc') (by omega)
  have w4 := w64 (x := st + rc') (by omega)
  have w5 := w64 (x := st + rc' + m) (by omega)
  have w7 := w64 (x := m) (by omega)
  have w8 := w64 (x := (j : Int)) (by omega)
  clear he hq hm hr hj c0 c1 c2 hs h
  go_enter Try.func32, Try.ntmps32
  go_wp2
  go_quiet (fail)
  go_wp2
  go_quiet (fail)
  go_wp2
  go_ret2
  exact ⟨by rw [Hp.out]; rfl, ((HV.out.drewN _).drewN _).below⟩

set_option maxRecDepth 100000 in
set_option maxHeartbeats 4000000 in
theorem at1_w (ch : Int) (A : Option Addr) (L : List Seg) (cap : Nat) (s : Int) (kk : Nat) (w : World) (h : PA w A L) (h4 : L.length ≤ 4) (hs : L.all segB = true) (s0 : 0 ≤ s) (s1 : s < sumK L L.length) :
    Calls Try.prog 32 #[volV 1 ch A L.length cap, .int .i64 s, .int .i64 kk] w (Ret2 (atP 1 ch L s kk).1 (atP 1 ch L s kk).2 w) := by
  have hpos : ∀ x ∈ L, 1 ≤ x.2.2 := fun x hx => by obtain ⟨_, _, _, _, a, _⟩ := seg_t (List.all_eq_true.1 hs x hx); exact a
  obtain ⟨j, hj, hl, l0, l1⟩ := linP_drop L s 0 s0 s1 hpos
  rw [Nat.zero_add] at hl
  have Hp := Lib.hid (show atP 1 ch L s kk = (j, (at0 L j).2.1 + (s - sumK L j)) by
    unfold atP plc
    rw [if_neg (by omega), if_neg (by omega), hl])
  have hbd := sumK_range hs L.length (Nat.le_refl _)
  have HS := Lib.hid hs
  have HV := Lib.hid (VS.new (kd := 1) (ch := ch) (cap := cap) h)
  obtain ⟨b, o, _, _, _, rfl, hb, _⟩ := h.at_ hj
  have hV := HV.out
  obtain ⟨v0, v1, v2⟩ := hV.cell
  have hlow : ∀ i, i < j → sumK L (i + 1) ≤ s := by
    intro i hi
    have := sumK_mono hpos (j - (i + 1)) (i + 1) (by omega)
    rw [show i + 1 + (j - (i + 1)) = j from by omega] at this
    omega
  have Hlow := Lib.hid hlow
  clear hl hs h hV hlow hpos
  go_enter Try.func32, Try.ntmps32
  go_wp2
  go_loop [1, 8] (fun s1 s8 => ∃ (i : Nat) (t : Int), i ≤ j ∧ s1 = .int .i64 t ∧ s8 = .int .i64 i ∧ t = s - sumK L i) (fun _ s8 => j - (intOf s8).toNat)
  case atStart => exact ⟨0, s, by omega, rfl, rfl, by rw [sumK_zero]; omega⟩
  case round =>
    obtain ⟨i, t, hi, rfl, rfl, ht⟩ := hrel
    obtain ⟨d, st, c, hb', he, c0, c1, c2⟩ := HV.out.pa.get (show i < L.length by omega)
    obtain ⟨a1, a2, a3, a4, a5, a6⟩ := seg_t (seg_of_all HS.out he)
    simp only at a1 a2 a3 a4 a5 a6
    have hi' := sumK_range HS.out i (by omega)
    have z3 : (0 : Int) ≤ (i : Int) := by omega
    have z4 : (i : Int) < (L.length : Int) := by omega
    by_cases hlt : i < j
    · have hn := Hlow.out i hlt
      have hsu : sumK L (i + 1) = sumK L i + c := sumK_succ he
      have Ht := Lib.hid (show t - c = s - sumK L (i + 1) by rw [hsu, ht]; omega)
      have t0 : c ≤ t := by rw [hsu] at hn; omega
      have t1 : t ≤ 1000000 := by omega
      have w4 := w64 (x := t - c) (by omega)
      clear ht hsu hn he
      go_wp2
      go_round
      case rel => exact ⟨i + 1, t - c, by omega, by first | rfl | go_num, by go_num, Ht.out⟩
      case measure => simp [intOf]; omega
    · obtain rfl : i = j := by omega
      have ha := at0_some he
      have Hq := Lib.hid (show atP 1 ch L s kk = (i, st + t) by rw [Hp.out, ha, ht])
      rw [ha] at l1
      have t0 : t < c := by rw [ht]; exact l1
      have t1 : 0 ≤ t := by rw [ht]; exact l0
      clear ht he ha l0 l1
      have w4 := w64 (x := st + t) (by omega)
      go_wp2
      go_quiet (fail)
      go_wp2
      go_ret2
      exact ⟨by rw [Hq.out]; rfl, (HV.out.drewN _).below⟩

set_option maxRecDepth 100000 in
set_option maxHeartbeats 4000000 in
theorem at3_w (ch : Int) (A : Option Addr) (L : List Seg) (cap : Nat) (s : Int) (kk : Nat) (w : World) (h : PA w A L) (h4 : L.length ≤ 4) (hk : kk < L.length) (hs : L.all segB = true) (s0 : 0 ≤ s) (s1 : s < 1000) :
    Calls Try.prog 32 #[volV 3 ch A L.length cap, .int .i64 s, .int .i64 kk] w (Ret2 (atP 3 ch L s kk).1 (atP 3 ch L s kk).2 w) := by
  have HV := Lib.hid (VS.new (kd := 3) (ch := ch) (cap := cap) h)
  obtain ⟨v0, v1, v2⟩ := HV.out.cell
  obtain ⟨b, o, d, st, c, rfl, hb, he, c0, c1, c2⟩ := HV.out.pa.at_ hk
  obtain ⟨a1, a2, a3, a4, a5, a6⟩ := seg_t (seg_of_all hs he)
  simp only at a1 a2 a3 a4 a5 a6
  have Hp := Lib.hid (show atP 3 ch L s kk = (kk, st + s) by
    unfold atP
    rw [if_pos rfl, at0_some he])
  have w4 := w64 (x := st + s) (by omega)
  have z3 : (0 : Int) ≤ (kk : Int) := by omega
  have z4 : (kk : Int) < (L.length : Int) := by omega
  clear he hs h
  go_enter Try.func32, Try.ntmps32
  go_wp2
  go_quiet (fail)
  go_wp2
  go_ret2
  exact ⟨by rw [Hp.out]; rfl, (HV.out.drewN _).below⟩

theorem at_w (kd ch : Int) (A : Option Addr) (L : List Seg) (cap : Nat) (s : Int) (kk : Nat) (w : World) (h : PA w A L) (hs : soundB kd ch L = true) (hk : kk < L.length) (s0 : 0 ≤ s) (s1 : s < sizeV kd L) :
    Calls Try.prog 32 #[volV kd ch A L.length cap, .int .i64 s, .int .i64 kk] w (Ret2 (atP kd ch L s kk).1 (atP kd ch L s kk).2 w) := by
  obtain ⟨h1, h4, ha, _, _, hz⟩ := sound_parts hs
  obtain ⟨hkd, hch⟩ := kind_cases hs
  rcases hkd with rfl | rfl | rfl
  · exact at1_w ch A L cap s kk w h h4 ha s0 s1
  · obtain ⟨a, b, _⟩ := hch rfl
    exact at2_w ch A L cap s kk w h h1 h4 ha a b s0 (by omega)
  · exact at3_w ch A L cap s kk w h h4 hk ha s0 (by omega)

end Go.Proofs.Ytdeggdbaeeamiaa
