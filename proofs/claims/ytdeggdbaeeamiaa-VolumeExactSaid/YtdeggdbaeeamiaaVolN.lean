/-
  Numbers in memory; volume's Valid and the reference's Volume by contracts.
-/
import Derived.Test.YtdeggdbaeeamiaaVolM
namespace Go.Proofs.Ytdeggdbaeeamiaa
open Go.RowKit
set_option linter.unusedVariables false
set_option linter.unusedSimpArgs false

/-- Numbers lie in memory. -/
def ZA (w : World) (A : Option Addr) (zs : List Int) : Prop :=
  zs = [] ∨ ∃ b o, A = some ⟨b, o, none⟩ ∧ b < w.heap.size ∧ ∀ i z, zs[i]? = some z → w.cell? ⟨b, o + i, none⟩ = some (.int .i64 z)
theorem ZA.step {w w' : World} {A : Option Addr} {zs : List Int} (h : ZA w A zs) (hb : Below w.heap.size w w') : ZA w' A zs := by
  rcases h with h | ⟨b, o, h1, h2, h3⟩
  · exact .inl h
  · exact .inr ⟨b, o, h1, Nat.lt_of_lt_of_le h2 hb.size, fun i z hi => (hb.cell (p := ⟨b, _, none⟩) h2).trans (h3 i z hi)⟩
theorem ZA.alloc {w : World} {A : Option Addr} {zs : List Int} (h : ZA w A zs) (o : Obj) : ZA (w.alloc o) A zs := h.step ((Below.refl _ _).alloc (Nat.le_refl _) _)
theorem ZA.drewN {w : World} {A : Option Addr} {zs : List Int} (h : ZA w A zs) (n : Nat) : ZA (w.drewN n) A zs := h
theorem ZA.at_ {w : World} {A : Option Addr} {zs : List Int} (h : ZA w A zs) {i : Nat} (hi : i < zs.length) : ∃ b o z, A = some ⟨b, o, none⟩ ∧ b < w.heap.size ∧ zs[i]? = some z ∧ w.cell? ⟨b, o + i, none⟩ = some (.int .i64 z) := by
  rcases h with h | ⟨b, o, h1, h2, h3⟩
  · subst h; simp at hi
  · have he : zs[i]? = some zs[i] := List.getElem?_eq_getElem hi
    exact ⟨b, o, _, h1, h2, he, h3 i _ he⟩
/-- A part does not lie within the drives. -/
def badZ (zs : List Int) (x : Seg) : Bool := decide ((zs.length : Int) ≤ x.1) || decide (zs.getD x.1.toNat 0 < x.2.1 + x.2.2)
def validB (kd ch : Int) (L : List Seg) (zs : List Int) : Bool := soundB kd ch L && !(L.any (badZ zs))

set_option maxHeartbeats 1000000 in
theorem valid1_w (x : Seg) (A : Option Addr) (zs : List Int) (cap : Nat) (Z : Nat) (w : World) (hx : segB x = true) (hz : w.heap[Z]? = some (.cells #[.slice A zs.length cap] 43 (0, 0))) (h : ZA w A zs) (hl : zs.length ≤ maxLen) :
    Calls Try.prog 34 #[segV x, .pointer (some ⟨Z, 0, none⟩)] w (RetB (badZ zs x) w) := by
  obtain ⟨d, s, c⟩ := x
  obtain ⟨x0, x1, x2, x3, x4, x5⟩ := seg_t hx
  simp only at x0 x1 x2 x3 x4 x5
  have z0 := cells_at hz 0
  have lz := bk_lt hz
  simp only [List.getElem?_toArray, List.getElem?_cons_zero] at z0
  have lw : ∀ o' : Obj, (w.alloc o').cell? ⟨Z, 0, none⟩ = some (.slice A zs.length cap) := fun o' => (World.cell?_alloc_lt w o' ⟨Z, _, none⟩ lz).trans z0
  have w1 := w64 (x := s + c) (by omega)
  unfold maxLen at hl
  have HB := Lib.hid (fun o' : Obj => ((Below.refl w.heap.size w).alloc (Nat.le_refl _) o'))
  by_cases hd : (zs.length : Int) ≤ d
  · have Hr := Lib.hid (show badZ zs (d, s, c) = true by simp [badZ, hd])
    have hd1 : decide ((zs.length : Int) ≤ d) = true := decide_eq_true hd
    clear hz z0 h hx
    go_enter Try.func34, Try.ntmps34
    go_wp2
    go_quiet (fail)
    go_wp2
    go_ret
    exact ⟨ret_bool Hr.out.symm, below_drewN (HB.out _) _⟩
  · obtain ⟨k, rfl⟩ := Int.eq_ofNat_of_zero_le x0
    have hk : k < zs.length := by omega
    obtain ⟨b, o, z, rfl, lb, he, hc⟩ := h.at_ hk
    have lc : ∀ o' : Obj, (w.alloc o').cell? ⟨b, o + k, none⟩ = some (.int .i64 z) := fun o' => (World.cell?_alloc_lt w o' ⟨b, _, none⟩ lb).trans hc
    have Hr := Lib.hid (show badZ zs ((k : Int), s, c) = (decide (zs.length ≤ k) || decide (z < s + c)) by simp [badZ, he, List.getD])
    have hd1 : decide ((zs.length : Int) ≤ (k : Int)) = false := decide_eq_false hd
    have k0 : (0 : Int) ≤ (k : Int) := by omega
    have k1 : (k : Int) < (zs.length : Int) := by omega
    clear hz z0 h hx he hc
    go_enter Try.func34, Try.ntmps34
    go_wp2
    go_quiet (fail)
    go_wp2
    go_ret
    exact ⟨ret_bool Hr.out.symm, below_drewN (HB.out _) _⟩

set_option maxHeartbeats 1000000 in
theorem valid_w (kd ch : Int) (A : Option Addr) (L : List Seg) (cap : Nat) (B : Option Addr) (zs : List Int) (capz : Nat) (w : World) (h : PA w A L) (hl : L.length ≤ maxLen) (hc : L.length ≤ cap) (hz : ZA w B zs) (hzl : zs.length ≤ maxLen) :
    Calls Try.prog 20 #[volV kd ch A L.length cap, .slice B zs.length capz] w (RetB (validB kd ch L zs) w) := by
  have cs := fun w' (hp : PA w' A L) => sound_w kd ch A L cap w' hp hl hc
  have HV := Lib.hid (VS.new (kd := kd) (ch := ch) (cap := cap) h)
  have HZ := Lib.hid hz
  have cont := fun w' (hp : PA w' A L) (hs : L.all segB = true) (hq : ∃ Z, Z = w.heap.size + 1 ∧ w'.heap[Z]? = some (.cells #[.slice B zs.length capz] 43 (0, 0))) (hb : Below w.heap.size w w') => contains2_w (badZ zs) (.pointer (some ⟨w.heap.size + 1, 0, none⟩)) A L cap w' hp hl (fun x hx w2 hb2 => by
    obtain ⟨Z, rfl, hq⟩ := hq
    exact valid1_w x B zs capz _ w2 (List.all_eq_true.1 hs x hx) (bk_step hq hb2) ((hz.step hb).step hb2) hzl)
  clear h hz
  cases hs : soundB kd ch L with
  | false =>
    rw [hs] at cs
    have Hr := Lib.hid (show validB kd ch L zs = false by unfold validB; rw [hs]; rfl)
    clear hs cont
    go_enter Try.func20, Try.ntmps20
    go_wp2_with (go_at_call 28; (with_reducible refine Calls.mono (cs _ (HV.out.alloc _).pa) ?_); rintro e w1 ⟨rfl, hb1⟩)
    go_ret
    exact ⟨ret_bool Hr.out.symm, bl_step (HV.out.alloc _).below hb1⟩
  | true =>
    rw [hs] at cs
    have Hr := Lib.hid (show validB kd ch L zs = !(L.any (badZ zs)) by unfold validB; rw [hs]; rfl)
    have hall := (sound_parts hs).2.2.1
    generalize L.any (badZ zs) = r at cont Hr
    have Hall := Lib.hid hall
    clear hs hall
    go_enter Try.func20, Try.ntmps20
    go_wp2_with (first
      | (go_at_call 28; (with_reducible refine Calls.mono (cs _ (HV.out.alloc _).pa) ?_); rintro e w1 ⟨rfl, hb1⟩; have HV1 := Lib.hid ((HV.out.alloc _).step hb1); have HQ := Lib.hid (bk_step (heap_alloc_at _ _) hb1); obtain ⟨v0, v1, v2⟩ := HV1.out.cell)
      | (go_at_call 33; (with_reducible refine Calls.mono (cont _ HV1.out.pa Hall.out ⟨_, rfl, by simpa using HQ.out⟩ HV1.out.below) ?_); rintro e w2 ⟨rfl, hb2⟩))
    go_ret
    exact ⟨ret_bool Hr.out.symm, bl_step HV1.out.below hb2⟩

set_option maxHeartbeats 2000000 in
theorem rVolume_w (kd ch : Int) (A : Option Addr) (L : List Seg) (cap : Nat) (B : Option Addr) (zs : List Int) (capz : Nat) (w : World) (h : PA w A L) (hl : L.length ≤ maxLen) (hz : ZA w B zs) (hzl : zs.length ≤ maxLen) :
    Calls Try.prog 21 #[volV kd ch A L.length cap, .slice B zs.length capz] w (RetB (validB kd ch L zs) w) := by
  have cs := fun w' (hp : PA w' A L) => rsound_w kd ch A L cap w' hp hl
  have HV := Lib.hid (VS.new (kd := kd) (ch := ch) (cap := cap) h)
  have HZ := Lib.hid hz
  unfold maxLen at hl hzl
  clear h hz
  cases hs : soundB kd ch L with
  | false =>
    rw [hs] at cs
    have Hr := Lib.hid (show validB kd ch L zs = false by unfold validB; rw [hs]; rfl)
    clear hs
    go_enter Try.func21, Try.ntmps21
    go_wp2_with (go_at_call 30; (with_reducible refine Calls.mono (cs _ HV.out.pa) ?_); rintro e w1 ⟨rfl, hb1⟩)
    go_ret
    exact ⟨ret_bool Hr.out.symm, bl_step HV.out.below hb1⟩
  | true =>
    rw [hs] at cs
    have Hr := Lib.hid (show validB kd ch L zs = !(L.any (badZ zs)) by unfold validB; rw [hs]; rfl)
    have hall := (sound_parts hs).2.2.1
    have Hall := Lib.hid hall
    clear hs hall
    go_enter Try.func21, Try.ntmps21
    go_wp2_with (go_at_call 30; (with_reducible refine Calls.mono (cs _ HV.out.pa) ?_); rintro e w1 ⟨rfl, hb1⟩; have HV1 := Lib.hid (HV.out.step hb1))
    go_loopw [5] (fun s5 wx => ∃ k : Nat, k ≤ L.length ∧ s5 = .int .i64 k ∧ (∀ (j : Nat) (x : Seg), j < k → L[j]? = some x → badZ zs x = false) ∧ VS w w.heap.size kd ch A L cap wx) (fun s5 _ => L.length - (intOf s5).toNat)
    case atStart => exact ⟨0, by omega, rfl, fun j x hj => by omega, HV1.out⟩
    case round =>
      clear HV HV1
      obtain ⟨k, hk, rfl, hno, hV⟩ := hrel
      have HV := Lib.hid hV
      have Hno := Lib.hid hno
      obtain ⟨v0, v1, v2⟩ := hV.cell
      clear hV hno
      by_cases hlt : k < L.length
      · obtain ⟨b, o, d, s, c, rfl, lb, he, c0, c1, c2⟩ := HV.out.pa.at_ hlt
        obtain ⟨x0, x1, x2, x3, x4, x5⟩ := seg_t (seg_of_all Hall.out he)
        simp only at x0 x1 x2 x3 x4 x5
        have w1 := w64 (x := s + c) (by omega)
        have i0 : (0 : Int) ≤ (k : Int) := by omega
        have i1 : (k : Int) < (L.length : Int) := by omega
        have He := Lib.hid he
        clear he
        by_cases hd : (zs.length : Int) ≤ d
        · have Hb := Lib.hid (show L.any (badZ zs) = true from List.any_eq_true.2 ⟨_, List.mem_of_getElem? He.out, by simp [badZ, hd]⟩)
          have hd1 : decide ((zs.length : Int) ≤ d) = true := decide_eq_true hd
          go_upto_region 7 with fail
          go_quiet (fail)
          go_wp2
          go_ret
          exact ⟨ret_bool (by rw [Hr.out, Hb.out]; rfl), ((HV.out.alloc _).drewN _).below⟩
        · obtain ⟨m, rfl⟩ := Int.eq_ofNat_of_zero_le x0
          have hm : m < zs.length := by omega
          obtain ⟨bz, oz, z, rfl, lbz, hez, hcz⟩ := (HZ.out.step HV.out.below).at_ hm
          have lc : ∀ o' : Obj, (wr.alloc o').cell? ⟨bz, oz + m, none⟩ = some (.int .i64 z) := fun o' => (World.cell?_alloc_lt wr o' ⟨bz, _, none⟩ lbz).trans hcz
          have Hbz := Lib.hid (show badZ zs ((m : Int), s, c) = (decide ((zs.length : Int) ≤ (m : Int)) || decide (z < s + c)) by simp [badZ, hez, List.getD])
          have hd1 : decide ((zs.length : Int) ≤ (m : Int)) = false := decide_eq_false hd
          have k0 : (0 : Int) ≤ (m : Int) := by omega
          have k1 : (m : Int) < (zs.length : Int) := by omega
          clear hcz hez
          by_cases hg : z < s + c
          · have Hb := Lib.hid (show L.any (badZ zs) = true from List.any_eq_true.2 ⟨_, List.mem_of_getElem? He.out, by rw [Hbz.out]; simp [hg]⟩)
            have hg1 : decide (z < s + c) = true := decide_eq_true hg
            go_upto_region 7 with fail
            go_quiet (fail)
            go_wp2
            go_ret
            exact ⟨ret_bool (by rw [Hr.out, Hb.out]; rfl), ((HV.out.alloc _).drewN _).below⟩
          · have Hb := Lib.hid (show badZ zs ((m : Int), s, c) = false by rw [Hbz.out, hd1]; simp [hg])
            have hg1 : decide (z < s + c) = false := decide_eq_false hg
            go_upto_region 7 with fail
            go_quiet (fail)
            go_wp2
            go_roundw
            case rel => exact ⟨k + 1, by omega, by go_num, fun j x hj hx => by
              by_cases hjk : j < k
              · exact Hno.out j x hjk hx
              · obtain rfl : j = k := by omega
                rw [He.out] at hx
                injection hx with hx
                rw [← hx]; exact Hb.out, (HV.out.alloc _).drewN _⟩
            case measure => simp [intOf]; omega
      · have Hb := Lib.hid (show L.any (badZ zs) = false from List.any_eq_false.2 fun x hx => by
          obtain ⟨j, hj⟩ := List.getElem?_of_mem hx
          rw [Hno.out j x (by have := (List.getElem?_eq_some_iff.1 hj).1; omega) hj]
          simp)
        go_wp2
        go_ret
        exact ⟨ret_bool (by rw [Hr.out, Hb.out]; rfl), HV.out.below⟩

end Go.Proofs.Ytdeggdbaeeamiaa
