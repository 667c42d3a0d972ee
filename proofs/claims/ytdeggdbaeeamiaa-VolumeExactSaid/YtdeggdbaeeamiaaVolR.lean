/-
  The reference's Find, by contract.
-/
import Derived.Test.YtdeggdbaeeamiaaVolP
namespace Go.Proofs.Ytdeggdbaeeamiaa
open Go.RowKit
set_option linter.unusedVariables false
set_option linter.unusedSimpArgs false

theorem mirP_hit (d s x : Int) : ∀ (L : List Seg) (k : Nat), hitB d s (mirP x 1 (-1) L k) = L.any (fun p => p.1 == d && p.2.1 + x == s)
  | [], _ => rfl
  | p :: l, k => by
    have := mirP_hit d s x l (k + 1)
    unfold hitB at this ⊢
    simp only [mirP, List.any_cons, List.any_append, this, or_true, if_true, List.any_nil, Bool.or_false]
theorem any_at0 (L : List Seg) (f : Seg → Bool) : (List.range L.length).any (fun k => f (at0 L k)) = L.any f := by
  rw [Bool.eq_iff_iff, List.any_eq_true, List.any_eq_true]
  constructor
  · rintro ⟨k, hk, hf⟩
    have hk' : k < L.length := by simpa using hk
    rw [at0_some (List.getElem?_eq_getElem hk')] at hf
    exact ⟨_, List.getElem_mem hk', hf⟩
  · rintro ⟨p, hp, hf⟩
    obtain ⟨k, hk⟩ := List.getElem?_of_mem hp
    exact ⟨k, by simpa using (List.getElem?_eq_some_iff.1 hk).1, by rw [at0_some hk]; exact hf⟩
/-- Whether part k has the place. -/
def hitK (kd ch : Int) (L : List Seg) (d s x : Int) (k : Nat) : Bool := (at0 L (atP kd ch L x k).1).1 == d && (atP kd ch L x k).2 == s
theorem hit_at {kd ch : Int} {L : List Seg} {d s x : Int} (hs : soundB kd ch L = true) (x0 : 0 ≤ x) (x1 : x < sizeV kd L) : hitB d s (mapP kd ch L x 1 (-1)) = (List.range L.length).any (hitK kd ch L d s x) := by
  have hsz : szB kd ch L = sizeV kd L := by unfold szB; rw [if_pos hs]
  have hok := ok_mk (kd := kd) (ch := ch) (L := L) (s := x) (c := 1) (by omega) x0 (by omega) (by omega)
  unfold mapP
  rw [hok, if_pos rfl]
  by_cases hk : kd = 3
  · rw [if_pos hk, mirP_hit, ← any_at0 L (fun p => p.1 == d && p.2.1 + x == s)]
    congr 1
    funext k
    unfold hitK atP
    rw [if_pos hk]
  · rw [if_neg hk, runP_first hs hk x0 x1 _ (by omega)]
    have h1 := (sound_parts hs).1
    unfold hitB
    simp only [List.any_cons, List.any_nil, Bool.or_false]
    have hc : ∀ k, hitK kd ch L d s x k = ((onePc kd ch L x 0).1 == d && (onePc kd ch L x 0).2.1 == s) := fun k => by
      unfold hitK atP onePc
      rw [if_neg hk, Int.add_zero]
    rw [Bool.eq_iff_iff, List.any_eq_true]
    constructor
    · intro h
      exact ⟨0, List.mem_range.2 (by omega), by rw [hc]; exact h⟩
    · rintro ⟨k, _, h⟩
      rw [hc] at h
      exact h
theorem atP_lt {kd ch : Int} {L : List Seg} {x : Int} {k : Nat} (hs : soundB kd ch L = true) (x0 : 0 ≤ x) (x1 : x < sizeV kd L) (hk : k < L.length) : (atP kd ch L x k).1 < L.length := by
  unfold atP
  by_cases h3 : kd = 3
  · rw [if_pos h3]; exact hk
  · rw [if_neg h3]; exact (plc_range hs h3 x0 x1).1

set_option maxRecDepth 100000 in
set_option maxHeartbeats 2000000 in
theorem rFind_w (kd ch : Int) (A : Option Addr) (L : List Seg) (cap : Nat) (d s : Int) (w : World) (h : PA w A L) (hl : L.length ≤ maxLen) :
    Calls Try.prog 19 #[volV kd ch A L.length cap, .int .i64 d, .int .i64 s] w (RetF (findP kd ch L d s) w) := by
  have HV := Lib.hid (VS.new (kd := kd) (ch := ch) (cap := cap) h)
  have hsz := fun w' (hp : PA w' A L) => rSize_w kd ch A L cap w' hp hl
  have ⟨z0, z1⟩ := szB_range kd ch L
  obtain ⟨n, hn⟩ := Int.eq_ofNat_of_zero_le z0
  have HF := Lib.hid (show findP kd ch L d s = findG kd ch L d s n 0 by unfold findP; rw [hn, Int.toNat_natCast])
  simp only [hn] at hsz
  have Hn := Lib.hid hn
  rw [hn] at z1
  unfold maxLen at hl
  clear h hn z0
  go_enter Try.func19, Try.ntmps19
  go_wp2
  go_loopw [8] (fun s8 wx => ∃ x : Nat, x ≤ n ∧ s8 = .int .i64 x ∧ (∀ y, 0 ≤ y → y < 0 + x → hitB d s (mapP kd ch L (y : Nat) 1 (-1)) = false) ∧ VS w w.heap.size kd ch A L cap wx) (fun s8 _ => n - (intOf s8).toNat)
  case atStart => exact ⟨0, by omega, rfl, fun y _ hy => by omega, HV.out⟩
  case round =>
    clear HV
    obtain ⟨x, hx, rfl, hno, hV⟩ := hrel
    have HV := Lib.hid hV
    have Hno := Lib.hid hno
    obtain ⟨v0, v1, v2⟩ := hV.cell
    clear hV hno
    by_cases hlt : x < n
    · have hs : soundB kd ch L = true := by
        cases h : soundB kd ch L with
        | true => rfl
        | false =>
          have := Hn.out
          unfold szB at this
          rw [h] at this
          simp at this; omega
      have hzv : szB kd ch L = sizeV kd L := by unfold szB; rw [if_pos hs]
      have hx1 : (x : Int) < sizeV kd L := by rw [← hzv, Hn.out]; omega
      have Hs := Lib.hid hs
      have Hhit := Lib.hid (hit_at (d := d) (s := s) (x := (x : Int)) hs (by omega) hx1)
      have Hlt := Lib.hid (fun k (hk : k < L.length) => atP_lt (x := (x : Int)) hs (by omega) hx1 hk)
      have hat := fun k (hk : k < L.length) w' (hp : PA w' A L) => at_w kd ch A L cap (x : Int) k w' hp hs hk (by omega) hx1
      have ⟨h1, h4, _⟩ := sound_parts hs
      clear hs hzv hx1
      go_wp2_with (go_at_call 12; (with_reducible refine Calls.mono (hsz _ HV.out.pa) ?_); rintro e w1 ⟨rfl, hb1⟩; have HV1 := Lib.hid (HV.out.step hb1); clear HV v0 v1 v2)
      go_loopw [9] (fun s9 wx => ∃ k : Nat, k ≤ L.length ∧ s9 = .int .i64 k ∧ (∀ j, j < k → hitK kd ch L d s x j = false) ∧ VS w w.heap.size kd ch A L cap wx) (fun s9 _ => L.length - (intOf s9).toNat)
      case atStart => exact ⟨0, by omega, rfl, fun j hj => by omega, HV1.out⟩
      case round =>
        clear HV1
        obtain ⟨k, hk, rfl, hnk, hV⟩ := hrel
        have HV := Lib.hid hV
        have Hnk := Lib.hid hnk
        obtain ⟨v0, v1, v2⟩ := hV.cell
        clear hV hnk
        by_cases hkl : k < L.length
        · have hatk := hat k hkl
          have hltk := Hlt.out k hkl
          have Hk := Lib.hid (show hitK kd ch L d s x k = ((at0 L (atP kd ch L x k).1).1 == d && (atP kd ch L x k).2 == s) from rfl)
          generalize atP kd ch L x k = P at hatk hltk Hk
          obtain ⟨p, at_⟩ := P
          simp only at hatk hltk Hk
          obtain ⟨b, o, dd, st, ct, rfl, hb, he, c0, c1, c2⟩ := HV.out.pa.at_ hltk
          rw [at0_some he] at Hk
          simp only at Hk
          have p0 : (0 : Int) ≤ (p : Int) := by omega
          have p1 : (p : Int) < (L.length : Int) := by omega
          clear he hat
          go_upto_region 8 with (go_at_call 32; (with_reducible refine Calls.mono (hatk _ HV.out.pa) ?_); rintro e w2 ⟨rfl, hb2⟩; have HV2 := Lib.hid (HV.out.step hb2); have q0 := (hb2.cell (p := ⟨b, _, none⟩) hb).trans c0; clear v0 v1 v2 c0 c1 c2 HV)
          obtain ⟨v0, v1, v2⟩ := HV2.out.cell
          clear hatk
          cases hd : (dd == d) with
          | false =>
            have Hn := Lib.hid (show hitK kd ch L d s x k = false by rw [Hk.out, hd]; rfl)
            go_wp2
            go_roundw
            case rel => exact ⟨k + 1, by omega, by go_num, fun j hj => by
              by_cases hjk : j < k
              · exact Hnk.out j hjk
              · obtain rfl : j = k := by omega
                exact Hn.out, HV2.out⟩
            case measure => simp [intOf]; omega
          | true =>
            cases hs : (at_ == s) with
            | false =>
              have Hn := Lib.hid (show hitK kd ch L d s x k = false by rw [Hk.out, hd, hs]; rfl)
              go_wp2
              go_roundw
              case rel => exact ⟨k + 1, by omega, by go_num, fun j hj => by
                by_cases hjk : j < k
                · exact Hnk.out j hjk
                · obtain rfl : j = k := by omega
                  exact Hn.out, HV2.out⟩
              case measure => simp [intOf]; omega
            | true =>
              have Hn := Lib.hid (show findP kd ch L d s = some x by
                rw [HF.out, findG_some n 0 x hlt Hno.out (by
                  rw [Nat.zero_add, Hhit.out]
                  exact List.any_eq_true.2 ⟨k, by simpa using hkl, by rw [Hk.out, hd, hs]; rfl⟩), Nat.zero_add])
              go_wp2
              go_ret2
              exact ⟨by rw [Hn.out]; rfl, HV2.out.below⟩
        · obtain rfl : k = L.length := by omega
          have Hn := Lib.hid (show hitB d s (mapP kd ch L (x : Nat) 1 (-1)) = false by
            rw [Hhit.out]
            refine List.any_eq_false.2 fun j hj => ?_
            rw [Hnk.out j (by simpa using hj)]
            simp)
          go_wp2
          go_roundw
          case rel => exact ⟨x + 1, by omega, by go_num, fun y h0 hy => by
            by_cases hyx : y < x
            · exact Hno.out y h0 (by omega)
            · obtain rfl : y = x := by omega
              exact Hn.out, HV.out⟩
          case measure => simp [intOf]; omega
    · obtain rfl : x = n := by omega
      have Hn := Lib.hid (show findP kd ch L d s = none by rw [HF.out, findG_none x 0 Hno.out])
      go_wp2_with (go_at_call 12; (with_reducible refine Calls.mono (hsz _ HV.out.pa) ?_); rintro e w1 ⟨rfl, hb1⟩)
      go_ret2
      exact ⟨by rw [Hn.out]; rfl, bl_step HV.out.below hb1⟩

end Go.Proofs.Ytdeggdbaeeamiaa
