/-
  volume's Find, and what the pieces of a request have to do with those of its sectors, for the volumes that made makes.
-/
import Derived.Test.YtdeggdbaeeamiaaVolE
namespace Go.Proofs.Ytdeggdbaeeamiaa
open Go.RowKit
set_option linter.unusedVariables false
set_option linter.unusedSimpArgs false

/-- Whether one of the pieces lies at a place. -/
def hitB (d s : Int) (l : List Pc) : Bool := l.any fun p => p.1 == d && p.2.1 == s
/-- The first sector with a place, from x on, n of them. -/
def findG (kd ch : Int) (L : List Seg) (d s : Int) : Nat → Nat → Option Nat
  | 0, _ => none
  | n + 1, x => if hitB d s (mapP kd ch L x 1 (-1)) = true then some x else findG kd ch L d s n (x + 1)
def findP (kd ch : Int) (L : List Seg) (d s : Int) : Option Nat := findG kd ch L d s (szB kd ch L).toNat 0
theorem findG_none {kd ch : Int} {L : List Seg} {d s : Int} : ∀ (n x : Nat), (∀ y, x ≤ y → y < x + n → hitB d s (mapP kd ch L y 1 (-1)) = false) → findG kd ch L d s n x = none
  | 0, _, _ => rfl
  | n + 1, x, h => by
    simp only [findG, h x (by omega) (by omega)]
    exact findG_none n (x + 1) (fun y h1 h2 => h y (by omega) (by omega))
theorem findG_some {kd ch : Int} {L : List Seg} {d s : Int} : ∀ (n x k : Nat), k < n → (∀ y, x ≤ y → y < x + k → hitB d s (mapP kd ch L y 1 (-1)) = false) → hitB d s (mapP kd ch L (x + k : Nat) 1 (-1)) = true → findG kd ch L d s n x = some (x + k)
  | 0, _, _, h, _, _ => by omega
  | n + 1, x, 0, _, _, h => by
    simp only [Nat.add_zero] at h
    simp only [findG, h, if_true, Nat.add_zero]
  | n + 1, x, k + 1, hk, h1, h2 => by
    simp only [findG, h1 x (by omega) (by omega)]
    rw [show x + (k + 1) = (x + 1) + k from by omega] at h2 ⊢
    exact findG_some n (x + 1) k (by omega) (fun y a b => h1 y (by omega) (by omega)) h2
def RetF (o : Option Nat) (w : World) (e : Ending) (w' : World) : Prop := e = .returned (.tuple #[.int .i64 (o.getD 0 : Nat), .bool o.isSome]) ∧ Below w.heap.size w w'

set_option maxRecDepth 100000 in
set_option maxHeartbeats 2000000 in
theorem find_w (kd ch : Int) (A : Option Addr) (L : List Seg) (cap : Nat) (d s : Int) (w : World) (h : PA w A L) (hl : L.length ≤ maxLen) (hc : L.length ≤ cap) :
    Calls Try.prog 18 #[volV kd ch A L.length cap, .int .i64 d, .int .i64 s] w (RetF (findP kd ch L d s) w) := by
  have HV := Lib.hid (VS.new (kd := kd) (ch := ch) (cap := cap) h)
  have hsz := fun w' (hp : PA w' A L) => Size_w kd ch A L cap w' hp hl hc
  have hmap := fun x w' (hp : PA w' A L) => map_w kd ch A L cap x 1 (-1) w' hp hl hc
  have ⟨z0, z1⟩ := szB_range kd ch L
  obtain ⟨n, hn⟩ := Int.eq_ofNat_of_zero_le z0
  have HF := Lib.hid (show findP kd ch L d s = findG kd ch L d s n 0 by unfold findP; rw [hn, Int.toNat_natCast])
  simp only [hn] at hsz
  rw [hn] at z1
  clear h hn z0
  go_enter Try.func18, Try.ntmps18
  go_upto_region 1 with fail
  go_cut [12, 13] (fun s12 s13 wx => s12 = .int .i64 n ∧ s13 = .int .i64 0 ∧ VS w w.heap.size kd ch A L cap wx)
  case first =>
    go_wp2_with (go_at_call 11; (with_reducible refine Calls.mono (hsz _ HV.out.pa) ?_); rintro e w1 ⟨rfl, hb1⟩)
    go_meet
    case rel => exact ⟨rfl, rfl, HV.out.step hb1⟩
  case rest =>
    clear HV hsz
    obtain ⟨rfl, rfl, hV⟩ := hcut
    have HV := Lib.hid hV
    clear hV
    go_wp2
    go_loopw [13] (fun s13 wx => ∃ x : Nat, x ≤ n ∧ s13 = .int .i64 x ∧ (∀ y, 0 ≤ y → y < 0 + x → hitB d s (mapP kd ch L (y : Nat) 1 (-1)) = false) ∧ VS w w.heap.size kd ch A L cap wx) (fun s13 _ => n - (intOf s13).toNat)
    case atStart => exact ⟨0, by omega, rfl, fun y _ hy => by omega, HV.out⟩
    case round =>
      clear HV
      obtain ⟨x, hx, rfl, hno, hV⟩ := hrel
      have HV := Lib.hid hV
      have Hno := Lib.hid hno
      obtain ⟨v0, v1, v2⟩ := hV.cell
      clear hV hno
      by_cases hlt : x < n
      · have hm := hmap (x : Int)
        have Hl := Lib.hid (show ∃ l, mapP kd ch L (x : Nat) 1 (-1) = l from ⟨_, rfl⟩)
        obtain ⟨l, hle⟩ := Hl.out
        rw [hle] at hm
        have Hle := Lib.hid hle
        clear hle Hl
        go_wp2_with (go_at_call 13; (with_reducible refine Calls.mono (hm _ HV.out.pa) ?_); rintro e w1 ⟨v, rfl, ⟨B, cap3, rfl, hlm, hR⟩, hb1⟩)
        have HR := Lib.hid (show PcR w1 B l from hR)
        have HV1 := Lib.hid (HV.out.step hb1)
        unfold maxLen at hlm
        clear hm hR HV hb1 v0 v1 v2
        go_loopw [20] (fun s20 wx => ∃ k : Nat, k ≤ l.length ∧ s20 = .int .i64 k ∧ (∀ j p, j < k → l[j]? = some p → (p.1 == d && p.2.1 == s) = false) ∧ PcR wx B l ∧ VS w w.heap.size kd ch A L cap wx) (fun s20 _ => l.length - (intOf s20).toNat)
        case atStart => exact ⟨0, by omega, rfl, fun j p hj => by omega, HR.out, HV1.out⟩
        case round =>
          clear HR HV1
          obtain ⟨k, hk, rfl, hnk, hR, hV⟩ := hrel
          have HR := Lib.hid hR
          have HV := Lib.hid hV
          have Hnk := Lib.hid hnk
          clear hnk hV
          by_cases hkl : k < l.length
          · obtain ⟨b, d', s', c', f', rfl, lb, he, p0, p1, p2, p3⟩ := hR.at_ hkl
            have He := Lib.hid he
            have k0 : (0 : Int) ≤ (k : Int) := by omega
            have k1 : (k : Int) < (l.length : Int) := by omega
            clear hR he
            cases hd : (d' == d) with
            | false =>
              have Hn := Lib.hid (show (d' == d && s' == s) = false by rw [hd]; rfl)
              go_wp2
              go_roundw
              case rel => exact ⟨k + 1, by omega, by go_num, fun j p hj hp => by
                by_cases hjk : j < k
                · exact Hnk.out j p hjk hp
                · obtain rfl : j = k := by omega
                  rw [He.out] at hp
                  injection hp with hp
                  rw [← hp]; exact Hn.out, HR.out.alloc _, HV.out.alloc _⟩
              case measure => simp [intOf]; omega
            | true =>
              cases hs : (s' == s) with
              | false =>
                have Hn := Lib.hid (show (d' == d && s' == s) = false by rw [hd, hs]; rfl)
                go_wp2
                go_roundw
                case rel => exact ⟨k + 1, by omega, by go_num, fun j p hj hp => by
                  by_cases hjk : j < k
                  · exact Hnk.out j p hjk hp
                  · obtain rfl : j = k := by omega
                    rw [He.out] at hp
                    injection hp with hp
                    rw [← hp]; exact Hn.out, HR.out.alloc _, HV.out.alloc _⟩
                case measure => simp [intOf]; omega
              | true =>
                have Hn := Lib.hid (show findP kd ch L d s = some x by
                  rw [HF.out, findG_some n 0 x hlt Hno.out (by
                    rw [Nat.zero_add, Hle.out]
                    exact List.any_eq_true.2 ⟨_, List.mem_of_getElem? He.out, by simp only [hd, hs]; rfl⟩), Nat.zero_add])
                skip
                go_wp2
                go_ret2
                exact ⟨by rw [Hn.out]; rfl, (HV.out.alloc _).below⟩
          · obtain rfl : k = l.length := by omega
            clear hR
            have Hn := Lib.hid (show hitB d s (mapP kd ch L (x : Nat) 1 (-1)) = false by
              rw [Hle.out]
              refine List.any_eq_false.2 fun p hp => ?_
              obtain ⟨j, hj⟩ := List.getElem?_of_mem hp
              rw [Hnk.out j p (List.getElem?_eq_some_iff.1 hj).1 hj]
              simp)
            go_wp2
            go_roundw
            case rel => exact ⟨x + 1, by omega, by go_num, fun y h0 hy => by
              by_cases hyx : y < x
              · exact Hno.out y h0 (by omega)
              · obtain rfl : y = x := by omega
                exact Hn.out, HV.out⟩
            case measure => simp [intOf]; omega
      · obtain rfl : x = n := by omega
        have Hn := Lib.hid (show findP kd ch L d s = none by rw [HF.out, findG_none x 0 Hno.out])
        go_wp2
        go_ret2
        exact ⟨by rw [Hn.out]; rfl, HV.out.below⟩

end Go.Proofs.Ytdeggdbaeeamiaa
