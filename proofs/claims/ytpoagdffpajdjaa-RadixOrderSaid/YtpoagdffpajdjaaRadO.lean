/-
  The reference's Next and Count, by contracts over a list of entries.
-/
import Derived.Test.YtpoagdffpajdjaaRadN
namespace Go.Proofs.Ytpoagdffpajdjaa
open Go.RowKit
set_option linter.unusedVariables false
set_option linter.unusedSimpArgs false

theorem Ents.of_valid {h : Nat} {c : Cn} {A : Option Addr} {cap : Nat} {S : Nat → Prop} {w : World} (hl : leafy c) (ht : TreeOk h c) (hcap : (cano h c).kids.length ≤ cap) (hk : NK w S A (cano h c).kids) :
    Ents (trV h A (cano h c).kids.length cap (cano h c).val (cano h c).marks) (ents 0 (4 ^ h) c) w := fun w' hb => rEntries_w h c A cap S w' hl ht hcap (hk.step hb)
theorem Ents.of_bad {hI : Int} {t : T} {A : Option Addr} {cap : Nat} {S : Nat → Prop} {w : World} (hm : t.kids.length ≤ maxLen) (hcap : t.kids.length ≤ cap) (hk : NK w S A t.kids) (hbad : validT hI t = false) :
    Ents (trV hI A t.kids.length cap t.val t.marks) [] w := fun w' hb => rEntries_bad hI t A cap S w' hm hcap (hk.step hb) hbad
def cntP (l : List En) (m : Int) (k : Nat) : Nat := (l.take k).countP (cntB m)
theorem cntP_succ {l : List En} {m : Int} {k : Nat} {e : En} (h : l[k]? = some e) : cntP l m (k + 1) = cntP l m k + if cntB m e then 1 else 0 := by
  unfold cntP
  rw [List.take_add_one, h, Option.toList_some, List.countP_append, List.countP_singleton]
theorem cntP_le (l : List En) (m : Int) (k : Nat) : cntP l m k ≤ k := Nat.le_trans List.countP_le_length (List.length_take_le _ _)
section
variable (hI : Int) (A : Option Addr) (n cap : Nat) (v mm : Int) (l : List En) (w : World) (hes : Ents (trV hI A n cap v mm) l w)
include hes
set_option maxRecDepth 100000
set_option maxHeartbeats 4000000
theorem rNext_w (fr m : Int) : Calls Try.prog 14 #[trV hI A n cap v mm, .int .i64 fr, .int .i64 m] w (fun e w' => e = .returned (.tuple #[.int .i64 (nextP l fr m).1, .bool (nextP l fr m).2]) ∧ Below w.heap.size w w') := by
  have HW := Lib.hid (bl_alloc (Below.refl w.heap.size w) (.cells #[.int .i64 hI, .slice A n cap, .int .i64 v, .int .i64 mm] 28))
  unfold Ents at hes
  have hon := fun w => one_b m w
  go_enter Try.func14, Try.ntmps14
  go_wp2_with (go_at_call 25; (with_reducible refine Calls.mono (hes _ (by (repeat (with_reducible first | assumption | exact Below.refl _ _ | refine bl_alloc ?_ _ | apply Below.drew | refine below_drewN ?_ _ | (apply bl_step2; assumption) | (refine Below.setCell ?_ (Nat.le_refl _) _) | (refine Below.setCell ?_ (by first | omega | (simp; done) | (go_simp; done)) _))))) ?_); rintro e w1 ⟨vv, rfl, hown, hb1⟩)
  have HE := Lib.hid (EA.of_own (S := Any) hown (fun _ _ => trivial))
  have HW1 := Lib.hid (bl_step HW.out hb1)
  have hE := HE.out
  obtain ⟨A', cap', rfl, _, hm, _⟩ := hE
  unfold maxLen at hm
  clear hown hb1
  go_loopw [9] (fun s9 wx => ∃ k : Nat, k ≤ l.length ∧ s9 = .int .i64 k ∧ (∀ (j : Nat) x, j < k → l[j]? = some x → tstB fr m x = false) ∧ w1 = wx) (fun s9 _ => l.length - (intOf s9).toNat)
  case atStart => exact ⟨0, by omega, rfl, fun j x h => by omega, by first | rfl | trivial⟩
  case round =>
    obtain ⟨k, hk, rfl, hn, rfl⟩ := hrel
    have HN := Lib.hid hn
    clear hn
    by_cases hlt : k < l.length
    · obtain ⟨b, o, cap'', d, s, c, e0, _, _, hbl, he, c0, c1, c2⟩ := HE.out.at_ hlt
      injection e0 with e0 _ e2
      subst e0
      have Hd := Lib.hid he
      have k0 : (0 : Int) ≤ (k : Int) := by omega
      have k1 : (k : Int) < (l.length : Int) := by omega
      have HNA := Lib.hid (fun ht => nextP_at (fr := fr) (m := m) he ht HN.out)
      clear he e2
      by_cases q1 : fr ≤ d
      · by_cases q2 : 0 < s
        · by_cases q3 : m = 0
          · subst q3
            have HS := Lib.hid (HNA.out (by simp [tstB, mkB, q1, q2]))
            go_wp2_with (go_at_call 43; (with_reducible refine Calls.mono (hon _) ?_); rintro e w2 ⟨rfl, rfl⟩)
            go_ret2
            rw [HS.out]
            exact ⟨rfl, HW1.out⟩
          · have q3' : (m == 0) = false := beq_eq_false_iff_ne.2 q3
            cases ho : oneB m with
            | false =>
              have HT := Lib.hid (show tstB fr m (d, s, c) = false by simp [tstB, mkB, ho, q3'])
              rw [ho] at hon
              clear ho
              go_wp2_with (go_at_call 43; (with_reducible refine Calls.mono (hon _) ?_); rintro e w2 ⟨rfl, rfl⟩)
              go_roundw
              case rel =>
                refine ⟨k + 1, by omega, by go_num, fun j x hj hjj => ?_, by first | rfl | trivial⟩
                by_cases hjk : j = k
                · subst hjk
                  rw [Hd.out] at hjj
                  injection hjj with hjj
                  rw [← hjj]; exact HT.out
                · exact HN.out j x (by omega) hjj
              case measure => simp [intOf]; omega
            | true =>
              rw [ho] at hon
              cases hc : andI c m != 0 with
              | false =>
                have HT := Lib.hid (show tstB fr m (d, s, c) = false by simp only [tstB, mkB, ho, q3', hc]; simp)
                clear ho
                go_wp2_with (go_at_call 43; (with_reducible refine Calls.mono (hon _) ?_); rintro e w2 ⟨rfl, rfl⟩)
                go_roundw
                case rel =>
                  refine ⟨k + 1, by omega, by go_num, fun j x hj hjj => ?_, by first | rfl | trivial⟩
                  by_cases hjk : j = k
                  · subst hjk
                    rw [Hd.out] at hjj
                    injection hjj with hjj
                    rw [← hjj]; exact HT.out
                  · exact HN.out j x (by omega) hjj
                case measure => simp [intOf]; omega
              | true =>
                have HS := Lib.hid (HNA.out (by simp only [tstB, mkB, ho, q3', hc]; simp [q1, q2]))
                clear ho
                go_wp2_with (go_at_call 43; (with_reducible refine Calls.mono (hon _) ?_); rintro e w2 ⟨rfl, rfl⟩)
                go_ret2
                rw [HS.out]
                exact ⟨rfl, HW1.out⟩
        · have HT := Lib.hid (show tstB fr m (d, s, c) = false by simp [tstB, q2])
          go_wp2_with (go_at_call 43; (with_reducible refine Calls.mono (hon _) ?_); rintro e w2 ⟨rfl, rfl⟩)
          go_roundw
          case rel =>
            refine ⟨k + 1, by omega, by go_num, fun j x hj hjj => ?_, by first | rfl | trivial⟩
            by_cases hjk : j = k
            · subst hjk
              rw [Hd.out] at hjj
              injection hjj with hjj
              rw [← hjj]; exact HT.out
            · exact HN.out j x (by omega) hjj
          case measure => simp [intOf]; omega
      · have HT := Lib.hid (show tstB fr m (d, s, c) = false by simp [tstB, q1])
        go_wp2_with (go_at_call 43; (with_reducible refine Calls.mono (hon _) ?_); rintro e w2 ⟨rfl, rfl⟩)
        go_roundw
        case rel =>
          refine ⟨k + 1, by omega, by go_num, fun j x hj hjj => ?_, by first | rfl | trivial⟩
          by_cases hjk : j = k
          · subst hjk
            rw [Hd.out] at hjj
            injection hjj with hjj
            rw [← hjj]; exact HT.out
          · exact HN.out j x (by omega) hjj
        case measure => simp [intOf]; omega
    · obtain rfl : k = l.length := by omega
      have HS := Lib.hid (nextP_no (fr := fr) (m := m) fun j x hj => HN.out j x (List.getElem?_eq_some_iff.1 hj).1 hj)
      go_wp2
      go_ret2
      rw [HS.out]
      exact ⟨rfl, HW1.out⟩
theorem rCount_w (m : Int) : Calls Try.prog 22 #[trV hI A n cap v mm, .int .i64 m] w (RetI (countP l m) w) := by
  have HW := Lib.hid (bl_alloc (Below.refl w.heap.size w) (.cells #[.int .i64 hI, .slice A n cap, .int .i64 v, .int .i64 mm] 28))
  unfold Ents at hes
  have hon := fun w => one_b m w
  go_enter Try.func22, Try.ntmps22
  go_wp2_with (go_at_call 25; (with_reducible refine Calls.mono (hes _ (by (repeat (with_reducible first | assumption | exact Below.refl _ _ | refine bl_alloc ?_ _ | apply Below.drew | refine below_drewN ?_ _ | (apply bl_step2; assumption) | (refine Below.setCell ?_ (Nat.le_refl _) _) | (refine Below.setCell ?_ (by first | omega | (simp; done) | (go_simp; done)) _))))) ?_); rintro e w1 ⟨vv, rfl, hown, hb1⟩)
  have HE := Lib.hid (EA.of_own (S := Any) hown (fun _ _ => trivial))
  have HW1 := Lib.hid (bl_step HW.out hb1)
  have hE := HE.out
  obtain ⟨A', cap', rfl, _, hm, _⟩ := hE
  unfold maxLen at hm
  clear hown hb1
  go_loopw [6, 7] (fun s6 s7 wx => ∃ k : Nat, k ≤ l.length ∧ s7 = .int .i64 k ∧ s6 = .int .i64 (cntP l m k : Nat) ∧ Below w.heap.size w wx ∧ w1 = wx) (fun _ s7 _ => l.length - (intOf s7).toNat)
  case atStart => exact ⟨0, by omega, rfl, rfl, HW1.out, by first | rfl | trivial⟩
  case round =>
    obtain ⟨k, hk, rfl, rfl, _, rfl⟩ := hrel
    by_cases hlt : k < l.length
    · obtain ⟨b, o, cap'', d, s, c, e0, _, _, hbl, he, c0, c1, c2⟩ := HE.out.at_ hlt
      injection e0 with e0 _ e2
      subst e0
      have k0 : (0 : Int) ≤ (k : Int) := by omega
      have k1 : (k : Int) < (l.length : Int) := by omega
      have HC := Lib.hid (cntP_succ (m := m) he)
      have hcl := cntP_le l m k
      clear he e2
      generalize cntP l m k = q at HC hcl
      by_cases q2 : 0 < s
      · by_cases q3 : m = 0
        · subst q3
          have HT := Lib.hid (show cntB 0 (d, s, c) = true by simp [cntB, mkB, q2])
          go_wp2_with (go_at_call 43; (with_reducible refine Calls.mono (hon _) ?_); rintro e w2 ⟨rfl, rfl⟩)
          go_roundw
          case rel => exact ⟨k + 1, by omega, by go_num, by rw [HC.out, HT.out, if_pos rfl]; go_num, HW1.out, by first | rfl | trivial⟩
          case measure => simp [intOf]; omega
        · have q3' : (m == 0) = false := beq_eq_false_iff_ne.2 q3
          cases ho : oneB m with
          | false =>
            have HT := Lib.hid (show cntB m (d, s, c) = false by simp [cntB, mkB, ho, q3'])
            rw [ho] at hon
            clear ho
            go_wp2_with (go_at_call 43; (with_reducible refine Calls.mono (hon _) ?_); rintro e w2 ⟨rfl, rfl⟩)
            go_roundw
            case rel => exact ⟨k + 1, by omega, by go_num, by rw [HC.out, HT.out]; rfl, HW1.out, by first | rfl | trivial⟩
            case measure => simp [intOf]; omega
          | true =>
            rw [ho] at hon
            cases hc : andI c m != 0 with
            | false =>
              have HT := Lib.hid (show cntB m (d, s, c) = false by simp only [cntB, mkB, ho, q3', hc]; simp)
              clear ho
              go_wp2_with (go_at_call 43; (with_reducible refine Calls.mono (hon _) ?_); rintro e w2 ⟨rfl, rfl⟩)
              go_roundw
              case rel => exact ⟨k + 1, by omega, by go_num, by rw [HC.out, HT.out]; rfl, HW1.out, by first | rfl | trivial⟩
              case measure => simp [intOf]; omega
            | true =>
              have HT := Lib.hid (show cntB m (d, s, c) = true by simp only [cntB, mkB, ho, q3', hc]; simp [q2])
              clear ho
              go_wp2_with (go_at_call 43; (with_reducible refine Calls.mono (hon _) ?_); rintro e w2 ⟨rfl, rfl⟩)
              go_roundw
              case rel => exact ⟨k + 1, by omega, by go_num, by rw [HC.out, HT.out, if_pos rfl]; go_num, HW1.out, by first | rfl | trivial⟩
              case measure => simp [intOf]; omega
      · have HT := Lib.hid (show cntB m (d, s, c) = false by simp [cntB, q2])
        go_wp2_with (go_at_call 43; (with_reducible refine Calls.mono (hon _) ?_); rintro e w2 ⟨rfl, rfl⟩)
        go_roundw
        case rel => exact ⟨k + 1, by omega, by go_num, by rw [HC.out, HT.out]; rfl, HW1.out, by first | rfl | trivial⟩
        case measure => simp [intOf]; omega
    · obtain rfl : k = l.length := by omega
      have HT := Lib.hid (show cntP l m l.length = countP l m by unfold cntP countP; rw [List.take_length])
      go_wp2
      go_ret
      exact ⟨by rw [← HT.out]; rfl, HW1.out⟩
end

end Go.Proofs.Ytpoagdffpajdjaa
