/-
  The reference's Build, by contract.
-/
import Derived.Test.YtpoagdffpajdjaaRadBd
import Derived.Deep.CutRange
namespace Go.Proofs.Ytpoagdffpajdjaa
open Go.RowKit
set_option linter.unusedVariables false
set_option linter.unusedSimpArgs false

set_option maxRecDepth 100000 in
set_option maxHeartbeats 2000000 in
theorem rBuild_w (l : List En) (v : Value) (S Sv : Nat → Prop) (c : Cn) (err : Int) (w : World) (hbi : BuildIs l c err) (hlen : l.length ≤ 1000) (hE : EA w Sv v l) (hS : ∀ b, w.heap.size ≤ b → S b) :
    Calls Try.prog 38 #[v] w (RetTE c err S w) := by
  obtain ⟨A, cap, rfl, hcap, hcm, _⟩ := id hE
  have HE := Lib.hid (fun w' (hb : Below w.heap.size w w') => hE.step hb)
  have HBI := Lib.hid hbi
  have HSS := Lib.hid hS
  have HR := Lib.hid (heap_alloc_at w (.cells #[.int .i64 0, .slice none 0 0, .int .i64 0, .int .i64 0] 28))
  have HW := Lib.hid (bl_alloc (Below.refl w.heap.size w) (.cells #[.int .i64 0, .slice none 0 0, .int .i64 0, .int .i64 0] 28))
  clear hE hS hbi
  unfold maxLen at hcm
  go_enter Try.func38, Try.ntmps38
  go_wp2
  go_loopw [4] (fun s4 wx => ∃ k : Nat, k ≤ l.length ∧ s4 = .int .i64 k ∧ okTo l k ∧ wx.heap[w.heap.size]? = some (.cells #[.int .i64 0, .slice none 0 0, .int .i64 0, .int .i64 0] 28 (0, 0)) ∧ Below w.heap.size w wx) (fun s4 _ => l.length - (intOf s4).toNat)
  case atStart => exact ⟨0, by omega, rfl, okTo.zero _, HR.out, HW.out⟩
  case round =>
    clear HR HW
    obtain ⟨k, hk, rfl, hok, hR, hW⟩ := hrel
    have HOK := Lib.hid hok
    have HR := Lib.hid hR
    have HW := Lib.hid hW
    clear hok hR hW
    by_cases hlt : k < l.length
    · obtain ⟨bb, o, cap', d, s, q, e0, _, _, hbl, he, c0, c1, c2⟩ := (HE.out _ HW.out).at_ hlt
      injection e0 with e0 _ e2
      subst e0 e2
      have HD := Lib.hid he
      have k0 : (0 : Int) ≤ (k : Int) := by omega
      have k1 : (k : Int) < (l.length : Int) := by omega
      clear he
      have HR1 := Lib.hid (bk_alloc HR.out (.cells #[.int .i64 d, .int .i64 s, .int .i64 q] 48))
      have HW1 := Lib.hid (bl_alloc HW.out (.cells #[.int .i64 d, .int .i64 s, .int .i64 q] 48))
      have hnx : wr.heap.size ≠ w.heap.size := by have := bk_lt HR.out; omega
      by_cases q0 : d < 0
      · have t0 : decide (d < 0) = true := decide_eq_true q0
        have hee : enE (d, s, q) = 2 := enE_two (by omega)
        obtain ⟨rfl, rfl⟩ := HBI.out.bad HOK.out HD.out (by rw [hee]; decide)
        rw [hee]
        clear hee
        go_upto_region 6 with fail
        go_wp2_with (refine wpList_store_rowTo rfl 28 (.tmp 2) (.tmp 26) rfl rfl (w.heap.size) #[.int .i64 0, .slice none 0 0, .int .i64 0, .int .i64 0] rfl rfl 28 _ (HR1.out) tree_size rfl (tree_one _ _ _ _ _ _) ?_)
        show bodyPost Try.prog Try.f38 _ _ _ _
        refine bodyPost_ret (tree2_res rfl _ _ w.heap.size _ _ _ _ _ _ _ rfl rfl (setRow_heap _ _ _ _ _ _ HR1.out)) rfl ?_
        exact RetTE.err (bl_setRow HW1.out (Nat.le_refl _) _)
      · have t0 : decide (d < 0) = false := decide_eq_false q0
        by_cases q1 : 255 < d
        · have t1 : decide (255 < d) = true := decide_eq_true q1
          have hee : enE (d, s, q) = 2 := enE_two (by omega)
          obtain ⟨rfl, rfl⟩ := HBI.out.bad HOK.out HD.out (by rw [hee]; decide)
          rw [hee]
          clear hee
          go_upto_region 6 with fail
          go_wp2_with (refine wpList_store_rowTo rfl 28 (.tmp 2) (.tmp 26) rfl rfl (w.heap.size) #[.int .i64 0, .slice none 0 0, .int .i64 0, .int .i64 0] rfl rfl 28 _ (HR1.out) tree_size rfl (tree_one _ _ _ _ _ _) ?_)
          show bodyPost Try.prog Try.f38 _ _ _ _
          refine bodyPost_ret (tree2_res rfl _ _ w.heap.size _ _ _ _ _ _ _ rfl rfl (setRow_heap _ _ _ _ _ _ HR1.out)) rfl ?_
          exact RetTE.err (bl_setRow HW1.out (Nat.le_refl _) _)
        · have t1 : decide (255 < d) = false := decide_eq_false q1
          by_cases q2 : s = 0
          · subst q2
            have hee : enE (d, 0, q) = 1 := enE_one ⟨by omega, by omega⟩ (by omega)
            obtain ⟨rfl, rfl⟩ := HBI.out.bad HOK.out HD.out (by rw [hee]; decide)
            rw [hee]
            clear hee
            go_upto_region 8 with fail
            go_wp2_with (refine wpList_store_rowTo rfl 28 (.tmp 2) (.tmp 50) rfl rfl (w.heap.size) #[.int .i64 0, .slice none 0 0, .int .i64 0, .int .i64 0] rfl rfl 28 _ (HR1.out) tree_size rfl (tree_one _ _ _ _ _ _) ?_)
            show bodyPost Try.prog Try.f38 _ _ _ _
            refine bodyPost_ret (tree2_res rfl _ _ w.heap.size _ _ _ _ _ _ _ rfl rfl (setRow_heap _ _ _ _ _ _ HR1.out)) rfl ?_
            exact RetTE.err (bl_setRow HW1.out (Nat.le_refl _) _)
          · have t2 : decide (s = 0) = false := decide_eq_false q2
            have u2 : (s == 0) = false := beq_eq_false_iff_ne.2 q2
            by_cases q3 : q < 0
            · have t3 : decide (q < 0) = true := decide_eq_true q3
              have hee : enE (d, s, q) = 1 := enE_one ⟨by omega, by omega⟩ (by omega)
              obtain ⟨rfl, rfl⟩ := HBI.out.bad HOK.out HD.out (by rw [hee]; decide)
              rw [hee]
              clear hee
              go_upto_region 8 with fail
              go_wp2_with (refine wpList_store_rowTo rfl 28 (.tmp 2) (.tmp 50) rfl rfl (w.heap.size) #[.int .i64 0, .slice none 0 0, .int .i64 0, .int .i64 0] rfl rfl 28 _ (HR1.out) tree_size rfl (tree_one _ _ _ _ _ _) ?_)
              show bodyPost Try.prog Try.f38 _ _ _ _
              refine bodyPost_ret (tree2_res rfl _ _ w.heap.size _ _ _ _ _ _ _ rfl rfl (setRow_heap _ _ _ _ _ _ HR1.out)) rfl ?_
              exact RetTE.err (bl_setRow HW1.out (Nat.le_refl _) _)
            · have t3 : decide (q < 0) = false := decide_eq_false q3
              by_cases q4 : 7 < q
              · have t4 : decide (7 < q) = true := decide_eq_true q4
                have hee : enE (d, s, q) = 1 := enE_one ⟨by omega, by omega⟩ (by omega)
                obtain ⟨rfl, rfl⟩ := HBI.out.bad HOK.out HD.out (by rw [hee]; decide)
                rw [hee]
                clear hee
                go_upto_region 8 with fail
                go_wp2_with (refine wpList_store_rowTo rfl 28 (.tmp 2) (.tmp 50) rfl rfl (w.heap.size) #[.int .i64 0, .slice none 0 0, .int .i64 0, .int .i64 0] rfl rfl 28 _ (HR1.out) tree_size rfl (tree_one _ _ _ _ _ _) ?_)
                show bodyPost Try.prog Try.f38 _ _ _ _
                refine bodyPost_ret (tree2_res rfl _ _ w.heap.size _ _ _ _ _ _ _ rfl rfl (setRow_heap _ _ _ _ _ _ HR1.out)) rfl ?_
                exact RetTE.err (bl_setRow HW1.out (Nat.le_refl _) _)
              · have t4 : decide (7 < q) = false := decide_eq_false q4
                by_cases q5 : s < 0
                · have t5 : decide (s < 0) = true := decide_eq_true q5
                  by_cases q6 : q = 0
                  · subst q6
                    have HEE := Lib.hid (show enE (d, s, 0) = 0 from enE_ok.2 (by omega))
                    go_wp2
                    go_roundw
                    case rel => exact ⟨k + 1, by omega, by go_num, HOK.out.succ HD.out HEE.out, HR1.out, HW1.out⟩
                    case measure => simp [intOf]; omega
                  · have t6 : decide (q = 0) = false := decide_eq_false q6
                    have u6 : (q != 0) = true := bne_iff_ne.2 q6
                    have hee : enE (d, s, q) = 1 := enE_one ⟨by omega, by omega⟩ (by omega)
                    obtain ⟨rfl, rfl⟩ := HBI.out.bad HOK.out HD.out (by rw [hee]; decide)
                    rw [hee]
                    clear hee
                    go_upto_region 8 with fail
                    go_wp2_with (refine wpList_store_rowTo rfl 28 (.tmp 2) (.tmp 50) rfl rfl (w.heap.size) #[.int .i64 0, .slice none 0 0, .int .i64 0, .int .i64 0] rfl rfl 28 _ (HR1.out) tree_size rfl (tree_one _ _ _ _ _ _) ?_)
                    show bodyPost Try.prog Try.f38 _ _ _ _
                    refine bodyPost_ret (tree2_res rfl _ _ w.heap.size _ _ _ _ _ _ _ rfl rfl (setRow_heap _ _ _ _ _ _ HR1.out)) rfl ?_
                    exact RetTE.err (bl_setRow HW1.out (Nat.le_refl _) _)
                · have t5 : decide (s < 0) = false := decide_eq_false q5
                  have HEE := Lib.hid (show enE (d, s, q) = 0 from enE_ok.2 (by omega))
                  go_wp2
                  go_roundw
                  case rel => exact ⟨k + 1, by omega, by go_num, HOK.out.succ HD.out HEE.out, HR1.out, HW1.out⟩
                  case measure => simp [intOf]; omega
    · obtain rfl : k = l.length := by omega
      have HG := Lib.hid HOK.out.good
      go_wp2
      go_loopw [6] (fun s6 wx => ∃ k : Nat, k ≤ l.length ∧ s6 = .int .i64 k ∧ ¬ dupTo l k ∧ wx.heap[w.heap.size]? = some (.cells #[.int .i64 0, .slice none 0 0, .int .i64 0, .int .i64 0] 28 (0, 0)) ∧ Below w.heap.size w wx) (fun s6 _ => l.length - (intOf s6).toNat)
      case atStart => exact ⟨0, by omega, rfl, dup_zero _, HR.out, HW.out⟩
      case round =>
        clear HR HW
        obtain ⟨k, hk, rfl, hnd, hR, hW⟩ := hrel
        have HND := Lib.hid hnd
        have HR := Lib.hid hR
        have HW := Lib.hid hW
        clear hnd hR hW
        by_cases hlt : k < l.length
        · have k0 : (0 : Int) ≤ (k : Int) := by omega
          have k1 : (k : Int) < (l.length : Int) := by omega
          go_wp2
          go_loopw [7] (fun s7 wx => ∃ j : Nat, j ≤ k ∧ s7 = .int .i64 j ∧ (∀ p, p < j → ∀ a b, l[k]? = some a → l[p]? = some b → b.1 ≠ a.1) ∧ wx.heap[w.heap.size]? = some (.cells #[.int .i64 0, .slice none 0 0, .int .i64 0, .int .i64 0] 28 (0, 0)) ∧ Below w.heap.size w wx) (fun s7 _ => k - (intOf s7).toNat)
          case atStart => exact ⟨0, by omega, rfl, fun p hp => by omega, HR.out, HW.out⟩
          case round =>
            clear HR HW
            obtain ⟨j, hj, rfl, hnj, hR, hW⟩ := hrel
            have HNJ := Lib.hid hnj
            have HR := Lib.hid hR
            have HW := Lib.hid hW
            clear hnj hR hW
            obtain ⟨bb, o, cap', d, s, q, e0, _, _, hbl, he, c0, c1, c2⟩ := (HE.out _ HW.out).at_ hlt
            injection e0 with e0 _ e2
            subst e0 e2
            have HD := Lib.hid he
            clear he
            by_cases hlt2 : j < k
            · obtain ⟨bb', o', cap', d', s', q', e0, _, _, hbl', he', c0', c1', c2'⟩ := (HE.out _ HW.out).at_ (i := j) (by omega)
              injection e0 with e0 _ e2
              injection e0 with e0
              injection e0 with e3 e4
              subst e3 e4 e2
              have HD2 := Lib.hid he'
              clear he'
              have j0 : (0 : Int) ≤ (j : Int) := by omega
              have j1 : (j : Int) < (l.length : Int) := by omega
              have j2 : (j : Int) < (k : Int) := by omega
              clear c1 c2 c1' c2'
              by_cases hdd : d' = d
              · subst hdd
                obtain ⟨rfl, rfl⟩ := HBI.out.dup HOK.out ⟨k, j, hlt2, hlt, _, _, HD.out, HD2.out, rfl⟩
                go_upto_region 15 with fail
                go_quiet (fail)
                have HR1 := Lib.hid (bk_step HR.out (below_drewN (Below.refl _ _) nq))
                have HW1 := Lib.hid (below_drewN HW.out nq)
                go_wp2_with (refine wpList_store_rowTo rfl 28 (.tmp 2) (.tmp 73) rfl rfl (w.heap.size) #[.int .i64 0, .slice none 0 0, .int .i64 0, .int .i64 0] rfl rfl 28 _ (HR1.out) tree_size rfl (tree_one _ _ _ _ _ _) ?_)
                show bodyPost Try.prog Try.f38 _ _ _ _
                refine bodyPost_ret (tree2_res rfl _ _ w.heap.size _ _ _ _ _ _ _ rfl rfl (setRow_heap _ _ _ _ _ _ HR1.out)) rfl ?_
                exact RetTE.err (bl_setRow HW1.out (Nat.le_refl _) _)
              · have hdd2 : decide (d' = d) = false := decide_eq_false hdd
                have hdd3 : (d' == d) = false := beq_eq_false_iff_ne.2 hdd
                have HDD := Lib.hid hdd
                go_upto_region 15 with fail
                go_quiet (fail)
                go_wp2
                go_roundw
                case rel =>
                  refine ⟨j + 1, by omega, by go_num, fun p hp a b ha hb => ?_, bk_step HR.out (below_drewN (Below.refl _ _) _), below_drewN HW.out _⟩
                  by_cases hpj : p = j
                  · subst hpj
                    rw [HD.out] at ha
                    rw [HD2.out] at hb
                    injection ha with ha
                    injection hb with hb
                    rw [← ha, ← hb]
                    exact HDD.out
                  · exact HNJ.out p (by omega) a b ha hb
                case measure => simp [intOf]; omega
            · obtain rfl : j = k := by omega
              go_wp2
              go_roundw
              case rel =>
                refine ⟨j + 1, by omega, by go_num, fun hd => ?_, HR.out, HW.out⟩
                obtain ⟨p, i, h1, h2, a, b, h3, h4, h5⟩ := hd
                by_cases hp : p = j
                · subst hp
                  exact HNJ.out i h1 a b h3 h4 h5
                · exact HND.out ⟨p, i, h1, by omega, a, b, h3, h4, h5⟩
              case measure => simp [intOf]; omega
        · obtain rfl : k = l.length := by omega
          obtain ⟨rfl, rfl⟩ := HBI.out.fin HOK.out HND.out
          have hsz := HW.out.size
          have hma := made_w l _ (fun z => S z ∧ z ≠ w.heap.size) Sv wr HG.out hlen (HE.out _ HW.out) (fun z hz => ⟨HSS.out z (by omega), by have := bk_lt HR.out; omega⟩)
          go_wp2_with (first
            | (go_at_call 54; (with_reducible refine Calls.mono hma ?_); rintro e w3 ⟨h', A', cap', rfl, ht', hc', hk', hb3⟩; have HR3 := Lib.hid (bk_step HR.out hb3); have HW3 := Lib.hid (bl_step HW.out hb3); have HK3 := Lib.hid hk'; have HC3 := Lib.hid hc'; have HO3 := Lib.hid ht')
            | (refine wpList_store_rowTo rfl 28 (.tmp 2) (.tmp 75) rfl rfl (w.heap.size) #[.int .i64 h', .slice A' (cano h' (cOf l)).kids.length cap', .int .i64 (cano h' (cOf l)).val, .int .i64 (cano h' (cOf l)).marks] rfl rfl 28 _ (HR3.out) tree_size rfl (tree_one _ _ _ _ _ _) ?_))
          show bodyPost Try.prog Try.f38 _ _ _ _
          refine bodyPost_ret (tree2_res rfl _ _ w.heap.size _ _ _ _ _ _ _ rfl rfl (setRow_heap _ _ _ _ _ _ HR3.out)) rfl ?_
          exact ⟨h', A', cap', rfl, HO3.out, HC3.out, (HK3.out.kept (by simp [World.setRow]) (fun z hz _ => setRow_other _ _ _ _ hz.2)).weak fun _ _ h => h.1, bl_setRow HW3.out (Nat.le_refl _) _⟩
end Go.Proofs.Ytpoagdffpajdjaa
