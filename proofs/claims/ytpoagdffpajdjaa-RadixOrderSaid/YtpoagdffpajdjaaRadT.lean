/-
  Made and Set of the reference, by contracts.
-/
import Derived.Test.YtpoagdffpajdjaaRadS
namespace Go.Proofs.Ytpoagdffpajdjaa
open Go.RowKit
set_option linter.unusedVariables false
set_option linter.unusedSimpArgs false

theorem made_ok {l : List En} {t : Nat} (hg : Good l) (h1 : ∀ e ∈ l, e.1 ≤ (t : Int)) (h2 : t = 0 ∨ ∃ e ∈ l, e.1 = (t : Int)) (ht : t < 256) : TreeOk (hf t) (cOf l) := by
  have h4 : hf t ≤ 4 := by unfold hf; (repeat' split) <;> omega
  have hlt : t < 4 ^ hf t := (hf_le ht h4).1 (Nat.le_refl _)
  refine ⟨h4, fun i hi => lkP_nil_of fun e he => ?_, ?_⟩
  · have := h1 e he; omega
  · rcases h2 with rfl | h2
    · exact .inl rfl
    · by_cases h0 : hf t = 0
      · exact .inl h0
      · refine .inr ⟨t, ?_, lkP_ne hg h2⟩
        apply Classical.byContradiction
        intro hc
        have := (hf_le (i := t) (h := hf t - 1) ht (by omega)).2 (by omega)
        omega
set_option maxRecDepth 100000 in
set_option maxHeartbeats 2000000 in
theorem made_w (l : List En) (v : Value) (S Sv : Nat → Prop) (w : World) (hg : Good l) (hlen : l.length ≤ 1000) (hE : EA w Sv v l) (hS : ∀ b, w.heap.size ≤ b → S b) :
    Calls Try.prog 54 #[v] w (RetTr (cOf l) S w) := by
  obtain ⟨A, cap, rfl, hcap, hcm, _⟩ := id hE
  have HE := Lib.hid (fun w' (hb : Below w.heap.size w w') => hE.step hb)
  have HG := Lib.hid hg
  have HSS := Lib.hid hS
  have HR := Lib.hid (heap_alloc_at w (.cells #[.int .i64 0, .slice none 0 0, .int .i64 0, .int .i64 0] 28))
  have HW := Lib.hid (bl_alloc (Below.refl w.heap.size w) (.cells #[.int .i64 0, .slice none 0 0, .int .i64 0, .int .i64 0] 28))
  clear hE hg hS
  unfold maxLen at hcm
  go_enter Try.func54, Try.ntmps54
  go_wp2
  go_loopw [3, 4] (fun s3 s4 wx => ∃ (k t : Nat), k ≤ l.length ∧ t < 256 ∧ s4 = .int .i64 k ∧ s3 = .int .i64 t ∧ (∀ (j : Nat) e, j < k → l[j]? = some e → e.1 ≤ (t : Int)) ∧ (t = 0 ∨ ∃ e ∈ l, e.1 = (t : Int)) ∧ wx.heap[w.heap.size]? = some (.cells #[.int .i64 0, .slice none 0 0, .int .i64 0, .int .i64 0] 28 (0, 0)) ∧ Below w.heap.size w wx) (fun _ s4 _ => l.length - (intOf s4).toNat)
  case atStart => exact ⟨0, 0, by omega, by omega, rfl, rfl, fun j e h => by omega, .inl rfl, HR.out, HW.out⟩
  case round =>
    clear HR HW
    obtain ⟨k, t, hk, ht, rfl, rfl, h1, h2, hR, hW⟩ := hrel
    have H1 := Lib.hid h1
    have H2 := Lib.hid h2
    have HR := Lib.hid hR
    have HW := Lib.hid hW
    clear h1 h2 hR hW
    by_cases hlt : k < l.length
    · obtain ⟨bb, o, cap', d, s, c, e0, _, _, hbl, he, c0, c1, c2⟩ := (HE.out _ HW.out).at_ hlt
      injection e0 with e0 _ e2
      subst e0
      obtain ⟨g1, g2, g3⟩ := HG.out _ (List.mem_of_getElem? he)
      have HD := Lib.hid he
      simp only at g1 g2
      have k0 : (0 : Int) ≤ (k : Int) := by omega
      have k1 : (k : Int) < (l.length : Int) := by omega
      clear he e2 g3 c1 c2
      by_cases q : (t : Int) < d
      · obtain ⟨dn, rfl⟩ := Int.eq_ofNat_of_zero_le g1
        have q2 : t < dn := by omega
        have q3 : t ≤ dn := by omega
        have q4 : max t dn = dn := by omega
        have q5 : max (t : Int) (dn : Int) = (dn : Int) := by omega
        go_wp2
        go_roundw
        case rel =>
          refine ⟨k + 1, dn, by omega, by omega, by go_num, rfl, fun j e hj hje => ?_, .inr ⟨_, List.mem_of_getElem? HD.out, rfl⟩, HR.out, HW.out⟩
          by_cases hjk : j = k
          · subst hjk
            rw [HD.out] at hje
            injection hje with hje
            rw [← hje]
            exact Int.le_refl _
          · have := H1.out j e (by omega) hje; omega
        case measure => simp [intOf]; omega
      · obtain ⟨dn, rfl⟩ := Int.eq_ofNat_of_zero_le g1
        have q2 : ¬ t < dn := by omega
        have q3 : dn ≤ t := by omega
        have q4 : max t dn = t := by omega
        have q5 : max (t : Int) (dn : Int) = (t : Int) := by omega
        go_wp2
        go_roundw
        case rel =>
          refine ⟨k + 1, t, by omega, by omega, by go_num, rfl, fun j e hj hje => ?_, H2.out, HR.out, HW.out⟩
          by_cases hjk : j = k
          · subst hjk
            rw [HD.out] at hje
            injection hje with hje
            rw [← hje]
            show (dn : Int) ≤ _
            omega
          · exact H1.out j e (by omega) hje
        case measure => simp [intOf]; omega
    · obtain rfl : k = l.length := by omega
      have HOK := Lib.hid (made_ok HG.out (fun e he => by
        obtain ⟨j, hj⟩ := List.getElem?_of_mem he
        exact H1.out j e (List.getElem?_eq_some_iff.1 hj).1 hj) H2.out ht)
      have h4 := HOK.out.1
      have hp4 : 4 ^ hf t ≤ 256 := show 4 ^ hf t ≤ 4 ^ 4 from Nat.pow_le_pow_right (by omega) h4
      have lR := bk_lt HR.out
      have lW := HW.out.size
      have hno := fun w' (hb : Below wr.heap.size wr w') => node_w (hf t) l (.slice A l.length cap) 0 (fun z => S z ∧ z ≠ w.heap.size) Sv w' h4 HG.out hlen (by omega) (HE.out _ (bl_step HW.out hb)) (fun z hz => ⟨HSS.out z (by have := hb.size; omega), by have := hb.size; omega⟩)
      rw [sh_zero] at hno
      have hhf := fun w => heightFor_w t w ht
      generalize hf t = H at *
      go_wp2_with (first
        | (go_at_call 48; (with_reducible refine Calls.mono (hhf _) ?_); rintro e w1 ⟨rfl, rfl⟩)
        | (go_at_call 64; (with_reducible refine Calls.mono (hno _ (Below.refl _ _)) ?_); rintro e w2 ⟨A', cap', rfl, hc', hk', hb2⟩; have HR2 := Lib.hid (bk_step HR.out hb2); have HW2 := Lib.hid (bl_step HW.out hb2); have HK2 := Lib.hid hk'; clear hk')
        | (refine wpList_store_rowTo rfl 28 (.tmp 2) (.tmp 25) rfl rfl (w.heap.size) #[.int .i64 (H : Int), .slice A' (cano H (cOf l)).kids.length cap', .int .i64 (cano H (cOf l)).val, .int .i64 (cano H (cOf l)).marks] rfl rfl 28 _ (HR2.out) tree_size rfl (tree_one _ _ _ _ _ _) ?_))
      show bodyPost Try.prog Try.f54 _ _ _ _
      refine bodyPost_ret (tree_res rfl _ _ w.heap.size _ _ _ _ _ _ rfl (setRow_heap _ _ _ _ _ _ HR2.out)) rfl ?_
      exact ⟨H, A', cap', rfl, HOK.out, hc', (HK2.out.kept (by simp [World.setRow]) (fun z hz _ => setRow_other _ _ _ _ hz.2)).weak fun _ _ h => h.1, bl_setRow HW2.out (by omega) _⟩

end Go.Proofs.Ytpoagdffpajdjaa
