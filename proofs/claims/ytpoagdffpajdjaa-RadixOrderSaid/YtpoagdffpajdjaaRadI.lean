/-
  Valid and Entries of the reference, by contracts.
-/
import Derived.Test.YtpoagdffpajdjaaRadJ
namespace Go.Proofs.Ytpoagdffpajdjaa
open Go.RowKit
set_option linter.unusedVariables false
set_option linter.unusedSimpArgs false

theorem LS.bl {W w' : World} {v : Value} {B : Nat} {L : List En} (h : LS W (.slice none 0 0) B L v w') : Below W.heap.size W w' := ⟨h.gr.os, h.gr.tape, h.gr.output, h.gr.size, fun k hk => h.gr.block k hk (by simp [Value.ownBlock])⟩
theorem natB (a b : Nat) : ((a : Int) == (b : Int)) = decide (a = b) := by
  by_cases h : a = b
  · subst h; simp
  · rw [decide_eq_false h]; exact beq_eq_false_iff_ne.2 (by omega)
set_option maxRecDepth 100000 in
set_option maxHeartbeats 2000000 in
theorem rValid_w (hI : Int) (t : T) (A : Option Addr) (cap : Nat) (S : Nat → Prop) (w : World) (hm : t.kids.length ≤ maxLen) (hcap : t.kids.length ≤ cap) (hk : NK w S A t.kids) :
    Calls Try.prog 16 #[trV hI A t.kids.length cap t.val t.marks] w (RetB (validT hI t) w) := by
  by_cases h0 : 0 ≤ hI
  · by_cases h4 : hI ≤ 4
    · obtain ⟨h, rfl⟩ := Int.eq_ofNat_of_zero_le h0
      have hr := fun w' (hb : Below w.heap.size w w') => subtree_w h t A cap S w' (by omega) hcap (hk.step hb)
      cases hrt : rightT h t with
      | false =>
        have HV := Lib.hid (show validT h t = false by unfold validT; rw [Int.toNat_natCast, hrt]; simp)
        rw [hrt] at hr
        obtain ⟨n, hn⟩ : ∃ n, t.kids.length = n := ⟨_, rfl⟩
        obtain ⟨v, hv⟩ : ∃ v, t.val = v := ⟨_, rfl⟩
        obtain ⟨mm, hm'⟩ : ∃ m, t.marks = m := ⟨_, rfl⟩
        rw [hn, hv, hm'] at hr ⊢
        clear hrt hn hv hm' hk hm hcap
        have HX := Lib.hid (heap_alloc_at w (.cells #[.int .i64 (h : Int), .slice A n cap, .int .i64 v, .int .i64 mm] 28))
        have HW := Lib.hid (bl_alloc (Below.refl w.heap.size w) (.cells #[.int .i64 (h : Int), .slice A n cap, .int .i64 v, .int .i64 mm] 28))
        go_enter Try.func16, Try.ntmps16
        go_wp2_with (go_at_call 46; (with_reducible refine Calls.mono (hr _ (by (repeat (with_reducible first | assumption | exact Below.refl _ _ | refine bl_alloc ?_ _ | apply Below.drew | refine below_drewN ?_ _ | (apply bl_step2; assumption) | (refine Below.setCell ?_ (Nat.le_refl _) _) | (refine Below.setCell ?_ (by first | omega | (simp; done) | (go_simp; done)) _))))) ?_); rintro e w1 ⟨rfl, hb1⟩; have HX1 := Lib.hid (bk_step HX.out hb1); have HW1 := Lib.hid (bl_step HW.out hb1); have x0 := cells_at HX1.out 0; have x1 := cells_at HX1.out 1; have x2 := cells_at HX1.out 2; have x3 := cells_at HX1.out 3; simp only [List.getElem?_toArray, List.getElem?_cons_zero, List.getElem?_cons_succ] at x0 x1 x2 x3)
        go_ret
        exact ⟨ret_bool HV.out.symm, HW1.out⟩
      | true =>
        obtain ⟨c, hl, hz, rfl⟩ := cano_of_right h hrt
        have hp : 4 ^ h ≤ 256 := show 4 ^ h ≤ 4 ^ 4 from Nat.pow_le_pow_right (by omega) (by omega)
        have hli := fun w' (hb : Below w.heap.size w w') => rlist_w h c A cap (.slice none 0 0) w.heap.size [] 0 w' (by omega) (by omega) (by simp; omega) hcap hb.size ((hk.step hb).weak fun _ _ _ => by simp [Value.ownBlock]) (World.ownsRow_nil _ _ _ _)
        rw [List.nil_append] at hli
        have hvl := valid_list (h := h) (by omega) hl hz
        rw [hrt] at hr
        obtain ⟨n, hn⟩ : ∃ n, (cano h c).kids.length = n := ⟨_, rfl⟩
        obtain ⟨v, hv⟩ : ∃ v, (cano h c).val = v := ⟨_, rfl⟩
        obtain ⟨mm, hm'⟩ : ∃ m, (cano h c).marks = m := ⟨_, rfl⟩
        rw [hn, hv, hm'] at hr hli ⊢
        generalize validT h (cano h c) = res at hvl ⊢
        have hen := ents_len 0 (4 ^ h) c
        generalize ents 0 (4 ^ h) c = es at hvl hli hen
        generalize 4 ^ h = p at hp hen
        have HVL := Lib.hid hvl
        clear hrt hn hv hm' hk hm hcap hl hz hvl
        have HX := Lib.hid (heap_alloc_at w (.cells #[.int .i64 (h : Int), .slice A n cap, .int .i64 v, .int .i64 mm] 28))
        have HW := Lib.hid (bl_alloc (Below.refl w.heap.size w) (.cells #[.int .i64 (h : Int), .slice A n cap, .int .i64 v, .int .i64 mm] 28))
        go_enter Try.func16, Try.ntmps16
        go_upto_region 3 with (go_at_call 46; (with_reducible refine Calls.mono (hr _ (by (repeat (with_reducible first | assumption | exact Below.refl _ _ | refine bl_alloc ?_ _ | apply Below.drew | refine below_drewN ?_ _ | (apply bl_step2; assumption) | (refine Below.setCell ?_ (Nat.le_refl _) _) | (refine Below.setCell ?_ (by first | omega | (simp; done) | (go_simp; done)) _))))) ?_); rintro e w1 ⟨rfl, hb1⟩; have HX1 := Lib.hid (bk_step HX.out hb1); have HW1 := Lib.hid (bl_step HW.out hb1); have x0 := cells_at HX1.out 0; have x1 := cells_at HX1.out 1; have x2 := cells_at HX1.out 2; have x3 := cells_at HX1.out 3; simp only [List.getElem?_toArray, List.getElem?_cons_zero, List.getElem?_cons_succ] at x0 x1 x2 x3)
        go_cut [1, 3] (fun s1 s3 wx => s1 = .pointer (some ⟨w.heap.size, 0, none⟩) ∧ wx.heap[w.heap.size]? = some (.cells #[.int .i64 (h : Int), .slice A n cap, .int .i64 v, .int .i64 mm] 28 (0, 0)) ∧ EA wx Any s3 es ∧ Below w.heap.size w wx)
        case first =>
          go_wp2_with (go_at_call 47; (with_reducible refine Calls.mono (hli _ HW1.out) ?_); rintro e w2 ⟨vv, rfl, hS⟩)
          go_meet
          case rel => exact ⟨rfl, hS.bk HX1.out (by simp [Value.ownBlock]), EA.of_own hS.own (fun _ _ => trivial), bl_step HW1.out hS.bl⟩
        case rest =>
          clear HX HW HX1 HW1 x0 x1 x2 x3 hb1
          obtain ⟨rfl, hX, hE, hW⟩ := hcut
          have HX := Lib.hid hX
          have HW := Lib.hid hW
          have hE0 := hE
          obtain ⟨A', cap', rfl, _, _, _⟩ := hE0
          have HE := Lib.hid hE
          have x0 := cells_at HX.out 0; have x1 := cells_at HX.out 1; have x2 := cells_at HX.out 2; have x3 := cells_at HX.out 3; simp only [List.getElem?_toArray, List.getElem?_cons_zero, List.getElem?_cons_succ] at x0 x1 x2 x3
          clear hX hW hE
          rcases HVL.out with ⟨rfl, hr1⟩ | ⟨l', j, xx, yy, rfl, hj, hr1⟩
          · have HR := Lib.hid hr1
            clear hr1
            by_cases hh : h = 0
            · subst hh
              go_wp2
              go_ret
              exact ⟨ret_bool (by rw [HR.out]; rfl), HW.out⟩
            · have e1 : ((h : Int) == 0) = false := beq_eq_false_iff_ne.2 (by omega)
              have e2 : decide ((h : Int) = 0) = false := decide_eq_false (by omega)
              have HD := Lib.hid (decide_eq_false hh)
              go_wp2
              go_ret
              exact ⟨ret_bool (by rw [HR.out, HD.out]), HW.out⟩
          · have HR := Lib.hid hr1
            clear hr1
            have hlen : (l' ++ [((j : Int), xx, yy)]).length = l'.length + 1 := by simp
            obtain ⟨b, o, cap'', d, s, c', e0, _, _, hbl, he, c0, c1, c2⟩ := HE.out.at_ (i := l'.length) (by rw [hlen]; omega)
            injection e0 with e0 e1 e2
            subst e0 e2
            rw [List.getElem?_append_right (by omega), Nat.sub_self] at he
            simp only [List.getElem?_cons_zero, Option.some.injEq, Prod.mk.injEq] at he
            obtain ⟨rfl, rfl, rfl⟩ := he
            rw [hlen] at hen
            have hls := fun w => heightFor_w j w hj
            have e1 : ((l'.length : Int) + 1 == 0) = false := beq_eq_false_iff_ne.2 (by omega)
            have i0 : IntKind.i64.wrap ((l'.length : Int) + 1 - 1) = (l'.length : Int) := by rw [show (l'.length : Int) + 1 - 1 = l'.length by omega]; exact w64 (by omega)
            have i1 : (0 : Int) ≤ (l'.length : Int) := by omega
            have i2 : (l'.length : Int) < (l'.length : Int) + 1 := by omega
            have HLN := Lib.hid hlen
            rw [hlen]
            clear hlen
            generalize l'.length = n' at *
            have lX := bk_lt HX.out
            go_upto_region 6 with fail
            go_quiet ((go_at_call 48; exact Calls.quiet_of_eq (hls _)))
            go_wp2
            go_ret
            exact ⟨ret_bool (by rw [HR.out]; exact natB _ _), below_drewN HW.out _⟩
    · have HV := Lib.hid (show validT hI t = false by unfold validT; rw [decide_eq_false (by omega)]; rfl)
      obtain ⟨n, hn⟩ : ∃ n, t.kids.length = n := ⟨_, rfl⟩
      obtain ⟨v, hv⟩ : ∃ v, t.val = v := ⟨_, rfl⟩
      obtain ⟨mm, hm'⟩ : ∃ m, t.marks = m := ⟨_, rfl⟩
      rw [hn, hv, hm']
      have HW := Lib.hid (bl_alloc (Below.refl w.heap.size w) (.cells #[.int .i64 hI, .slice A n cap, .int .i64 v, .int .i64 mm] 28))
      clear hn hv hm' hk hm hcap
      go_enter Try.func16, Try.ntmps16
      go_wp2
      go_ret
      exact ⟨ret_bool HV.out.symm, HW.out⟩
  · have HV := Lib.hid (show validT hI t = false by unfold validT; rw [decide_eq_false (by omega)]; rfl)
    obtain ⟨n, hn⟩ : ∃ n, t.kids.length = n := ⟨_, rfl⟩
    obtain ⟨v, hv⟩ : ∃ v, t.val = v := ⟨_, rfl⟩
    obtain ⟨mm, hm'⟩ : ∃ m, t.marks = m := ⟨_, rfl⟩
    rw [hn, hv, hm']
    have HW := Lib.hid (bl_alloc (Below.refl w.heap.size w) (.cells #[.int .i64 hI, .slice A n cap, .int .i64 v, .int .i64 mm] 28))
    clear hn hv hm' hk hm hcap
    go_enter Try.func16, Try.ntmps16
    go_wp2
    go_ret
    exact ⟨ret_bool HV.out.symm, HW.out⟩

set_option maxRecDepth 100000 in
set_option maxHeartbeats 2000000 in
theorem rEntries_w (h : Nat) (c : Cn) (A : Option Addr) (cap : Nat) (S : Nat → Prop) (w : World) (hl : leafy c) (ht : TreeOk h c) (hcap : (cano h c).kids.length ≤ cap) (hk : NK w S A (cano h c).kids) :
    Calls Try.prog 25 #[trV h A (cano h c).kids.length cap (cano h c).val (cano h c).marks] w (RetE (ents 0 (4 ^ h) c) w) := by
  have h4 := ht.1
  have hp : 4 ^ h ≤ 256 := show 4 ^ h ≤ 4 ^ 4 from Nat.pow_le_pow_right (by omega) h4
  have hva := fun w' (hb : Below w.heap.size w w') => rValid_w h (cano h c) A cap S w' (cano_ml _ _) hcap (hk.step hb)
  rw [valid_of hl ht] at hva
  have hli := fun w' (hb : Below w.heap.size w w') => rlist_w h c A cap (.slice none 0 0) w.heap.size [] 0 w' h4 (by omega) (by simp; omega) hcap hb.size ((hk.step hb).weak fun _ _ _ => by simp [Value.ownBlock]) (World.ownsRow_nil _ _ _ _)
  rw [List.nil_append] at hli
  obtain ⟨n, hn⟩ : ∃ n, (cano h c).kids.length = n := ⟨_, rfl⟩
  obtain ⟨v, hv⟩ : ∃ v, (cano h c).val = v := ⟨_, rfl⟩
  obtain ⟨mm, hm⟩ : ∃ m, (cano h c).marks = m := ⟨_, rfl⟩
  rw [hn, hv, hm] at hva hli ⊢
  have HX := Lib.hid (heap_alloc_at w (.cells #[.int .i64 (h : Int), .slice A n cap, .int .i64 v, .int .i64 mm] 28))
  have HW := Lib.hid (bl_alloc (Below.refl w.heap.size w) (.cells #[.int .i64 (h : Int), .slice A n cap, .int .i64 v, .int .i64 mm] 28))
  generalize ents 0 (4 ^ h) c = es at hli ⊢
  clear hn hv hm hk hl ht hcap hp
  go_enter Try.func25, Try.ntmps25
  go_wp2_with (first
    | (go_at_call 16; (with_reducible refine Calls.mono (hva _ (by (repeat (with_reducible first | assumption | exact Below.refl _ _ | refine bl_alloc ?_ _ | apply Below.drew | refine below_drewN ?_ _ | (apply bl_step2; assumption) | (refine Below.setCell ?_ (Nat.le_refl _) _) | (refine Below.setCell ?_ (by first | omega | (simp; done) | (go_simp; done)) _))))) ?_); rintro e w1 ⟨rfl, hb1⟩; have HX1 := Lib.hid (bk_step HX.out hb1); have HW1 := Lib.hid (bl_step HW.out hb1); have x0 := cells_at HX1.out 0; have x1 := cells_at HX1.out 1; have x2 := cells_at HX1.out 2; have x3 := cells_at HX1.out 3; simp only [List.getElem?_toArray, List.getElem?_cons_zero, List.getElem?_cons_succ] at x0 x1 x2 x3)
    | (go_at_call 47; (with_reducible refine Calls.mono (hli _ HW1.out) ?_); rintro e w2 ⟨vv, rfl, hS⟩))
  go_ret
  exact RetE.of HW1.out hS
theorem rEntries_bad (hI : Int) (t : T) (A : Option Addr) (cap : Nat) (S : Nat → Prop) (w : World) (hm : t.kids.length ≤ maxLen) (hcap : t.kids.length ≤ cap) (hk : NK w S A t.kids) (hbad : validT hI t = false) :
    Calls Try.prog 25 #[trV hI A t.kids.length cap t.val t.marks] w (RetE [] w) := by
  have hva := fun w' (hb : Below w.heap.size w w') => rValid_w hI t A cap S w' hm hcap (hk.step hb)
  rw [hbad] at hva
  obtain ⟨n, hn⟩ : ∃ n, t.kids.length = n := ⟨_, rfl⟩
  obtain ⟨v, hv⟩ : ∃ v, t.val = v := ⟨_, rfl⟩
  obtain ⟨mm, hm'⟩ : ∃ m, t.marks = m := ⟨_, rfl⟩
  rw [hn, hv, hm'] at hva ⊢
  clear hn hv hm' hk hbad hm hcap
  have HW := Lib.hid (bl_alloc (Below.refl w.heap.size w) (.cells #[.int .i64 hI, .slice A n cap, .int .i64 v, .int .i64 mm] 28))
  go_enter Try.func25, Try.ntmps25
  go_wp2_with (go_at_call 16; (with_reducible refine Calls.mono (hva _ (by (repeat (with_reducible first | assumption | exact Below.refl _ _ | refine bl_alloc ?_ _ | apply Below.drew | refine below_drewN ?_ _ | (apply bl_step2; assumption) | (refine Below.setCell ?_ (Nat.le_refl _) _) | (refine Below.setCell ?_ (by first | omega | (simp; done) | (go_simp; done)) _))))) ?_); rintro e w1 ⟨rfl, hb1⟩)
  go_ret
  exact ⟨_, rfl, World.ownsRow_nil _ _ _ _, bl_step HW.out hb1⟩

end Go.Proofs.Ytpoagdffpajdjaa
