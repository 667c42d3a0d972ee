/-
  change, Mark and Unmark of the reference, by contracts; trees that are not valid.
-/
import Derived.Test.YtpoagdffpajdjaaRadU
namespace Go.Proofs.Ytpoagdffpajdjaa
open Go.RowKit
set_option linter.unusedVariables false
set_option linter.unusedSimpArgs false

theorem find_set {p : En → Bool} {e' : En} (he' : p e' = false) : ∀ (l : List En) (k : Nat), (∀ e, l[k]? = some e → p e = false) → (l.set k e').find? p = l.find? p
  | [], _, _ => rfl
  | e :: l, 0, h => by
    rw [List.set_cons_zero, List.find?_cons, List.find?_cons, he', h e (by simp)]
  | e :: l, k + 1, h => by
    rw [List.set_cons_succ, List.find?_cons, List.find?_cons, find_set he' l k (fun x hx => h x (by simpa using hx))]
theorem lkP_set {l : List En} {i j : Int} {k : Nat} {v m : Int} {x : Int × Int} (hf : findP l i = (k : Int)) (h : l[k]? = some (i, v, m)) : lkP (l.set k (i, x)) j = if j = i then x else lkP l j := by
  have hk := (List.getElem?_eq_some_iff.1 h).1
  by_cases hj : j = i
  · subst hj
    rw [if_pos rfl]
    have h1 : (l.set k (j, x))[k]? = some (j, x.1, x.2) := by rw [List.getElem?_set_self hk]
    have h2 : findP (l.set k (j, x)) j = (k : Int) := findP_at h1 fun a d s c ha hac => by
      rw [List.getElem?_set_ne (by omega)] at hac
      intro e
      unfold findP at hf
      cases hx : l.findIdx? (fun e => e.1 == j) with
      | none => rw [hx] at hf; simp at hf
      | some k' =>
        rw [hx] at hf
        obtain rfl : k' = k := by simp only at hf; omega
        rw [List.findIdx?_eq_some_iff_getElem] at hx
        obtain ⟨g1, g2, g3⟩ := hx
        have := g3 a ha
        have hal : a < l.length := (List.getElem?_eq_some_iff.1 hac).1
        rw [List.getElem?_eq_getElem hal] at hac
        injection hac with hac
        rw [hac] at this
        simp [e] at this
    exact lkP_at h2 h1
  · rw [if_neg hj]
    unfold lkP
    rw [find_set (by simpa using fun e => hj e.symm) l k (fun e he => by rw [h] at he; injection he with he; rw [← he]; simpa using fun e => hj e.symm)]
theorem cOf_setk {l : List En} {j k : Nat} {v m : Int} {x : Int × Int} (hf : findP l j = (k : Int)) (h : l[k]? = some ((j : Int), v, m)) : cOf (l.set k ((j : Int), x)) = upd (cOf l) j x := by
  funext a
  show lkP _ (a : Int) = if a = j then x else lkP l (a : Int)
  rw [lkP_set hf h]
  by_cases e : a = j
  · subst e; simp
  · rw [if_neg e, if_neg (by omega)]
theorem good_set {l : List En} {k : Nat} {e : En} (hg : Good l) (he : 0 ≤ e.1 ∧ e.1 < 256 ∧ e.2 ≠ (0, 0)) : Good (l.set k e) := fun x hx => by
  rcases List.mem_or_eq_of_mem_set hx with hx | rfl
  · exact hg x hx
  · exact he
theorem own_at {w : World} {B : Nat} {v : Value} {l : List En} {k : Nat} {d s c : Int} (h : w.ownsRow B 48 3 v l.length (ens l)) (hk : l[k]? = some (d, s, c)) :
    ∃ g cap, v = .slice (some ⟨g, 0, none⟩) l.length cap ∧ l.length ≤ cap ∧ cap ≤ maxLen ∧ B ≤ g ∧ g < w.heap.size ∧ w.cell? ⟨g, k * 3, none⟩ = some (.int .i64 d) ∧ w.cell? ⟨g, k * 3 + 1, none⟩ = some (.int .i64 s) ∧ w.cell? ⟨g, k * 3 + 2, none⟩ = some (.int .i64 c) ∧ w.frozen? ⟨g, k * 3 + 2, none⟩ = false ∧
      ∀ x : Int, EA (w.setCell ⟨g, k * 3 + 2, none⟩ (.int .i64 x)) Any v (l.set k (d, s, x)) := by
  have hkl := (List.getElem?_eq_some_iff.1 hk).1
  rcases h.2 with ⟨h1, h2⟩ | ⟨g, cap, cur, h1, h2, h3, h4, h5, h6, h7⟩
  · omega
  · have hx : ∀ j, j < l.length * 3 → w.cell? ⟨g, j, none⟩ = (ens l)[j]? := fun j hj => by
      rw [← h7, List.getElem?_take, if_pos hj]
      simp [World.cell?, h3]
    obtain ⟨x0, x1, x2⟩ := ens_get l k d s c hk
    have hc2 := (hx (k * 3 + 2) (by omega)).trans x2
    refine ⟨g, cap, h1, h4, h5, h2, bk_lt h3, (hx _ (by omega)).trans x0, (hx _ (by omega)).trans x1, hc2, free_at h3 _, fun x => ?_⟩
    refine ⟨_, cap, by rw [h1, List.length_set], by rw [List.length_set]; exact h4, h5, .inr ⟨g, 0, rfl, by have := bk_lt h3; simpa [World.setCell] using this, trivial, fun i d' s' c' hi => ?_⟩⟩
    have hil : i < l.length := by have := (List.getElem?_eq_some_iff.1 hi).1; rwa [List.length_set] at this
    rw [Nat.zero_add]
    by_cases hik : i = k
    · subst hik
      rw [List.getElem?_set_self hkl] at hi
      injection hi with hi
      injection hi with e1 hi
      injection hi with e2 e3
      subst e1 e2 e3
      refine ⟨?_, ?_, ?_⟩
      · rw [World.cell?_setCell_other _ _ _ _ (by first | (simp; done) | (simp; omega))]; exact (hx _ (by omega)).trans x0
      · rw [World.cell?_setCell_other _ _ _ _ (by first | (simp; done) | (simp; omega))]; exact (hx _ (by omega)).trans x1
      · exact World.cell?_setCell_same _ _ _ hc2
    · rw [List.getElem?_set_ne (by omega)] at hi
      obtain ⟨z0, z1, z2⟩ := ens_get l i d' s' c' hi
      refine ⟨?_, ?_, ?_⟩
      · rw [World.cell?_setCell_other _ _ _ _ (by first | (simp; done) | (simp; omega))]; exact (hx _ (by omega)).trans z0
      · rw [World.cell?_setCell_other _ _ _ _ (by first | (simp; done) | (simp; omega))]; exact (hx _ (by omega)).trans z1
      · rw [World.cell?_setCell_other _ _ _ _ (by first | (simp; done) | (simp; omega))]; exact (hx _ (by omega)).trans z2
def chR (on : Bool) (c : Cn) (i m : Int) : Cn × Int := if on then markR c i m else unmarkR c i m
def chI (on : Bool) (a m : Int) : Int := if on then orI a m else notI a m
theorem chR_err {on : Bool} {c : Cn} {i m : Int} (h : (frR c i m).2 ≠ 0) : chR on c i m = (zeroC, (frR c i m).2) := by
  unfold chR markR unmarkR
  cases on <;> simp [h]
theorem chR_ok {on : Bool} {c : Cn} {i m : Int} (h : (frR c i m).2 = 0) : chR on c i m = (upd c i.toNat ((c i.toNat).1, chI on (c i.toNat).2 m), 0) := by
  unfold chR markR unmarkR chI
  cases on <;> simp [h]
set_option maxRecDepth 100000 in
set_option maxHeartbeats 4000000 in
theorem change_w (on : Bool) (h : Nat) (c : Cn) (A : Option Addr) (cap : Nat) (S : Nat → Prop) (i m : Int) (w : World) (hl : leafy c) (ht : TreeOk h c) (hcap : (cano h c).kids.length ≤ cap) (hk : NK w S A (cano h c).kids) (hS : ∀ b, w.heap.size ≤ b → S b) :
    Calls Try.prog 56 #[trV h A (cano h c).kids.length cap (cano h c).val (cano h c).marks, .int .i64 i, .int .i64 m, .bool on] w (RetTE (chR on c i m).1 (chR on c i m).2 S w) := by
  have h4 := ht.1
  have hp : 4 ^ h ≤ 256 := show 4 ^ h ≤ 4 ^ 4 from Nat.pow_le_pow_right (by omega) h4
  have HG := Lib.hid (good_ents (c := c) hp)
  have HCO := Lib.hid (cOf_ents ht.2.1)
  have hel := ents_len 0 (4 ^ h) c
  have HLV := Lib.hid hl
  have hva := fun w' (hb : Below w.heap.size w w') => rValid_w h (cano h c) A cap S w' (cano_ml _ _) hcap (hk.step hb)
  rw [valid_of hl ht] at hva
  have hen := fun w' (hb : Below w.heap.size w w') => rEntries_w h c A cap S w' hl ht hcap (hk.step hb)
  obtain ⟨n, hn⟩ : ∃ n, (cano h c).kids.length = n := ⟨_, rfl⟩
  obtain ⟨v, hv⟩ : ∃ v, (cano h c).val = v := ⟨_, rfl⟩
  obtain ⟨mm, hm⟩ : ∃ m, (cano h c).marks = m := ⟨_, rfl⟩
  rw [hn, hv, hm] at hva hen ⊢
  have HX := Lib.hid (bk_alloc (heap_alloc_at w (.cells #[.int .i64 (h : Int), .slice A n cap, .int .i64 v, .int .i64 mm] 28)) (.cells #[.int .i64 0, .slice none 0 0, .int .i64 0, .int .i64 0] 28))
  have HR := Lib.hid (heap_at_new (w.alloc (.cells #[.int .i64 (h : Int), .slice A n cap, .int .i64 v, .int .i64 mm] 28)) (.cells #[.int .i64 0, .slice none 0 0, .int .i64 0, .int .i64 0] 28) (w.heap.size + 1) (by simp))
  have HW := Lib.hid (bl_alloc (bl_alloc (Below.refl w.heap.size w) (.cells #[.int .i64 (h : Int), .slice A n cap, .int .i64 v, .int .i64 mm] 28)) (.cells #[.int .i64 0, .slice none 0 0, .int .i64 0, .int .i64 0] 28))
  have HSS := Lib.hid hS
  have hon := fun w => one_b m w
  generalize ents 0 (4 ^ h) c = es at hen HG HCO hel
  clear hn hv hm hk hS hl ht hcap
  by_cases q0 : i < 0
  · have hfe : frR c i m = ((0, 0), 2) := by unfold frR inB; rw [decide_eq_false (by omega)]; rfl
    have q1 : decide (i < 0) = true := decide_eq_true q0
    clear hen
    have HS := Lib.hid (show chR on c i m = (zeroC, 2) by rw [chR_err (by rw [hfe]; simp), hfe])
    go_enter Try.func56, Try.ntmps56
    go_wp2_with (first
      | (go_at_call 16; (with_reducible refine Calls.mono (hva _ (by (repeat (with_reducible first | assumption | exact Below.refl _ _ | refine bl_alloc ?_ _ | apply Below.drew | refine below_drewN ?_ _ | (apply bl_step2; assumption) | (refine Below.setCell ?_ (Nat.le_refl _) _) | (refine Below.setCell ?_ (by first | omega | (simp; done) | (go_simp; done)) _))))) ?_); rintro e w1 ⟨rfl, hb1⟩; have HX1 := Lib.hid (bk_step HX.out hb1); have HR1 := Lib.hid (bk_step HR.out hb1); have HW1 := Lib.hid (bl_step HW.out hb1); have x0 := cells_at HX1.out 0; have x1 := cells_at HX1.out 1; have x2 := cells_at HX1.out 2; have x3 := cells_at HX1.out 3; simp only [List.getElem?_toArray, List.getElem?_cons_zero, List.getElem?_cons_succ] at x0 x1 x2 x3)
      | (go_at_call 43; (with_reducible refine Calls.mono (hon _) ?_); rintro e w2 ⟨rfl, rfl⟩)
      | (refine wpList_store_rowTo rfl 28 (.tmp 8) (.tmp 22) rfl rfl (w.heap.size + 1) #[.int .i64 0, .slice none 0 0, .int .i64 0, .int .i64 0] rfl rfl 28 _ (HR1.out) tree_size rfl (tree_one _ _ _ _ _ _) ?_))
    show bodyPost Try.prog Try.f56 _ _ _ _
    refine bodyPost_ret (tree2_res rfl _ _ (w.heap.size + 1) _ _ _ _ _ _ _ rfl rfl (setRow_heap _ _ _ _ _ _ HR1.out)) rfl ?_
    rw [HS.out]
    exact RetTE.err (bl_setRow HW1.out (by omega) _)
  · by_cases q1 : 255 < i
    · have hfe : frR c i m = ((0, 0), 2) := by unfold frR inB; rw [decide_eq_false (by omega)]; rfl
      clear hen
      have HS := Lib.hid (show chR on c i m = (zeroC, 2) by rw [chR_err (by rw [hfe]; simp), hfe])
      go_enter Try.func56, Try.ntmps56
      go_wp2_with (first
        | (go_at_call 16; (with_reducible refine Calls.mono (hva _ (by (repeat (with_reducible first | assumption | exact Below.refl _ _ | refine bl_alloc ?_ _ | apply Below.drew | refine below_drewN ?_ _ | (apply bl_step2; assumption) | (refine Below.setCell ?_ (Nat.le_refl _) _) | (refine Below.setCell ?_ (by first | omega | (simp; done) | (go_simp; done)) _))))) ?_); rintro e w1 ⟨rfl, hb1⟩; have HX1 := Lib.hid (bk_step HX.out hb1); have HR1 := Lib.hid (bk_step HR.out hb1); have HW1 := Lib.hid (bl_step HW.out hb1); have x0 := cells_at HX1.out 0; have x1 := cells_at HX1.out 1; have x2 := cells_at HX1.out 2; have x3 := cells_at HX1.out 3; simp only [List.getElem?_toArray, List.getElem?_cons_zero, List.getElem?_cons_succ] at x0 x1 x2 x3)
        | (go_at_call 43; (with_reducible refine Calls.mono (hon _) ?_); rintro e w2 ⟨rfl, rfl⟩)
        | (refine wpList_store_rowTo rfl 28 (.tmp 8) (.tmp 22) rfl rfl (w.heap.size + 1) #[.int .i64 0, .slice none 0 0, .int .i64 0, .int .i64 0] rfl rfl 28 _ (HR1.out) tree_size rfl (tree_one _ _ _ _ _ _) ?_))
      show bodyPost Try.prog Try.f56 _ _ _ _
      refine bodyPost_ret (tree2_res rfl _ _ (w.heap.size + 1) _ _ _ _ _ _ _ rfl rfl (setRow_heap _ _ _ _ _ _ HR1.out)) rfl ?_
      rw [HS.out]
      exact RetTE.err (bl_setRow HW1.out (by omega) _)
    · obtain ⟨j, rfl⟩ := Int.eq_ofNat_of_zero_le (show 0 ≤ i by omega)
      have hib : inB (j : Int) = true := decide_eq_true (by omega)
      have q1' : ¬ 255 < j := by omega
      have j0 : (0 : Int) ≤ (j : Int) := by omega
      have j1 : (j : Int) ≤ 255 := by omega
      cases ho : oneB m with
      | false =>
        have hfe : frR c j m = ((0, 0), 1) := by unfold frR; rw [hib, ho]; rfl
        rw [ho] at hon
        clear hen ho hib
        have HS := Lib.hid (show chR on c j m = (zeroC, 1) by rw [chR_err (by rw [hfe]; simp), hfe])
        go_enter Try.func56, Try.ntmps56
        go_wp2_with (first
          | (go_at_call 16; (with_reducible refine Calls.mono (hva _ (by (repeat (with_reducible first | assumption | exact Below.refl _ _ | refine bl_alloc ?_ _ | apply Below.drew | refine below_drewN ?_ _ | (apply bl_step2; assumption) | (refine Below.setCell ?_ (Nat.le_refl _) _) | (refine Below.setCell ?_ (by first | omega | (simp; done) | (go_simp; done)) _))))) ?_); rintro e w1 ⟨rfl, hb1⟩; have HX1 := Lib.hid (bk_step HX.out hb1); have HR1 := Lib.hid (bk_step HR.out hb1); have HW1 := Lib.hid (bl_step HW.out hb1); have x0 := cells_at HX1.out 0; have x1 := cells_at HX1.out 1; have x2 := cells_at HX1.out 2; have x3 := cells_at HX1.out 3; simp only [List.getElem?_toArray, List.getElem?_cons_zero, List.getElem?_cons_succ] at x0 x1 x2 x3)
          | (go_at_call 43; (with_reducible refine Calls.mono (hon _) ?_); rintro e w2 ⟨rfl, rfl⟩)
          | (refine wpList_store_rowTo rfl 28 (.tmp 8) (.tmp 26) rfl rfl (w.heap.size + 1) #[.int .i64 0, .slice none 0 0, .int .i64 0, .int .i64 0] rfl rfl 28 _ (HR1.out) tree_size rfl (tree_one _ _ _ _ _ _) ?_))
        show bodyPost Try.prog Try.f56 _ _ _ _
        refine bodyPost_ret (tree2_res rfl _ _ (w.heap.size + 1) _ _ _ _ _ _ _ rfl rfl (setRow_heap _ _ _ _ _ _ HR1.out)) rfl ?_
        rw [HS.out]
        exact RetTE.err (bl_setRow HW1.out (by omega) _)
      | true =>
        rw [ho] at hon
        have hcl : c j = lkP es j := by rw [← HCO.out]; rfl
        have hlv := HLV.out j
        go_enter Try.func56, Try.ntmps56
        go_upto_region 8 with (first | (go_at_call 16; (with_reducible refine Calls.mono (hva _ (by (repeat (with_reducible first | assumption | exact Below.refl _ _ | refine bl_alloc ?_ _ | apply Below.drew | refine below_drewN ?_ _ | (apply bl_step2; assumption) | (refine Below.setCell ?_ (Nat.le_refl _) _) | (refine Below.setCell ?_ (by first | omega | (simp; done) | (go_simp; done)) _))))) ?_); rintro e w1 ⟨rfl, hb1⟩; have HX1 := Lib.hid (bk_step HX.out hb1); have HR1 := Lib.hid (bk_step HR.out hb1); have HW1 := Lib.hid (bl_step HW.out hb1); have x0 := cells_at HX1.out 0; have x1 := cells_at HX1.out 1; have x2 := cells_at HX1.out 2; have x3 := cells_at HX1.out 3; simp only [List.getElem?_toArray, List.getElem?_cons_zero, List.getElem?_cons_succ] at x0 x1 x2 x3) | (go_at_call 43; (with_reducible refine Calls.mono (hon _) ?_); rintro e w2 ⟨rfl, rfl⟩) | (go_at_call 25; (with_reducible refine Calls.mono (hen _ HW1.out) ?_); rintro e w2 ⟨vv, rfl, hown, hb2⟩; have HR2 := Lib.hid (bk_step HR1.out hb2); have HW2 := Lib.hid (bl_step HW1.out hb2)))
        have HE2 := Lib.hid (EA.of_own (S := Any) hown (fun _ _ => trivial))
        have HOW := Lib.hid hown
        have hE0 := HE2.out
        obtain ⟨A2, cap2, rfl, hcp2, hcm2, _⟩ := hE0
        have hff := fun w' (h : EA w' Any (.slice A2 es.length cap2) es) => rfind_w es (.slice A2 es.length cap2) Any (j : Int) w' h
        have hsz2 := hb2.size
        have hlr1 := bk_lt HR1.out
        unfold maxLen at hcm2
        clear hown hb1 hb2 hva hen HX1 HR1 HW1 x0 x1 x2 x3 HX HR HW hon
        rcases findP_range es (j : Int) with hf | ⟨k, hf, hkl, s, c', hat⟩
        · have hfe : frR c j m = ((0, 0), 4) := by unfold frR; rw [hib, ho, Int.toNat_natCast, hcl, lkP_no hf]; simp
          have HS := Lib.hid (show chR on c j m = (zeroC, 4) by rw [chR_err (by rw [hfe]; simp), hfe])
          rw [hf] at hff
          clear hib ho hcl hlv hf hfe
          go_wp2_with (first | (go_at_call 51; (with_reducible refine Calls.mono (hff _ HE2.out) ?_); rintro e w3 ⟨rfl, rfl⟩) | (refine wpList_store_rowTo rfl 28 (.tmp 8) (.tmp 42) rfl rfl (w.heap.size + 1) #[.int .i64 0, .slice none 0 0, .int .i64 0, .int .i64 0] rfl rfl 28 _ (HR2.out) tree_size rfl (tree_one _ _ _ _ _ _) ?_))
          show bodyPost Try.prog Try.f56 _ _ _ _
          refine bodyPost_ret (tree2_res rfl _ _ (w.heap.size + 1) _ _ _ _ _ _ _ rfl rfl (setRow_heap _ _ _ _ _ _ HR2.out)) rfl ?_
          rw [HS.out]
          exact RetTE.err (bl_setRow HW2.out (by omega) _)
        · rw [hf] at hff
          have hcj : c j = (s, c') := by rw [hcl]; exact lkP_at hf hat
          rw [hcj] at hlv
          have hne : (s, c') ≠ (0, 0) := (HG.out _ (List.mem_of_getElem? hat)).2.2
          have hs0 : s ≠ 0 := by
            rcases hlv with e | e
            · exact absurd e hne
            · exact e.1
          obtain ⟨g, cap3, hvv, hl3, hm3, hB3, hg3, c0, c1, c2, f2, hset⟩ := own_at HOW.out hat
          injection hvv with hv1 _ hv3
          subst hv1 hv3
          have k0 : (0 : Int) ≤ (k : Int) := by omega
          have k1 : (k : Int) < (es.length : Int) := by omega
          have k2 : ¬ (k : Int) < 0 := by omega
          clear hcl hlv hne
          by_cases hneg : s < 0
          · have hfe : frR c j m = ((0, 0), 4) := by unfold frR; rw [hib, ho, Int.toNat_natCast, hcj, if_pos rfl, if_pos rfl, if_pos (show s ≤ 0 by omega)]
            have HS := Lib.hid (show chR on c j m = (zeroC, 4) by rw [chR_err (by rw [hfe]; simp), hfe])
            clear hib ho hf hfe hcj hat hset
            go_wp2_with (first | (go_at_call 51; (with_reducible refine Calls.mono (hff _ HE2.out) ?_); rintro e w3 ⟨rfl, rfl⟩) | (refine wpList_store_rowTo rfl 28 (.tmp 8) (.tmp 42) rfl rfl (w.heap.size + 1) #[.int .i64 0, .slice none 0 0, .int .i64 0, .int .i64 0] rfl rfl 28 _ (HR2.out) tree_size rfl (tree_one _ _ _ _ _ _) ?_))
            show bodyPost Try.prog Try.f56 _ _ _ _
            refine bodyPost_ret (tree2_res rfl _ _ (w.heap.size + 1) _ _ _ _ _ _ _ rfl rfl (setRow_heap _ _ _ _ _ _ HR2.out)) rfl ?_
            rw [HS.out]
            exact RetTE.err (bl_setRow HW2.out (by omega) _)
          · have hfr : (frR c (j : Int) m).2 = 0 := by unfold frR; rw [hib, ho, Int.toNat_natCast, hcj, if_pos rfl, if_pos rfl, if_neg (show ¬ s ≤ 0 by omega)]
            clear hib ho
            cases on with
            | true =>
              have hco : cOf (es.set k ((j : Int), s, orI c' m)) = upd c j ((c j).1, orI (c j).2 m) := by rw [cOf_setk hf hat, HCO.out, hcj]
              have hma := fun w' (hE : EA w' Any (.slice (some ⟨g, 0, none⟩) es.length cap2) (es.set k ((j : Int), s, orI c' m))) => made_w _ (.slice (some ⟨g, 0, none⟩) es.length cap2) (fun z => S z ∧ z ≠ w.heap.size + 1) Any w' (good_set HG.out ⟨by omega, by show (j : Int) < 256; omega, fun e => by injection e with e _; omega⟩) (by rw [List.length_set]; omega) hE
              rw [hco] at hma
              have HS := Lib.hid (show chR true c j m = (upd c j ((c j).1, orI (c j).2 m), 0) by rw [chR_ok hfr, Int.toNat_natCast]; rfl)
              have HES := Lib.hid (hset (orI c' m))
              have hlk := bk_lt HR2.out
              have hnr : w.heap.size + 1 ≠ g := by omega
              clear hco hfr hat hcj hf
              generalize upd c j ((c j).1, orI (c j).2 m) = cc at *
              clear hset
              go_wp2_with (first
                | (go_at_call 51; (with_reducible refine Calls.mono (hff _ HE2.out) ?_); rintro e w3 ⟨rfl, rfl⟩)
                | (go_at_call 54; (with_reducible refine Calls.mono (hma _ HES.out (fun z hz => ⟨HSS.out z (by simp [World.setCell] at hz; omega), by simp [World.setCell] at hz; omega⟩)) ?_); rintro e w3 ⟨h', A', cap', rfl, ht', hc', hk', hb3⟩; have HR3 := Lib.hid (bk_step (set_bk HR2.out _ _ hnr) hb3); have HW3 := Lib.hid (bl_step (HW2.out.setCell (by simp only; omega) _) hb3))
                | (refine wpList_store_rowTo rfl 28 (.tmp 8) (.tmp 63) rfl rfl (w.heap.size + 1) #[.int .i64 (h' : Int), .slice A' (cano h' cc).kids.length cap', .int .i64 (cano h' cc).val, .int .i64 (cano h' cc).marks] rfl rfl 28 _ (HR3.out) tree_size rfl (tree_one _ _ _ _ _ _) ?_))
              show bodyPost Try.prog Try.f56 _ _ _ _
              refine bodyPost_ret (tree2_res rfl _ _ (w.heap.size + 1) _ _ _ _ _ _ _ rfl rfl (setRow_heap _ _ _ _ _ _ HR3.out)) rfl ?_
              rw [HS.out]
              exact ⟨h', A', cap', rfl, ht', hc', (hk'.kept (by simp [World.setRow]) (fun z hz _ => setRow_other _ _ _ _ hz.2)).weak fun _ _ h => h.1, bl_setRow HW3.out (by omega) _⟩
            | false =>
              have hco : cOf (es.set k ((j : Int), s, notI c' m)) = upd c j ((c j).1, notI (c j).2 m) := by rw [cOf_setk hf hat, HCO.out, hcj]
              have hma := fun w' (hE : EA w' Any (.slice (some ⟨g, 0, none⟩) es.length cap2) (es.set k ((j : Int), s, notI c' m))) => made_w _ (.slice (some ⟨g, 0, none⟩) es.length cap2) (fun z => S z ∧ z ≠ w.heap.size + 1) Any w' (good_set HG.out ⟨by omega, by show (j : Int) < 256; omega, fun e => by injection e with e _; omega⟩) (by rw [List.length_set]; omega) hE
              rw [hco] at hma
              have HS := Lib.hid (show chR false c j m = (upd c j ((c j).1, notI (c j).2 m), 0) by rw [chR_ok hfr, Int.toNat_natCast]; rfl)
              have HES := Lib.hid (hset (notI c' m))
              have hlk := bk_lt HR2.out
              have hnr : w.heap.size + 1 ≠ g := by omega
              clear hco hfr hat hcj hf
              generalize upd c j ((c j).1, notI (c j).2 m) = cc at *
              clear hset
              go_wp2_with (first
                | (go_at_call 51; (with_reducible refine Calls.mono (hff _ HE2.out) ?_); rintro e w3 ⟨rfl, rfl⟩)
                | (go_at_call 54; (with_reducible refine Calls.mono (hma _ HES.out (fun z hz => ⟨HSS.out z (by simp [World.setCell] at hz; omega), by simp [World.setCell] at hz; omega⟩)) ?_); rintro e w3 ⟨h', A', cap', rfl, ht', hc', hk', hb3⟩; have HR3 := Lib.hid (bk_step (set_bk HR2.out _ _ hnr) hb3); have HW3 := Lib.hid (bl_step (HW2.out.setCell (by simp only; omega) _) hb3))
                | (refine wpList_store_rowTo rfl 28 (.tmp 8) (.tmp 63) rfl rfl (w.heap.size + 1) #[.int .i64 (h' : Int), .slice A' (cano h' cc).kids.length cap', .int .i64 (cano h' cc).val, .int .i64 (cano h' cc).marks] rfl rfl 28 _ (HR3.out) tree_size rfl (tree_one _ _ _ _ _ _) ?_))
              show bodyPost Try.prog Try.f56 _ _ _ _
              refine bodyPost_ret (tree2_res rfl _ _ (w.heap.size + 1) _ _ _ _ _ _ _ rfl rfl (setRow_heap _ _ _ _ _ _ HR3.out)) rfl ?_
              rw [HS.out]
              exact ⟨h', A', cap', rfl, ht', hc', (hk'.kept (by simp [World.setRow]) (fun z hz _ => setRow_other _ _ _ _ hz.2)).weak fun _ _ h => h.1, bl_setRow HW3.out (by omega) _⟩

end Go.Proofs.Ytpoagdffpajdjaa
