/-
  Set, Mark and Unmark of the reference, by contracts.
-/
import Derived.Test.YtpoagdffpajdjaaRadT
namespace Go.Proofs.Ytpoagdffpajdjaa
open Go.RowKit
set_option linter.unusedVariables false
set_option linter.unusedSimpArgs false

theorem cOf_ents {n : Nat} {c : Cn} (hz : ∀ i, n ≤ i → c i = (0, 0)) : cOf (ents 0 n c) = c := by
  funext i
  show lkP (ents 0 n c) (i : Int) = c i
  rw [lkP_ents hz, if_pos (by omega), Int.toNat_natCast]
theorem good_ents {n : Nat} {c : Cn} (hn : n ≤ 256) : Good (ents 0 n c) := fun e he => by
  obtain ⟨j, hj, hne, rfl⟩ := mem_ents.1 he
  exact ⟨by show (0 : Int) ≤ ((0 + j : Nat) : Int); omega, by show ((0 + j : Nat) : Int) < 256; omega, hne⟩
def outP (l : List En) (i : Int) : List En := l.filter (fun e => e.1 != i)
theorem outP_take {l : List En} {i : Int} {k : Nat} {e : En} (h : l[k]? = some e) : outP (l.take (k + 1)) i = outP (l.take k) i ++ if e.1 != i then [e] else [] := by
  unfold outP
  rw [List.take_add_one, h, Option.toList_some, List.filter_append, List.filter_cons, List.filter_nil]
theorem lkP_out {l : List En} {i j : Int} : lkP (outP l i) j = if j = i then (0, 0) else lkP l j := by
  by_cases h : j = i
  · subst h
    rw [if_pos rfl]
    exact lkP_nil_of fun e he => by
      have := (List.mem_filter.1 he).2
      simpa using this
  · rw [if_neg h]
    unfold lkP outP
    rw [List.find?_filter]
    congr 2
    funext e
    by_cases he : e.1 = j
    · subst he; simp [h]
    · have : (e.1 == j) = false := beq_eq_false_iff_ne.2 he
      rw [this]
      simp
theorem lkP_app {l : List En} {e : En} {j : Int} : lkP (l ++ [e]) j = if (l.find? (fun x => x.1 == j)).isSome then lkP l j else if e.1 = j then e.2 else (0, 0) := by
  unfold lkP
  rw [List.find?_append]
  cases l.find? (fun x => x.1 == j) with
  | some x => rfl
  | none =>
    simp only [Option.none_or, Option.isSome_none, List.find?_singleton]
    by_cases h : e.1 = j
    · simp [h]
    · simp [h]
theorem out_find {l : List En} {i : Int} : (outP l i).find? (fun x => x.1 == i) = none := by
  rw [List.find?_eq_none]
  intro e he
  have := (List.mem_filter.1 he).2
  simpa using this
theorem cOf_set0 {l : List En} {j : Nat} : cOf (outP l j) = upd (cOf l) j (0, 0) := by
  funext k
  show lkP (outP l j) (k : Int) = if k = j then (0, 0) else lkP l (k : Int)
  rw [lkP_out]
  by_cases h : k = j
  · subst h; simp
  · rw [if_neg h, if_neg (by omega)]
theorem cOf_set1 {l : List En} {j : Nat} {y : Int} : cOf (outP l j ++ [((j : Int), y, 0)]) = upd (cOf l) j (y, 0) := by
  funext k
  show lkP (outP l j ++ [((j : Int), y, 0)]) (k : Int) = if k = j then (y, 0) else lkP l (k : Int)
  rw [lkP_app]
  by_cases h : k = j
  · subst h
    rw [out_find]
    simp
  · rw [if_neg (show ¬ (j : Int) = (k : Int) by omega), if_neg h]
    have h2 := lkP_out (l := l) (i := (j : Int)) (j := (k : Int))
    rw [if_neg (by omega)] at h2
    rw [← h2]
    split
    · rfl
    · next hn =>
      unfold lkP
      rw [Option.not_isSome_iff_eq_none.1 hn]
theorem good_out {l : List En} (hg : Good l) (i : Int) : Good (outP l i) := fun e he => hg e (List.mem_filter.1 he).1
theorem good_app {l : List En} {e : En} (hg : Good l) (h : 0 ≤ e.1 ∧ e.1 < 256 ∧ e.2 ≠ (0, 0)) : Good (l ++ [e]) := fun x hx => by
  rcases List.mem_append.1 hx with hx | hx
  · exact hg x hx
  · simp at hx; subst hx; exact h
theorem outP_len (l : List En) (i : Int) : (outP l i).length ≤ l.length := List.length_filter_le _ _
set_option maxRecDepth 100000 in
set_option maxHeartbeats 4000000 in
theorem rSet_w (h : Nat) (c : Cn) (A : Option Addr) (cap : Nat) (S : Nat → Prop) (i y : Int) (w : World) (hl : leafy c) (ht : TreeOk h c) (hcap : (cano h c).kids.length ≤ cap) (hk : NK w S A (cano h c).kids) (hS : ∀ b, w.heap.size ≤ b → S b) :
    Calls Try.prog 31 #[trV h A (cano h c).kids.length cap (cano h c).val (cano h c).marks, .int .i64 i, .int .i64 y] w (RetTE (setR c i y).1 (setR c i y).2 S w) := by
  have h4 := ht.1
  have hp : 4 ^ h ≤ 256 := show 4 ^ h ≤ 4 ^ 4 from Nat.pow_le_pow_right (by omega) h4
  have HG := Lib.hid (good_ents (c := c) hp)
  have HCO := Lib.hid (cOf_ents ht.2.1)
  have hel := ents_len 0 (4 ^ h) c
  have hva := fun w' (hb : Below w.heap.size w w') => rValid_w h (cano h c) A cap S w' (cano_ml _ _) hcap (hk.step hb)
  rw [valid_of hl ht] at hva
  have hen := fun w' (hb : Below w.heap.size w w') => rEntries_w h c A cap S w' hl ht hcap (hk.step hb)
  obtain ⟨n, hn⟩ : ∃ n, (cano h c).kids.length = n := ⟨_, rfl⟩
  obtain ⟨v, hv⟩ : ∃ v, (cano h c).val = v := ⟨_, rfl⟩
  obtain ⟨mm, hm⟩ : ∃ m, (cano h c).marks = m := ⟨_, rfl⟩
  rw [hn, hv, hm] at hva hen ⊢
  have HX := Lib.hid (bk_alloc (heap_alloc_at w (.cells #[.int .i64 (h : Int), .slice A n cap, .int .i64 v, .int .i64 mm] 28)) (.cells #[.int .i64 0, .slice none 0 0, .int .i64 0, .int .i64 0] 28))
  have HR := Lib.hid (heap_at_new (w.alloc (.cells #[.int .i64 (h : Int), .slice A n cap, .int .i64 v, .int .i64 mm] 28)) (.cells #[.int .i64 0, .slice none 0 0, .int .i64 0, .int .i64 0] 28) (w.heap.size + 1) (by simp))
  have HW := Lib.hid (bl_alloc (bl_alloc (Below.refl w.heap.size w) (.cells #[.int .i64 (h : Int), .slice A n cap, .int .i64 v, .int .i64 mm] 28)) (.cells #[.int .i64 0, .slice none 0 0, .int .i64 0, .int .i64 0] 28))
  have HSS := Lib.hid hS
  obtain ⟨i0, hi, hz0, hz1, hz2⟩ := info_parts entry_info
  generalize ents 0 (4 ^ h) c = es at hen HG HCO hel
  clear hn hv hm hk hS hl ht hcap
  by_cases q0 : i < 0
  · have HS := Lib.hid (show setR c i y = (zeroC, 2) by unfold setR inB; rw [decide_eq_false (by omega)]; rfl)
    have q1 : decide (i < 0) = true := decide_eq_true q0
    clear hen
    go_enter Try.func31, Try.ntmps31
    go_wp2_with (first
      | (go_at_call 16; (with_reducible refine Calls.mono (hva _ (by (repeat (with_reducible first | assumption | exact Below.refl _ _ | refine bl_alloc ?_ _ | apply Below.drew | refine below_drewN ?_ _ | (apply bl_step2; assumption) | (refine Below.setCell ?_ (Nat.le_refl _) _) | (refine Below.setCell ?_ (by first | omega | (simp; done) | (go_simp; done)) _))))) ?_); rintro e w1 ⟨rfl, hb1⟩; have HX1 := Lib.hid (bk_step HX.out hb1); have HR1 := Lib.hid (bk_step HR.out hb1); have HW1 := Lib.hid (bl_step HW.out hb1); have x0 := cells_at HX1.out 0; have x1 := cells_at HX1.out 1; have x2 := cells_at HX1.out 2; have x3 := cells_at HX1.out 3; simp only [List.getElem?_toArray, List.getElem?_cons_zero, List.getElem?_cons_succ] at x0 x1 x2 x3)
      | (refine wpList_store_rowTo rfl 28 (.tmp 6) (.tmp 21) rfl rfl (w.heap.size + 1) #[.int .i64 0, .slice none 0 0, .int .i64 0, .int .i64 0] rfl rfl 28 _ (HR1.out) tree_size rfl (tree_one _ _ _ _ _ _) ?_))
    show bodyPost Try.prog Try.f31 _ _ _ _
    refine bodyPost_ret (tree2_res rfl _ _ (w.heap.size + 1) _ _ _ _ _ _ _ rfl rfl (setRow_heap _ _ _ _ _ _ HR1.out)) rfl ?_
    rw [HS.out]
    exact RetTE.err (bl_setRow HW1.out (by omega) _)
  · by_cases q1 : 255 < i
    · have HS := Lib.hid (show setR c i y = (zeroC, 2) by unfold setR inB; rw [decide_eq_false (by omega)]; rfl)
      clear hen
      go_enter Try.func31, Try.ntmps31
      go_wp2_with (first
        | (go_at_call 16; (with_reducible refine Calls.mono (hva _ (by (repeat (with_reducible first | assumption | exact Below.refl _ _ | refine bl_alloc ?_ _ | apply Below.drew | refine below_drewN ?_ _ | (apply bl_step2; assumption) | (refine Below.setCell ?_ (Nat.le_refl _) _) | (refine Below.setCell ?_ (by first | omega | (simp; done) | (go_simp; done)) _))))) ?_); rintro e w1 ⟨rfl, hb1⟩; have HX1 := Lib.hid (bk_step HX.out hb1); have HR1 := Lib.hid (bk_step HR.out hb1); have HW1 := Lib.hid (bl_step HW.out hb1); have x0 := cells_at HX1.out 0; have x1 := cells_at HX1.out 1; have x2 := cells_at HX1.out 2; have x3 := cells_at HX1.out 3; simp only [List.getElem?_toArray, List.getElem?_cons_zero, List.getElem?_cons_succ] at x0 x1 x2 x3)
        | (refine wpList_store_rowTo rfl 28 (.tmp 6) (.tmp 21) rfl rfl (w.heap.size + 1) #[.int .i64 0, .slice none 0 0, .int .i64 0, .int .i64 0] rfl rfl 28 _ (HR1.out) tree_size rfl (tree_one _ _ _ _ _ _) ?_))
      show bodyPost Try.prog Try.f31 _ _ _ _
      refine bodyPost_ret (tree2_res rfl _ _ (w.heap.size + 1) _ _ _ _ _ _ _ rfl rfl (setRow_heap _ _ _ _ _ _ HR1.out)) rfl ?_
      rw [HS.out]
      exact RetTE.err (bl_setRow HW1.out (by omega) _)
    · obtain ⟨j, rfl⟩ := Int.eq_ofNat_of_zero_le (show 0 ≤ i by omega)
      have HS := Lib.hid (show setR c j y = (upd c j (y, 0), 0) by unfold setR inB; rw [decide_eq_true (by omega)]; simp)
      have q1' : ¬ 255 < j := by omega
      have j0 : (0 : Int) ≤ (j : Int) := by omega
      have j1 : (j : Int) ≤ 255 := by omega
      go_enter Try.func31, Try.ntmps31
      go_wp2_with (first | (go_at_call 16; (with_reducible refine Calls.mono (hva _ (by (repeat (with_reducible first | assumption | exact Below.refl _ _ | refine bl_alloc ?_ _ | apply Below.drew | refine below_drewN ?_ _ | (apply bl_step2; assumption) | (refine Below.setCell ?_ (Nat.le_refl _) _) | (refine Below.setCell ?_ (by first | omega | (simp; done) | (go_simp; done)) _))))) ?_); rintro e w1 ⟨rfl, hb1⟩; have HX1 := Lib.hid (bk_step HX.out hb1); have HR1 := Lib.hid (bk_step HR.out hb1); have HW1 := Lib.hid (bl_step HW.out hb1); have x0 := cells_at HX1.out 0; have x1 := cells_at HX1.out 1; have x2 := cells_at HX1.out 2; have x3 := cells_at HX1.out 3; simp only [List.getElem?_toArray, List.getElem?_cons_zero, List.getElem?_cons_succ] at x0 x1 x2 x3) | (go_at_call 25; (with_reducible refine Calls.mono (hen _ HW1.out) ?_); rintro e w2 ⟨vv, rfl, hown, hb2⟩; have HR2 := Lib.hid (bk_step HR1.out hb2); have HW2 := Lib.hid (bl_step HW1.out hb2)))
      have HE := Lib.hid (EA.of_own (S := Any) hown (fun _ _ => trivial))
      have hE0 := HE.out
      obtain ⟨A2, cap2, rfl, hcp2, hcm2, _⟩ := hE0
      unfold maxLen at hcm2
      clear hown hb1 hb2 hva hen HX1 HR1 HW1 x0 x1 x2 x3 HX HR HW
      go_loopw [9, 10] (fun s9 s10 wx => ∃ k : Nat, k ≤ es.length ∧ s10 = .int .i64 k ∧ wx.ownsRow w2.heap.size 48 3 s9 (outP (es.take k) j).length (ens (outP (es.take k) j)) ∧ EA wx (fun z => z < w2.heap.size) (.slice A2 es.length cap2) es ∧ wx.heap[w.heap.size + 1]? = some (.cells #[.int .i64 0, .slice none 0 0, .int .i64 0, .int .i64 0] 28 (0, 0)) ∧ Below w2.heap.size w2 wx) (fun _ s10 _ => es.length - (intOf s10).toNat)
      case atStart => exact ⟨0, by omega, rfl, World.ownsRow_nil _ _ _ _, HE.out.weak (fun b hb _ => hb), HR2.out, Below.refl _ _⟩
      case round =>
        have lR2 := bk_lt HR2.out
        clear HR2 HE
        obtain ⟨k, hk, rfl, hown, hE, hR, hW⟩ := hrel
        have Hown := Lib.hid hown
        have HE := Lib.hid hE
        have HR := Lib.hid hR
        have HW := Lib.hid hW
        have hsz := hW.size
        clear hown hE hR hW
        by_cases hlt : k < es.length
        · obtain ⟨bb, o, cap', d, s, c', e0, _, _, hbl, he, c0, c1, c2⟩ := HE.out.at_ hlt
          injection e0 with e0 _ e2
          subst e0
          have HT := Lib.hid (outP_take (i := (j : Int)) he)
          have hll := outP_len (es.take k) (j : Int)
          rw [List.length_take, Nat.min_eq_left hk] at hll
          have k0 : (0 : Int) ≤ (k : Int) := by omega
          have k1 : (k : Int) < (es.length : Int) := by omega
          clear he e2
          by_cases q : d = (j : Int)
          · have HT2 := Lib.hid (show (d != (j : Int)) = false by simp [q])
            have e1 : (d != (j : Int)) = false := HT2.out
            have e2 : (d == (j : Int)) = true := by simp [q]
            clear q
            go_wp2
            go_roundw
            case rel => exact ⟨k + 1, by omega, by go_num, by rw [HT.out, HT2.out]; simpa using Hown.out, HE.out, HR.out, HW.out⟩
            case measure => simp [intOf]; omega
          · have HT2 := Lib.hid (show (d != (j : Int)) = true by simp [q])
            have e1 : (d != (j : Int)) = true := HT2.out
            have e2 : (d == (j : Int)) = false := by simp [q]
            clear q
            generalize outP (es.take k) j = acc at *
            go_wp2_with (at_builtin; go_loud (refine wpList_append_lies _ rfl (.tmp 37) (.tmp 42) 41 rfl w2.heap.size 48 i0 _ 3 24 Try.underlying41 hi hz0 hz1 hz2 rfl (by omega) _ acc.length (ens acc) rfl (own_step Hown.out (bl_alloc (Below.refl _ _) _)) ⟨_, 0, none⟩ 1 1 [.int .i64 d, .int .i64 s, .int .i64 c'] rfl rfl (World.news_of_block (heap_at_new _ _ _ (by first | rfl | simp))) (by simp [Value.oneCell']) (by omega) (by unfold maxLen; omega) (by omega) (by simp; omega) _ rfl ?_); intro gg cap4 w4 hown4 hg4 hat4 hlt4)
            go_roundw
            case rel =>
              refine ⟨k + 1, by omega, by go_num, by rw [HT.out, HT2.out]; exact ens_snoc hown4, ?_, ?_, (bl_alloc HW.out _).grown hg4 (bl_alloc HW.out _).size (fun z hz => (Hown.out.lt z hz).1)⟩
              · exact (HE.out.step (bl_alloc (Below.refl _ _) _)).kept hg4.size (fun z hz hlt => hg4.block z hlt (fun e => by have := (Hown.out.lt z e.symm).1; omega))
              · exact (hg4.block _ (by simp; omega) (fun e => by have := (Hown.out.lt _ e.symm).1; omega)).trans (bk_alloc HR.out _)
            case measure => simp [intOf]; omega
        · obtain rfl : k = es.length := by omega
          have hown := Hown.out
          rw [List.take_length] at hown
          have hll := outP_len es (j : Int)
          have Hown2 := Lib.hid hown
          have HWW := Lib.hid (bl_step HW2.out HW.out)
          have hwsz := HW2.out.size
          clear hown Hown
          by_cases qy : y = 0
          · subst qy
            have hco : cOf (outP es j) = upd c j (0, 0) := by rw [cOf_set0, HCO.out]
            have hma := fun w' (hE : EA w' Any u9 (outP es j)) => made_w (outP es j) u9 (fun z => S z ∧ z ≠ w.heap.size + 1) Any w' (good_out HG.out _) (by omega) hE
            rw [hco] at hma
            have hE5 := EA.of_own (S := Any) Hown2.out (fun _ _ => trivial)
            clear hco
            go_wp2_with (first
              | (go_at_call 54; (with_reducible refine Calls.mono (hma _ hE5 (fun z hz => ⟨HSS.out z (by omega), by omega⟩)) ?_); rintro e w3 ⟨h', A', cap', rfl, ht', hc', hk', hb3⟩; have HR3 := Lib.hid (bk_step HR.out hb3); have HW3 := Lib.hid (bl_step HWW.out hb3))
              | (refine wpList_store_rowTo rfl 28 (.tmp 6) (.tmp 53) rfl rfl (w.heap.size + 1) #[.int .i64 (h' : Int), .slice A' (cano h' (upd c j (0, 0))).kids.length cap', .int .i64 (cano h' (upd c j (0, 0))).val, .int .i64 (cano h' (upd c j (0, 0))).marks] rfl rfl 28 _ (HR3.out) tree_size rfl (tree_one _ _ _ _ _ _) ?_))
            show bodyPost Try.prog Try.f31 _ _ _ _
            refine bodyPost_ret (tree2_res rfl _ _ (w.heap.size + 1) _ _ _ _ _ _ _ rfl rfl (setRow_heap _ _ _ _ _ _ HR3.out)) rfl ?_
            rw [HS.out]
            exact ⟨h', A', cap', rfl, ht', hc', (hk'.kept (by simp [World.setRow]) (fun z hz _ => setRow_other _ _ _ _ hz.2)).weak fun _ _ h => h.1, bl_setRow HW3.out (by omega) _⟩
          · have y1 : (y != 0) = true := bne_iff_ne.2 qy
            have y2 : (y == 0) = false := beq_eq_false_iff_ne.2 qy
            have hco : cOf (outP es j ++ [((j : Int), y, 0)]) = upd c j (y, 0) := by rw [cOf_set1, HCO.out]
            have hma := fun vx w' (hE : EA w' Any vx (outP es j ++ [((j : Int), y, 0)])) => made_w (outP es j ++ [((j : Int), y, 0)]) vx (fun z => S z ∧ z ≠ w.heap.size + 1) Any w' (good_app (good_out HG.out _) ⟨j0, by show (j : Int) < 256; omega, fun e => by injection e with e _; exact qy e⟩) (by rw [List.length_append]; simp; omega) hE
            rw [hco] at hma
            clear hco qy
            go_wp2_with (first
              | (at_builtin; go_loud (refine wpList_append_lies _ rfl (.tmp 46) (.tmp 50) 41 rfl w2.heap.size 48 i0 _ 3 24 Try.underlying41 hi hz0 hz1 hz2 rfl (by omega) _ (outP es j).length (ens (outP es j)) rfl (own_step Hown2.out (bl_alloc (Below.refl _ _) _)) ⟨_, 0, none⟩ 1 1 [.int .i64 j, .int .i64 y, .int .i64 0] rfl rfl (World.news_of_block (heap_at_new _ _ _ (by first | rfl | simp))) (by simp [Value.oneCell']) (by omega) (by unfold maxLen; omega) (by omega) (by simp; omega) _ rfl ?_); intro gg cap4 w4 hown4 hg4 hat4 hlt4; have HR5 := Lib.hid ((hg4.block (w.heap.size + 1) (by simp; omega) (fun e => by have := (Hown2.out.lt _ e.symm).1; omega)).trans (bk_alloc HR.out _)); have HW5 := Lib.hid ((bl_alloc HWW.out (.cells #[.int .i64 j, .int .i64 y, .int .i64 0] 48)).grown hg4 (bl_alloc HWW.out _).size (fun z hz => by have := (Hown2.out.lt z hz).1; omega)); have hE5 := EA.of_own (S := Any) (ens_snoc hown4) (fun _ _ => trivial); have hsz5 := hg4.size; simp at hsz5)
              | (go_at_call 54; (with_reducible refine Calls.mono (hma _ _ hE5 (fun z hz => ⟨HSS.out z (by omega), by omega⟩)) ?_); rintro e w3 ⟨h', A', cap', rfl, ht', hc', hk', hb3⟩; have HR3 := Lib.hid (bk_step HR5.out hb3); have HW3 := Lib.hid (bl_step HW5.out hb3))
              | (refine wpList_store_rowTo rfl 28 (.tmp 6) (.tmp 53) rfl rfl (w.heap.size + 1) #[.int .i64 (h' : Int), .slice A' (cano h' (upd c j (y, 0))).kids.length cap', .int .i64 (cano h' (upd c j (y, 0))).val, .int .i64 (cano h' (upd c j (y, 0))).marks] rfl rfl 28 _ (HR3.out) tree_size rfl (tree_one _ _ _ _ _ _) ?_))
            show bodyPost Try.prog Try.f31 _ _ _ _
            refine bodyPost_ret (tree2_res rfl _ _ (w.heap.size + 1) _ _ _ _ _ _ _ rfl rfl (setRow_heap _ _ _ _ _ _ HR3.out)) rfl ?_
            rw [HS.out]
            exact ⟨h', A', cap', rfl, ht', hc', (hk'.kept (by simp [World.setRow]) (fun z hz _ => setRow_other _ _ _ _ hz.2)).weak fun _ _ h => h.1, bl_setRow HW3.out (by omega) _⟩

end Go.Proofs.Ytpoagdffpajdjaa
