/-
  The program's Build and the reference's, by contracts: the same tree, or the same error.
-/
import Derived.Test.YtpoagdffpajdjaaRadWr
namespace Go.Proofs.Ytpoagdffpajdjaa
open Go.RowKit
set_option linter.unusedVariables false
set_option linter.unusedSimpArgs false

/-- What is wrong with an entry. -/
def enE (e : En) : Int := if inB e.1 then (if lfI 0 e.2.1 e.2.2 then 0 else 1) else 2
def badE : List En → Int
  | [] => 0
  | e :: l => if enE e = 0 then badE l else enE e
/-- The first k entries are right. -/
def okTo (l : List En) (k : Nat) : Prop := ∀ j, j < k → ∀ e, l[j]? = some e → enE e = 0
theorem badE_at : ∀ {l : List En} {k : Nat} {e : En}, okTo l k → l[k]? = some e → enE e ≠ 0 → badE l = enE e
  | [], _, _, _, h, _ => by simp at h
  | a :: l, 0, e, _, h, hn => by
    simp at h
    subst h
    unfold badE
    rw [if_neg hn]
  | a :: l, k + 1, e, hk, h, hn => by
    unfold badE
    rw [if_pos (hk 0 (by omega) a (by simp))]
    exact badE_at (k := k) (fun j hj x hx => hk (j + 1) (by omega) x (by simpa using hx)) (by simpa using h) hn
theorem badE_end : ∀ {l : List En}, okTo l l.length → badE l = 0
  | [], _ => rfl
  | a :: l, hk => by
    unfold badE
    rw [if_pos (hk 0 (by simp) a (by simp))]
    exact badE_end fun j hj x hx => hk (j + 1) (by simp; omega) x (by simpa using hx)
theorem okTo.zero (l : List En) : okTo l 0 := fun j hj => by omega
theorem okTo.succ {l : List En} {k : Nat} {e : En} (h : okTo l k) (he : l[k]? = some e) (h0 : enE e = 0) : okTo l (k + 1) := fun j hj x hx => by
  by_cases hjk : j = k
  · subst hjk
    rw [he] at hx
    injection hx with hx
    rw [← hx]; exact h0
  · exact h j (by omega) x hx
/-- Two of the first k entries are of one index. -/
def dupTo (l : List En) (k : Nat) : Prop := ∃ i j, j < i ∧ i < k ∧ ∃ a b, l[i]? = some a ∧ l[j]? = some b ∧ b.1 = a.1
/-- What Build answers. -/
def BuildIs (l : List En) (c : Cn) (err : Int) : Prop := (badE l ≠ 0 ∧ c = zeroC ∧ err = badE l) ∨ (badE l = 0 ∧ dupTo l l.length ∧ c = zeroC ∧ err = 5) ∨ (badE l = 0 ∧ ¬ dupTo l l.length ∧ c = cOf l ∧ err = 0)
theorem BuildIs.ex (l : List En) : ∃ c err, BuildIs l c err := by
  by_cases h1 : badE l = 0
  · by_cases h2 : dupTo l l.length
    · exact ⟨_, _, .inr (.inl ⟨h1, h2, rfl, rfl⟩)⟩
    · exact ⟨_, _, .inr (.inr ⟨h1, h2, rfl, rfl⟩)⟩
  · exact ⟨_, _, .inl ⟨h1, rfl, rfl⟩⟩
theorem BuildIs.bad {l : List En} {c : Cn} {err : Int} (h : BuildIs l c err) {k : Nat} {e : En} (hk : okTo l k) (he : l[k]? = some e) (hn : enE e ≠ 0) : c = zeroC ∧ err = enE e := by
  have hb := badE_at hk he hn
  rcases h with ⟨h1, h2, h3⟩ | ⟨h1, _⟩ | ⟨h1, _⟩
  · exact ⟨h2, h3.trans hb⟩
  · exact absurd (hb.symm.trans h1) hn
  · exact absurd (hb.symm.trans h1) hn
theorem BuildIs.dup {l : List En} {c : Cn} {err : Int} (h : BuildIs l c err) (hk : okTo l l.length) (hd : dupTo l l.length) : c = zeroC ∧ err = 5 := by
  have hb := badE_end hk
  rcases h with ⟨h1, h2, h3⟩ | ⟨h1, h2, h3⟩ | ⟨h1, h2, _⟩
  · exact absurd hb h1
  · exact h3
  · exact absurd hd h2
theorem BuildIs.fin {l : List En} {c : Cn} {err : Int} (h : BuildIs l c err) (hk : okTo l l.length) (hd : ¬ dupTo l l.length) : c = cOf l ∧ err = 0 := by
  have hb := badE_end hk
  rcases h with ⟨h1, h2, h3⟩ | ⟨h1, h2, h3⟩ | ⟨h1, h2, h3⟩
  · exact absurd hb h1
  · exact absurd h2 hd
  · exact h3
theorem enE_ok {i v m : Int} : enE (i, v, m) = 0 ↔ (0 ≤ i ∧ i ≤ 255) ∧ v ≠ 0 ∧ 0 ≤ m ∧ m ≤ 7 ∧ (0 < v ∨ m = 0) := by
  have e1 := @lfI_true 0 v m
  unfold enE
  cases h1 : inB i with
  | false =>
    have : ¬ (0 ≤ i ∧ i ≤ 255) := fun h => by unfold inB at h1; rw [decide_eq_true h] at h1; cases h1
    simp [this]
  | true =>
    have h1' := inB_t h1
    cases h2 : lfI 0 v m with
    | false =>
      have : ¬ (v ≠ 0 ∧ 0 ≤ m ∧ m ≤ 7 ∧ (0 < v ∨ m = 0)) := fun h => by rw [e1.2 ⟨rfl, h⟩] at h2; cases h2
      simp [h1', h2, this]
    | true =>
      have := (e1.1 h2).2
      simp [h1', h2, this]
theorem enE_two {i v m : Int} (h : ¬ (0 ≤ i ∧ i ≤ 255)) : enE (i, v, m) = 2 := by
  unfold enE inB
  rw [decide_eq_false h]
  rfl
theorem enE_one {i v m : Int} (h : 0 ≤ i ∧ i ≤ 255) (h2 : ¬ (v ≠ 0 ∧ 0 ≤ m ∧ m ≤ 7 ∧ (0 < v ∨ m = 0))) : enE (i, v, m) = 1 := by
  have e1 := @lfI_true 0 v m
  unfold enE inB
  rw [decide_eq_true h]
  cases h3 : lfI 0 v m with
  | false => simp [h3]
  | true => exact absurd (e1.1 h3).2 h2
theorem okTo.good {l : List En} (h : okTo l l.length) : Good l := fun e he => by
  obtain ⟨k, hk⟩ := List.getElem?_of_mem he
  obtain ⟨i, v, m⟩ := e
  have := enE_ok.1 (h k (List.getElem?_eq_some_iff.1 hk).1 _ hk)
  exact ⟨this.1.1, by show i < 256; omega, fun e => by injection e with e _; exact this.2.1 e⟩
theorem lkP_some {l : List En} {i : Int} (h : lkP l i ≠ (0, 0)) : ∃ (j : Nat) (e : En), l[j]? = some e ∧ e.1 = i := by
  unfold lkP at h
  cases hf : l.find? (fun e => e.1 == i) with
  | none => rw [hf] at h; exact absurd rfl h
  | some e =>
    obtain ⟨j, hj⟩ := List.getElem?_of_mem (List.mem_of_find?_eq_some hf)
    exact ⟨j, e, hj, by simpa using List.find?_some hf⟩
theorem dup_of_cell {l : List En} {k i : Nat} {v m : Int} (he : l[k]? = some ((i : Int), v, m)) (h : cOf (l.take k) i ≠ (0, 0)) : dupTo l l.length := by
  obtain ⟨j, e, hj, hje⟩ := lkP_some h
  have hjl := (List.getElem?_eq_some_iff.1 hj).1
  rw [List.length_take] at hjl
  rw [List.getElem?_take, if_pos (by omega)] at hj
  exact ⟨k, j, by omega, (List.getElem?_eq_some_iff.1 he).1, _, e, he, hj, hje⟩
theorem dup_next {l : List En} {k i : Nat} {v m : Int} (hg : Good l) (he : l[k]? = some ((i : Int), v, m)) (h : cOf (l.take k) i = (0, 0)) (hd : ¬ dupTo l k) : ¬ dupTo l (k + 1) ∧ cOf (l.take (k + 1)) = upd (cOf (l.take k)) i (v, m) := by
  have hno : ∀ e ∈ l.take k, e.1 ≠ (i : Int) := fun e he2 hei => lkP_ne (l := l.take k) (i := (i : Int)) (fun x hx => hg x (List.mem_of_mem_take hx)) ⟨e, he2, hei⟩ h
  refine ⟨fun hd2 => ?_, ?_⟩
  · obtain ⟨p, j, h1, h2, a, b, h3, h4, h5⟩ := hd2
    by_cases hp : p = k
    · subst hp
      rw [he] at h3
      injection h3 with h3
      subst h3
      exact hno b (List.mem_of_getElem? (i := j) (by rw [List.getElem?_take, if_pos h1]; exact h4)) h5
    · exact hd ⟨p, j, h1, by omega, a, b, h3, h4, h5⟩
  · rw [List.take_add_one, he, Option.toList_some]
    funext a
    show lkP (l.take k ++ [((i : Int), v, m)]) (a : Int) = if a = i then (v, m) else lkP (l.take k) (a : Int)
    rw [lkP_app]
    by_cases ha : a = i
    · subst ha
      have : (l.take k).find? (fun x => x.1 == (a : Int)) = none := List.find?_eq_none.2 fun e he2 => by simpa using hno e he2
      rw [this]
      simp
    · rw [if_neg (show ¬ (i : Int) = (a : Int) by omega), if_neg ha]
      split
      · rfl
      · next hn =>
        unfold lkP
        rw [Option.not_isSome_iff_eq_none.1 hn]
theorem dup_zero (l : List En) : ¬ dupTo l 0 := fun ⟨i, j, h1, h2, _⟩ => by omega
set_option maxRecDepth 100000 in
set_option maxHeartbeats 2000000 in
theorem build_w (l : List En) (v : Value) (S Sv : Nat → Prop) (c : Cn) (err : Int) (w : World) (hbi : BuildIs l c err) (hlen : l.length ≤ 1000) (hE : EA w Sv v l) (hS : ∀ b, w.heap.size ≤ b → S b) :
    Calls Try.prog 37 #[v] w (RetTE c err S w) := by
  obtain ⟨A, cap, rfl, hcap, hcm, _⟩ := id hE
  have HE := Lib.hid (fun w' (hb : Below w.heap.size w w') => hE.step hb)
  have HBI := Lib.hid hbi
  have HSS := Lib.hid hS
  have HR := Lib.hid (heap_alloc_at w (.cells #[.int .i64 0, .slice none 0 0, .int .i64 0, .int .i64 0] 28))
  have HW := Lib.hid (bl_alloc (Below.refl w.heap.size w) (.cells #[.int .i64 0, .slice none 0 0, .int .i64 0, .int .i64 0] 28))
  clear hE hS hbi
  unfold maxLen at hcm
  go_enter Try.func37, Try.ntmps37
  go_wp2
  go_loopw [11] (fun s11 wx => ∃ k : Nat, k ≤ l.length ∧ s11 = .int .i64 k ∧ okTo l k ∧ wx.heap[w.heap.size]? = some (.cells #[.int .i64 0, .slice none 0 0, .int .i64 0, .int .i64 0] 28 (0, 0)) ∧ Below w.heap.size w wx) (fun s11 _ => l.length - (intOf s11).toNat)
  case atStart => exact ⟨0, by omega, rfl, okTo.zero _, HR.out, HW.out⟩
  case round =>
    clear HR HW
    obtain ⟨k, hk, rfl, hok, hR, hW⟩ := hrel
    have HOK := Lib.hid hok
    have HR := Lib.hid hR
    have HW := Lib.hid hW
    clear hok hR hW
    by_cases hlt : k < l.length
    · obtain ⟨bb, o, cap', d, s, q, e0, _, _, hbl, he, c0, c1, c2⟩ := (HE.out _ HW.out).at_ hlt
      injection e0 with e0 _ e2
      subst e0 e2
      have HD := Lib.hid he
      have k0 : (0 : Int) ≤ (k : Int) := by omega
      have k1 : (k : Int) < (l.length : Int) := by omega
      have hin := fun w => inside_b d w
      have hlf := fun w => leaf_w none 0 0 s q w
      clear he
      have HX := Lib.hid (heap_alloc_at wr (.cells #[.int .i64 d, .int .i64 s, .int .i64 q] 48))
      have HR1 := Lib.hid (bk_alloc HR.out (.cells #[.int .i64 d, .int .i64 s, .int .i64 q] 48))
      have HW1 := Lib.hid (bl_alloc HW.out (.cells #[.int .i64 d, .int .i64 s, .int .i64 q] 48))
      have hnx : wr.heap.size ≠ w.heap.size := by have := bk_lt HR.out; omega
      cases hib : inB d with
      | false =>
        have hee : enE (d, s, q) = 2 := by unfold enE; rw [hib]; rfl
        obtain ⟨rfl, rfl⟩ := HBI.out.bad HOK.out HD.out (by rw [hee]; decide)
        rw [hee]
        rw [hib] at hin
        clear hib hee hlf
        go_wp2_with (first
          | (go_at_call 49; (with_reducible refine Calls.mono (hin _) ?_); rintro e w1 ⟨rfl, rfl⟩)
          | (refine wpList_store_rowTo rfl 28 (.tmp 2) (.tmp 19) rfl rfl (w.heap.size) #[.int .i64 0, .slice none 0 0, .int .i64 0, .int .i64 0] rfl rfl 28 _ (HR1.out) tree_size rfl (tree_one _ _ _ _ _ _) ?_))
        show bodyPost Try.prog Try.f37 _ _ _ _
        refine bodyPost_ret (tree2_res rfl _ _ w.heap.size _ _ _ _ _ _ _ rfl rfl (setRow_heap _ _ _ _ _ _ HR1.out)) rfl ?_
        exact RetTE.err (bl_setRow HW1.out (Nat.le_refl _) _)
      | true =>
        rw [hib] at hin
        cases hlb : lfI 0 s q with
        | false =>
          have hee : enE (d, s, q) = 1 := by unfold enE; rw [hib]; simp [hlb]
          obtain ⟨rfl, rfl⟩ := HBI.out.bad HOK.out HD.out (by rw [hee]; decide)
          rw [hee]
          rw [hlb] at hlf
          clear hib hlb hee
          go_wp2_with (first
            | (go_at_call 49; (with_reducible refine Calls.mono (hin _) ?_); rintro e w1 ⟨rfl, rfl⟩)
            | (go_at_call 58; (with_reducible refine Calls.mono (hlf _) ?_); rintro e w1 ⟨rfl, hb1⟩; have HR2 := Lib.hid (bk_step HR1.out hb1); have HW2 := Lib.hid (bl_step HW1.out hb1))
            | (refine wpList_store_rowTo rfl 28 (.tmp 2) (.tmp 27) rfl rfl (w.heap.size) #[.int .i64 0, .slice none 0 0, .int .i64 0, .int .i64 0] rfl rfl 28 _ (HR2.out) tree_size rfl (tree_one _ _ _ _ _ _) ?_))
          show bodyPost Try.prog Try.f37 _ _ _ _
          refine bodyPost_ret (tree2_res rfl _ _ w.heap.size _ _ _ _ _ _ _ rfl rfl (setRow_heap _ _ _ _ _ _ HR2.out)) rfl ?_
          exact RetTE.err (bl_setRow HW2.out (Nat.le_refl _) _)
        | true =>
          have HEE := Lib.hid (show enE (d, s, q) = 0 by unfold enE; rw [hib]; simp [hlb])
          rw [hlb] at hlf
          clear hib hlb
          go_wp2_with (first
            | (go_at_call 49; (with_reducible refine Calls.mono (hin _) ?_); rintro e w1 ⟨rfl, rfl⟩)
            | (go_at_call 58; (with_reducible refine Calls.mono (hlf _) ?_); rintro e w1 ⟨rfl, hb1⟩; have HR2 := Lib.hid (bk_step HR1.out hb1); have HW2 := Lib.hid (bl_step HW1.out hb1)))
          go_roundw
          case rel => exact ⟨k + 1, by omega, by go_num, HOK.out.succ HD.out HEE.out, HR2.out, HW2.out⟩
          case measure => simp [intOf]; omega
    · obtain rfl : k = l.length := by omega
      have HG := Lib.hid HOK.out.good
      have hsz := HW.out.size
      have HT0 : ∃ T, T = wr.heap.size := ⟨_, rfl⟩
      obtain ⟨T, hT⟩ := HT0
      have hpt : (⟨wr.heap.size, 0, none⟩ : Addr) = ⟨T, 0, none⟩ := by rw [hT]
      have hwT : w.heap.size < T := by have := bk_lt HR.out; omega
      have HTR := Lib.hid (show TR (wr.alloc (.cells #[.int .i64 0, .slice none 0 0, .int .i64 0, .int .i64 0] 28)) (fun z => S z ∧ z ≠ w.heap.size ∧ z ≠ T) T (0 : Nat) (cano 0 zeroC) by rw [hT]; exact TR.new (t := cano 0 zeroC) (A := none) (cap := 0) (Nat.zero_le _) (Nat.zero_le _) (.nil _))
      have HR1 := Lib.hid (bk_alloc HR.out (.cells #[.int .i64 0, .slice none 0 0, .int .i64 0, .int .i64 0] 28))
      have HW1 := Lib.hid (bl_alloc HW.out (.cells #[.int .i64 0, .slice none 0 0, .int .i64 0, .int .i64 0] 28))
      go_wp2
      go_loopw [31] (fun s31 wx => ∃ (k h : Nat), k ≤ l.length ∧ s31 = .int .i64 k ∧ ¬ dupTo l k ∧ TreeOk h (cOf (l.take k)) ∧ TR wx (fun z => S z ∧ z ≠ w.heap.size ∧ z ≠ T) T h (cano h (cOf (l.take k))) ∧ wx.heap[w.heap.size]? = some (.cells #[.int .i64 0, .slice none 0 0, .int .i64 0, .int .i64 0] 28 (0, 0)) ∧ Below w.heap.size w wx) (fun s31 _ => l.length - (intOf s31).toNat)
      case atStart => exact ⟨0, 0, by omega, rfl, dup_zero _, TreeOk.zero, HTR.out, HR1.out, HW1.out⟩
      case round =>
        clear HTR HR HR1 HW HW1 hT hpt
        obtain ⟨k, h, hk, rfl, hnd, ht, hTR, hR, hW⟩ := hrel
        have HND := Lib.hid hnd
        have HTO := Lib.hid ht
        have HTR := Lib.hid hTR
        have HR := Lib.hid hR
        have HW := Lib.hid hW
        have hTl := hTR.lt
        have hWs := hW.size
        clear hnd ht hTR hR hW
        by_cases hlt : k < l.length
        · obtain ⟨bb, o, cap', d, s, q, e0, _, _, hbl, he, c0, c1, c2⟩ := (HE.out _ HW.out).at_ hlt
          injection e0 with e0 _ e2
          subst e0 e2
          obtain ⟨g1, g2, g3⟩ := HG.out _ (List.mem_of_getElem? he)
          simp only at g1 g2
          obtain ⟨i, rfl⟩ := Int.eq_ofNat_of_zero_le g1
          have hi : i < 256 := by omega
          have HD := Lib.hid he
          have k0 : (0 : Int) ≤ (k : Int) := by omega
          have k1 : (k : Int) < (l.length : Int) := by omega
          clear he g1 g2 g3
          have HX := Lib.hid (heap_alloc_at wr (.cells #[.int .i64 i, .int .i64 s, .int .i64 q] 48))
          have HR1 := Lib.hid (bk_alloc HR.out (.cells #[.int .i64 i, .int .i64 s, .int .i64 q] 48))
          have HW1 := Lib.hid (bl_alloc HW.out (.cells #[.int .i64 i, .int .i64 s, .int .i64 q] 48))
          have HTR1 := Lib.hid (HTR.out.alloc (.cells #[.int .i64 i, .int .i64 s, .int .i64 q] 48))
          obtain ⟨V, hV⟩ : ∃ V, V = wr.alloc (.cells #[.int .i64 i, .int .i64 s, .int .i64 q] 48) := ⟨_, rfl⟩
          have hVs : V.heap.size = wr.heap.size + 1 := by rw [hV]; simp
          rw [← hV] at HX HR1 HW1 HTR1
          have htr := HTR1.out
          obtain ⟨A1, d1, g1, m1, l1, kk1⟩ := htr
          have hfi := find_w h (cOf (l.take k)) A1 d1 _ i V hi HTO.out l1 kk1
          have hwi := fun w' (hb : Below V.heap.size V w') => with_w h (cOf (l.take k)) A1 d1 _ i none 0 s q w' hi HTO.out l1 (kk1.step hb) (fun z hz => ⟨HSS.out z (by have := hb.size; omega), by have := hb.size; omega, by have := hb.size; omega⟩)
          have hem := fun A' cap' w' => empty_w A' 0 cap' (cOf (l.take k) i).1 (cOf (l.take k) i).2 w'
          have G1 := Lib.hid g1
          go_upto_region 13 with fail
          rw [← hV]
          clear hV
          have x0 := cells_at g1 0; have x1 := cells_at g1 1; have x2 := cells_at g1 2; have x3 := cells_at g1 3; simp only [List.getElem?_toArray, List.getElem?_cons_zero, List.getElem?_cons_succ] at x0 x1 x2 x3
          have y0 := cells_at HX.out 0; have y1 := cells_at HX.out 1; have y2 := cells_at HX.out 2; simp only [List.getElem?_toArray, List.getElem?_cons_zero, List.getElem?_cons_succ] at y0 y1 y2
          have hTV := bk_lt g1
          have hXV := bk_lt HX.out
          clear kk1 g1 m1 l1
          by_cases hc0 : cOf (l.take k) i = (0, 0)
          · have hemt : emI 0 (cOf (l.take k) i).1 (cOf (l.take k) i).2 = true := by rw [hc0]; rfl
            obtain ⟨hd2, hcn⟩ := dup_next HG.out HD.out hc0 HND.out
            have HD2 := Lib.hid hd2
            rw [← hcn] at hwi
            rw [hemt] at hem
            clear hc0 hemt hd2 hcn
            go_wp2_with (first
              | (go_at_call 50; (with_reducible refine Calls.mono hfi ?_); rintro e w1 ⟨A', cap', rfl, hb1⟩)
              | (go_at_call 59; (with_reducible refine Calls.mono (hem _ _ _) ?_); rintro e w2 ⟨rfl, hb2⟩; have HB2 := Lib.hid (bl_step hb1 hb2); clear x0 x1 x2 x3 y0 y1 y2; have x0 := cells_at (bk_step G1.out HB2.out) 0; have x1 := cells_at (bk_step G1.out HB2.out) 1; have x2 := cells_at (bk_step G1.out HB2.out) 2; have x3 := cells_at (bk_step G1.out HB2.out) 3; simp only [List.getElem?_toArray, List.getElem?_cons_zero, List.getElem?_cons_succ] at x0 x1 x2 x3; have y0 := cells_at (bk_step HX.out HB2.out) 0; have y1 := cells_at (bk_step HX.out HB2.out) 1; have y2 := cells_at (bk_step HX.out HB2.out) 2; simp only [List.getElem?_toArray, List.getElem?_cons_zero, List.getElem?_cons_succ] at y0 y1 y2)
              | (go_at_call 55; (with_reducible refine Calls.mono (hwi _ HB2.out) ?_); rintro e w3 ⟨h', A', cap', rfl, ht', hc', hk', hb3⟩; have HB3 := Lib.hid (bl_step HB2.out hb3); have G3 := Lib.hid (bk_step G1.out HB3.out); have HK3 := Lib.hid hk'; have HC3 := Lib.hid hc'; have HO3 := Lib.hid ht')
              | (refine wpList_store_rowTo rfl 28 (.tmp 6) (.tmp 50) rfl rfl (T) #[.int .i64 h', .slice A' (cano h' (cOf (l.take (k + 1)))).kids.length cap', .int .i64 (cano h' (cOf (l.take (k + 1)))).val, .int .i64 (cano h' (cOf (l.take (k + 1)))).marks] rfl rfl 28 _ (G3.out) tree_size rfl (tree_one _ _ _ _ _ _) ?_))
            go_roundw
            case rel => exact ⟨k + 1, h', by omega, by go_num, HD2.out, HO3.out, ⟨A', cap', setRow_heap _ _ _ _ _ _ G3.out, cano_ml _ _, HC3.out, HK3.out.kept (by simp [World.setRow]) (fun z hz _ => setRow_other _ _ _ _ hz.2.2)⟩, (setRow_other _ _ _ _ (by omega)).trans (bk_step HR1.out HB3.out), bl_setRow (bl_step HW1.out HB3.out) (by omega) _⟩
            case measure => simp [intOf]; omega
          · have hemt : emI 0 (cOf (l.take k) i).1 (cOf (l.take k) i).2 = false := by
              cases hh : emI 0 (cOf (l.take k) i).1 (cOf (l.take k) i).2 with
              | false => rfl
              | true =>
                have := emI_true.1 hh
                exact absurd (Prod.ext this.2.1 this.2.2) hc0
            obtain ⟨rfl, rfl⟩ := HBI.out.dup HOK.out (dup_of_cell HD.out hc0)
            rw [hemt] at hem
            clear hc0 hemt hwi
            go_wp2_with (first
              | (go_at_call 50; (with_reducible refine Calls.mono hfi ?_); rintro e w1 ⟨A', cap', rfl, hb1⟩)
              | (go_at_call 59; (with_reducible refine Calls.mono (hem _ _ _) ?_); rintro e w2 ⟨rfl, hb2⟩; have HB2 := Lib.hid (bl_step hb1 hb2); have HR2 := Lib.hid (bk_step HR1.out HB2.out); have HW2 := Lib.hid (bl_step HW1.out HB2.out))
              | (refine wpList_store_rowTo rfl 28 (.tmp 2) (.tmp 41) rfl rfl (w.heap.size) #[.int .i64 0, .slice none 0 0, .int .i64 0, .int .i64 0] rfl rfl 28 _ (HR2.out) tree_size rfl (tree_one _ _ _ _ _ _) ?_))
            show bodyPost Try.prog Try.f37 _ _ _ _
            refine bodyPost_ret (tree2_res rfl _ _ w.heap.size _ _ _ _ _ _ _ rfl rfl (setRow_heap _ _ _ _ _ _ HR2.out)) rfl ?_
            exact RetTE.err (bl_setRow HW2.out (Nat.le_refl _) _)
        · obtain rfl : k = l.length := by omega
          obtain ⟨rfl, rfl⟩ := HBI.out.fin HOK.out HND.out
          have htr := HTR.out
          rw [List.take_length] at htr HTO
          obtain ⟨A1, d1, g1, m1, l1, kk1⟩ := htr
          have KK := Lib.hid kk1
          have x0 := cells_at g1 0; have x1 := cells_at g1 1; have x2 := cells_at g1 2; have x3 := cells_at g1 3; simp only [List.getElem?_toArray, List.getElem?_cons_zero, List.getElem?_cons_succ] at x0 x1 x2 x3
          clear g1 kk1
          go_wp2_with (refine wpList_store_rowTo rfl 28 (.tmp 2) (.tmp 52) rfl rfl (w.heap.size) #[.int .i64 h, .slice A1 (cano h (cOf l)).kids.length d1, .int .i64 (cano h (cOf l)).val, .int .i64 (cano h (cOf l)).marks] rfl rfl 28 _ (HR.out) tree_size rfl (tree_one _ _ _ _ _ _) ?_)
          show bodyPost Try.prog Try.f37 _ _ _ _
          refine bodyPost_ret (tree2_res rfl _ _ w.heap.size _ _ _ _ _ _ _ rfl rfl (setRow_heap _ _ _ _ _ _ HR.out)) rfl ?_
          exact ⟨h, A1, d1, rfl, HTO.out, l1, (KK.out.kept (by simp [World.setRow]) (fun z hz _ => setRow_other _ _ _ _ hz.2.1)).weak fun _ _ h => h.1, bl_setRow HW.out (Nat.le_refl _) _⟩
end Go.Proofs.Ytpoagdffpajdjaa
