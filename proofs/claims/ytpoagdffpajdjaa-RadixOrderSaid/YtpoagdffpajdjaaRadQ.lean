/-
  seek of package radix, by contract; Next, Count.
-/
import Derived.Test.YtpoagdffpajdjaaRadO
namespace Go.Proofs.Ytpoagdffpajdjaa
open Go.RowKit
set_option linter.unusedVariables false
set_option linter.unusedSimpArgs false

/-- Joined marks have what either has. -/
theorem or_and : ∀ (a b : Fin 8), (bits .or .i64 (a.val : Int) (b.val : Int) : Int) = ((a.val ||| b.val : Nat) : Int) := by decide +kernel
theorem and_small : ∀ (a : Fin 8) (b : Fin 8), (bits .and .i64 (a.val : Int) (b.val : Int) : Int) = ((a.val &&& b.val : Nat) : Int) := by decide +kernel
theorem or_has : ∀ (a b m : Fin 8), (m.val = 1 ∨ m.val = 2 ∨ m.val = 4) → (((a.val ||| b.val) &&& m.val = 0) ↔ (a.val &&& m.val = 0 ∧ b.val &&& m.val = 0)) ∧ (a.val ||| b.val) < 8 := by decide +kernel
def mk7 (x : Int) : Prop := 0 ≤ x ∧ x ≤ 7
theorem mk7_fin {x : Int} (h : mk7 x) : ∃ a : Fin 8, x = (a.val : Int) := ⟨⟨x.toNat, by have := h.1; have := h.2; omega⟩, by have := h.1; simp; omega⟩
theorem one_fin {m : Int} (h : oneB m = true) : ∃ a : Fin 8, m = (a.val : Int) ∧ (a.val = 1 ∨ a.val = 2 ∨ a.val = 4) := by
  have : m = 1 ∨ m = 2 ∨ m = 4 := by simpa [oneB] using h
  rcases this with rfl | rfl | rfl
  · exact ⟨1, rfl, by decide⟩
  · exact ⟨2, rfl, by decide⟩
  · exact ⟨4, rfl, by decide⟩
theorem orI_mk7 {a b : Int} (ha : mk7 a) (hb : mk7 b) : mk7 (orI a b) := by
  obtain ⟨x, rfl⟩ := mk7_fin ha
  obtain ⟨y, rfl⟩ := mk7_fin hb
  show mk7 (bits .or .i64 _ _)
  rw [or_and]
  have := (or_has x y 1 (.inl rfl)).2
  exact ⟨by omega, by omega⟩
theorem orI_none {a b m : Int} (ha : mk7 a) (hb : mk7 b) (hm : oneB m = true) : andI (orI a b) m = 0 ↔ andI a m = 0 ∧ andI b m = 0 := by
  obtain ⟨x, rfl⟩ := mk7_fin ha
  obtain ⟨y, rfl⟩ := mk7_fin hb
  obtain ⟨z, rfl, hz⟩ := one_fin hm
  show bits .and .i64 (bits .or .i64 _ _) _ = 0 ↔ bits .and .i64 _ _ = 0 ∧ bits .and .i64 _ _ = 0
  rw [or_and, and_small, and_small]
  have h1 := or_has x y z hz
  have h2 := and_small ⟨x.val ||| y.val, h1.2⟩ z
  simp only at h2
  rw [h2]
  have h3 := h1.1
  omega
theorem leafV_mk7 {x : Int × Int} (h : leafV x) : mk7 x.2 := by
  rcases h with rfl | ⟨_, h1, h2, _⟩
  · exact ⟨by omega, by omega⟩
  · exact ⟨h1, h2⟩
/-- The marks of a tree are small; those without a mark have entries without it. -/
theorem orK_fold (m : Int) (hm : oneB m = true) : ∀ (ks : List T) (a : Int), mk7 a → (∀ k ∈ ks, mk7 k.marks) → mk7 (ks.foldl (fun a k => orI a k.marks) a) ∧ (andI (ks.foldl (fun a k => orI a k.marks) a) m = 0 ↔ andI a m = 0 ∧ ∀ k ∈ ks, andI k.marks m = 0)
  | [], a, ha, _ => ⟨ha, by simp⟩
  | k :: ks, a, ha, hk => by
    have h1 := orI_mk7 ha (hk k (by simp))
    obtain ⟨h2, h3⟩ := orK_fold m hm ks (orI a k.marks) h1 (fun x hx => hk x (by simp [hx]))
    refine ⟨h2, ?_⟩
    show andI (ks.foldl (fun a k => orI a k.marks) (orI a k.marks)) m = 0 ↔ _
    rw [h3, orI_none ha (hk k (by simp)) hm]
    simp only [List.mem_cons, forall_eq_or_imp]
    constructor
    · rintro ⟨⟨a1, a2⟩, a3⟩; exact ⟨a1, a2, a3⟩
    · rintro ⟨a1, a2, a3⟩; exact ⟨⟨a1, a2⟩, a3⟩
theorem marks_cano {m : Int} (hm : oneB m = true) : ∀ (h : Nat) {c : Cn}, leafy c → mk7 (cano h c).marks ∧ (andI (cano h c).marks m = 0 ↔ ∀ j, j < 4 ^ h → andI (c j).2 m = 0)
  | 0, c, hc => by
    refine ⟨leafV_mk7 (hc 0), ?_⟩
    show andI (c 0).2 m = 0 ↔ _
    constructor
    · intro h j hj
      obtain rfl : j = 0 := by simpa using hj
      exact h
    · intro h; exact h 0 (by simp)
  | h + 1, c, hc => by
    have h0 : andI 0 m = 0 := by
      obtain ⟨z, rfl, hz⟩ := one_fin hm
      have := and_small 0 z
      rw [show (((0 : Fin 8).val : Int)) = 0 from rfl] at this
      show bits .and .i64 0 _ = 0
      rw [this]
      simp
    cases hn : noneB (4 ^ (h + 1)) c with
    | true =>
      rw [cano_none hn]
      refine ⟨⟨by show (0 : Int) ≤ 0; omega, by show (0 : Int) ≤ 7; omega⟩, ?_⟩
      show andI 0 m = 0 ↔ _
      exact ⟨fun _ j hj => by rw [noneB_true.1 hn j hj]; exact h0, fun _ => h0⟩
    | false =>
      rw [cano_succ, hn, if_neg (by simp)]
      show mk7 (orK (kidsC h c)) ∧ (andI (orK (kidsC h c)) m = 0 ↔ _)
      have hk : ∀ k ∈ kidsC h c, mk7 k.marks := fun k hk => by
        unfold kidsC at hk
        obtain ⟨i, hi, rfl⟩ := List.mem_map.1 hk
        exact (marks_cano hm h (hc.sh _)).1
      obtain ⟨h1, h2⟩ := orK_fold m hm (kidsC h c) 0 ⟨by omega, by omega⟩ hk
      refine ⟨h1, ?_⟩
      show andI (List.foldl _ 0 _) m = 0 ↔ _
      rw [h2]
      constructor
      · rintro ⟨_, h3⟩ j hj
        obtain ⟨q1, q2, q3⟩ := pow_split hj
        have := (marks_cano hm h (hc.sh (j / 4 ^ h * 4 ^ h))).2.1 (h3 _ (List.mem_of_getElem? (kidsC_at q1))) _ q3
        simp only [sh] at this
        rw [q2] at this
        exact this
      · intro h3
        refine ⟨h0, fun k hk => ?_⟩
        unfold kidsC at hk
        obtain ⟨i, hi, rfl⟩ := List.mem_map.1 hk
        exact (marks_cano hm h (hc.sh _)).2.2 fun j hj => h3 _ (pow_lt (List.mem_range.1 hi) hj)

theorem nextP_app (l l' : List En) (fr m : Int) : nextP (l ++ l') fr m = if (nextP l fr m).2 then nextP l fr m else nextP l' fr m := by
  unfold nextP
  rw [List.find?_append]
  cases l.find? (tstB fr m) <;> simp
theorem nextP_none {l : List En} {fr m : Int} (h : ∀ e ∈ l, tstB fr m e = false) : nextP l fr m = (0, false) := by
  unfold nextP
  rw [List.find?_eq_none.2 fun x hx => by rw [h x hx]; simp]
theorem seek_past {base n : Nat} {c : Cn} {fr m : Int} (h : (base : Int) + (n : Int) ≤ fr) : nextP (ents base n c) fr m = (0, false) := nextP_none fun e he => by
  obtain ⟨j, hj, _, rfl⟩ := mem_ents.1 he
  unfold tstB
  rw [decide_eq_false (show ¬ fr ≤ (((base + j : Nat)) : Int) by omega)]
  rfl
theorem seek_unmarked {base h : Nat} {c : Cn} {fr m : Int} (hl : leafy c) (hm : oneB m = true) (hz : andI (cano h c).marks m = 0) : nextP (ents base (4 ^ h) c) fr m = (0, false) := nextP_none fun e he => by
  obtain ⟨j, hj, _, rfl⟩ := mem_ents.1 he
  have h1 := (marks_cano hm h hl).2.1 hz j hj
  have h2 : (m == 0) = false := by
    obtain ⟨z, rfl, hz⟩ := one_fin hm
    exact beq_eq_false_iff_ne.2 (by omega)
  unfold tstB mkB
  simp only [h1, h2]
  simp
theorem seek_leaf {base : Nat} {c : Cn} {fr m : Int} (hn : noneB 1 c = false) (hf : ¬ (base : Int) + 1 ≤ fr) (hm : m = 0 ∨ (oneB m = true ∧ andI (c 0).2 m ≠ 0)) : nextP (ents base 1 c) fr m = if decide (0 < (c 0).1) then ((base : Int), true) else (0, false) := by
  rw [ents_one hn]
  have hk : mkB (c 0).2 m = true := by
    unfold mkB
    rcases hm with rfl | ⟨h1, h2⟩
    · rfl
    · rw [h1, bne_iff_ne.2 h2]; simp
  have ht : tstB fr m ((base : Int), (c 0).1, (c 0).2) = decide (0 < (c 0).1) := by
    unfold tstB
    simp only [hk, decide_eq_true (show fr ≤ (base : Int) by omega)]
    simp
  unfold nextP
  rw [List.find?_singleton, ht]
  cases decide (0 < (c 0).1) <;> rfl
/-- What seek answers. -/
def RetS (l : List En) (fr m : Int) (w : World) (e : Ending) (w' : World) : Prop := ∃ i : Int, e = .returned (.tuple #[.int .i64 i, .bool (nextP l fr m).2]) ∧ ((nextP l fr m).2 = true → i = (nextP l fr m).1) ∧ Below w.heap.size w w'
theorem RetS.no {l : List En} {fr m : Int} {w w' : World} {i : Int} (h : nextP l fr m = (0, false)) (hb : Below w.heap.size w w') : RetS l fr m w (.returned (.tuple #[.int .i64 i, .bool false])) w' := ⟨i, by rw [h], (fun e => by rw [h] at e; cases e), hb⟩
theorem RetS.leaf {l : List En} {fr m : Int} {w w' : World} {i : Int} {b : Bool} (h : nextP l fr m = if b then (i, true) else (0, false)) (hb : Below w.heap.size w w') : RetS l fr m w (.returned (.tuple #[.int .i64 i, .bool b])) w' := by
  cases b
  · exact .no h hb
  · exact ⟨i, by rw [h]; rfl, (fun _ => by rw [h]; rfl), hb⟩
theorem seek_front {base p k : Nat} {c : Cn} {fr m : Int} {x : Int × Bool} (hk : k + 1 ≤ 4) (h : nextP (ents base ((k + 1) * p) c) fr m = x) (ht : x.2 = true) : nextP (ents base (4 * p) c) fr m = x := by
  obtain ⟨d, hd⟩ : ∃ d, 4 * p = (k + 1) * p + d := ⟨4 * p - (k + 1) * p, by have := Nat.mul_le_mul_right p hk; omega⟩
  rw [hd, ents_add, nextP_app, h, if_pos ht]
set_option maxRecDepth 100000 in
set_option maxHeartbeats 4000000 in
theorem seek_w : ∀ (h : Nat) (c : Cn) (A : Option Addr) (cap : Nat) (S : Nat → Prop) (base : Nat) (fr m : Int) (w : World), h ≤ 4 → leafy c → base + 4 ^ h ≤ 256 → (m = 0 ∨ oneB m = true) → (cano h c).kids.length ≤ cap → NK w S A (cano h c).kids →
    Calls Try.prog 41 #[ndV A (cano h c).kids.length cap (cano h c).val (cano h c).marks, .int .i64 base, .int .i64 ((4 ^ h : Nat) : Int), .int .i64 fr, .int .i64 m] w (RetS (ents base (4 ^ h) c) fr m w) := by
  intro h
  induction h with
  | zero =>
    intro c A cap S base fr m w hh hl hbase hm hcap hk
    have em := fun w => empty_w A 0 cap (c 0).1 (c 0).2 w
    rw [show emI 0 (c 0).1 (c 0).2 = (cano 0 c).emB from rfl, emB_cano, show 4 ^ 0 = 1 from rfl] at em
    have hmk := fun (hm1 : oneB m = true) (hz : andI (cano 0 c).marks m = 0) => seek_unmarked (base := base) (fr := fr) hl hm1 hz
    rw [show (cano 0 c).marks = (c 0).2 from rfl, show 4 ^ 0 = 1 from rfl] at hmk
    rw [show (cano 0 c).kids.length = 0 from rfl, show (cano 0 c).val = (c 0).1 from rfl, show (cano 0 c).marks = (c 0).2 from rfl, show 4 ^ 0 = 1 from rfl]
    rw [show 4 ^ 0 = 1 from rfl] at hbase
    have HLF := Lib.hid (fun hn hf hm => seek_leaf (base := base) (c := c) (fr := fr) (m := m) hn hf hm)
    have HX := Lib.hid (heap_alloc_at w (.cells #[.slice A 0 cap, .int .i64 (c 0).1, .int .i64 (c 0).2] 26))
    have HW := Lib.hid (bl_alloc (Below.refl w.heap.size w) (.cells #[.slice A 0 cap, .int .i64 (c 0).1, .int .i64 (c 0).2] 26))
    cases hn : noneB 1 c with
    | true =>
      rw [hn] at em
      have HR := Lib.hid (show nextP (ents base 1 c) fr m = (0, false) by rw [ents_none hn]; rfl)
      clear hn hmk
      generalize (c 0).1 = y at *
      generalize (c 0).2 = mm at *
      go_enter Try.func41, Try.ntmps41
      go_wp2_with (go_at_call 59; (with_reducible refine Calls.mono (em _) ?_); rintro e w1 ⟨rfl, hb1⟩; have HX1 := Lib.hid (bk_step HX.out hb1); have HW1 := Lib.hid (bl_step HW.out hb1); have x0 := cells_at HX1.out 0; have x1 := cells_at HX1.out 1; have x2 := cells_at HX1.out 2; simp only [List.getElem?_toArray, List.getElem?_cons_zero, List.getElem?_cons_succ] at x0 x1 x2)
      go_ret2
      exact RetS.no HR.out HW1.out
    | false =>
      rw [hn] at em
      have HN := Lib.hid hn
      by_cases hf : (base : Int) + 1 ≤ fr
      · have HR := Lib.hid (seek_past (c := c) (m := m) (show (base : Int) + ((1 : Nat) : Int) ≤ fr from hf))
        clear hn hmk
        generalize (c 0).1 = y at *
        generalize (c 0).2 = mm at *
        go_enter Try.func41, Try.ntmps41
        go_wp2_with (go_at_call 59; (with_reducible refine Calls.mono (em _) ?_); rintro e w1 ⟨rfl, hb1⟩; have HX1 := Lib.hid (bk_step HX.out hb1); have HW1 := Lib.hid (bl_step HW.out hb1); have x0 := cells_at HX1.out 0; have x1 := cells_at HX1.out 1; have x2 := cells_at HX1.out 2; simp only [List.getElem?_toArray, List.getElem?_cons_zero, List.getElem?_cons_succ] at x0 x1 x2)
        go_ret2
        exact RetS.no HR.out HW1.out
      · rcases hm with rfl | hm
        · have HR := Lib.hid (HLF.out hn hf (.inl rfl))
          clear hn hmk
          generalize (c 0).1 = y at *
          generalize (c 0).2 = mm at *
          go_enter Try.func41, Try.ntmps41
          go_upto_region 4 with (go_at_call 59; (with_reducible refine Calls.mono (em _) ?_); rintro e w1 ⟨rfl, hb1⟩; have HX1 := Lib.hid (bk_step HX.out hb1); have HW1 := Lib.hid (bl_step HW.out hb1); have x0 := cells_at HX1.out 0; have x1 := cells_at HX1.out 1; have x2 := cells_at HX1.out 2; simp only [List.getElem?_toArray, List.getElem?_cons_zero, List.getElem?_cons_succ] at x0 x1 x2)
          have lX := bk_lt HX1.out
          go_quiet (fail)
          go_wp2
          go_ret2
          exact RetS.leaf HR.out (below_drewN HW1.out _)
        · have q1 : (m == 0) = false := by
            obtain ⟨z, rfl, hz⟩ := one_fin hm
            exact beq_eq_false_iff_ne.2 (by omega)
          have q2 : (m != 0) = true := by
            obtain ⟨z, rfl, hz⟩ := one_fin hm
            exact bne_iff_ne.2 (by omega)
          by_cases hz : andI (c 0).2 m = 0
          · have HR := Lib.hid (hmk hm hz)
            have q3 : (andI (c 0).2 m == 0) = true := beq_iff_eq.2 hz
            clear hn hmk hz hm
            generalize (c 0).1 = y at *
            generalize (c 0).2 = mm at *
            go_enter Try.func41, Try.ntmps41
            go_wp2_with (go_at_call 59; (with_reducible refine Calls.mono (em _) ?_); rintro e w1 ⟨rfl, hb1⟩; have HX1 := Lib.hid (bk_step HX.out hb1); have HW1 := Lib.hid (bl_step HW.out hb1); have x0 := cells_at HX1.out 0; have x1 := cells_at HX1.out 1; have x2 := cells_at HX1.out 2; simp only [List.getElem?_toArray, List.getElem?_cons_zero, List.getElem?_cons_succ] at x0 x1 x2)
            go_ret2
            exact RetS.no HR.out HW1.out
          · have HR := Lib.hid (HLF.out hn hf (.inr ⟨hm, hz⟩))
            have q3 : (andI (c 0).2 m == 0) = false := beq_eq_false_iff_ne.2 hz
            clear hn hmk hz hm
            generalize (c 0).1 = y at *
            generalize (c 0).2 = mm at *
            go_enter Try.func41, Try.ntmps41
            go_upto_region 4 with (go_at_call 59; (with_reducible refine Calls.mono (em _) ?_); rintro e w1 ⟨rfl, hb1⟩; have HX1 := Lib.hid (bk_step HX.out hb1); have HW1 := Lib.hid (bl_step HW.out hb1); have x0 := cells_at HX1.out 0; have x1 := cells_at HX1.out 1; have x2 := cells_at HX1.out 2; simp only [List.getElem?_toArray, List.getElem?_cons_zero, List.getElem?_cons_succ] at x0 x1 x2)
            have lX := bk_lt HX1.out
            go_quiet (fail)
            go_wp2
            go_ret2
            exact RetS.leaf HR.out (below_drewN HW1.out _)
  | succ h ih =>
    intro c A cap S base fr m w hh hl hbase hm hcap hk
    have hmk := fun (hm1 : oneB m = true) (hz : andI (cano (h + 1) c).marks m = 0) => seek_unmarked (base := base) (fr := fr) hl hm1 hz
    obtain ⟨n, hn⟩ : ∃ n, (cano (h + 1) c).kids.length = n := ⟨_, rfl⟩
    obtain ⟨y, hy⟩ : ∃ v, (cano (h + 1) c).val = v := ⟨_, rfl⟩
    obtain ⟨mm, hm'⟩ : ∃ m, (cano (h + 1) c).marks = m := ⟨_, rfl⟩
    have hp4 : 4 ^ h ≤ 64 := show 4 ^ h ≤ 4 ^ 3 from Nat.pow_le_pow_right (by omega) (by omega)
    have hp1 : 1 ≤ 4 ^ h := Nat.pow_pos (by omega)
    have HPW := Lib.hid (show 4 ^ (h + 1) = 4 * 4 ^ h by rw [Nat.pow_succ]; omega)
    rw [hn] at hcap
    have HKK := Lib.hid (show noneB (4 ^ (h + 1)) c = false → (cano (h + 1) c).kids = kidsC h c from fun hn => by rw [cano_succ, hn]; rfl)
    have HES := Lib.hid (fun k => entK_succ base (4 ^ h) k c)
    have em := fun w => empty_w A n cap y mm w
    rw [show emI n y mm = noneB (4 ^ (h + 1)) c by rw [← hn, ← hy, ← hm']; exact emB_cano (h + 1) c] at em
    rw [hm', HPW.out] at hmk
    rw [HPW.out] at em hbase HKK
    rw [hn, hy, hm', HPW.out]
    have HX := Lib.hid (heap_alloc_at w (.cells #[.slice A n cap, .int .i64 y, .int .i64 mm] 26))
    have HW := Lib.hid (bl_alloc (Below.refl w.heap.size w) (.cells #[.slice A n cap, .int .i64 y, .int .i64 mm] 26))
    have HNK := Lib.hid (fun w' (hb : Below w.heap.size w w') => hk.step hb)
    have Hn := Lib.hid hn
    have Hl := Lib.hid hl
    have Hm := Lib.hid hm
    generalize hp : 4 ^ h = p at *
    have Hp := Lib.hid hp
    clear hn hy hm' hk hp
    cases hn : noneB (4 * p) c with
    | true =>
      rw [hn] at em
      have HR := Lib.hid (show nextP (ents base (4 * p) c) fr m = (0, false) by rw [ents_none hn]; rfl)
      clear hn hmk hm
      go_enter Try.func41, Try.ntmps41
      go_wp2_with (go_at_call 59; (with_reducible refine Calls.mono (em _) ?_); rintro e w1 ⟨rfl, hb1⟩; have HX1 := Lib.hid (bk_step HX.out hb1); have HW1 := Lib.hid (bl_step HW.out hb1); have x0 := cells_at HX1.out 0; have x1 := cells_at HX1.out 1; have x2 := cells_at HX1.out 2; simp only [List.getElem?_toArray, List.getElem?_cons_zero, List.getElem?_cons_succ] at x0 x1 x2)
      go_ret2
      exact RetS.no HR.out HW1.out
    | false =>
      rw [hn] at em
      by_cases hf : (base : Int) + ((4 * p : Nat) : Int) ≤ fr
      · have HR := Lib.hid (seek_past (c := c) (m := m) hf)
        have hf2 : (base : Int) + 4 * (p : Int) ≤ fr := by omega
        clear hn hmk hm
        go_enter Try.func41, Try.ntmps41
        go_wp2_with (go_at_call 59; (with_reducible refine Calls.mono (em _) ?_); rintro e w1 ⟨rfl, hb1⟩; have HX1 := Lib.hid (bk_step HX.out hb1); have HW1 := Lib.hid (bl_step HW.out hb1); have x0 := cells_at HX1.out 0; have x1 := cells_at HX1.out 1; have x2 := cells_at HX1.out 2; simp only [List.getElem?_toArray, List.getElem?_cons_zero, List.getElem?_cons_succ] at x0 x1 x2)
        go_ret2
        exact RetS.no HR.out HW1.out
      · have hkk := HKK.out hn
        have h4 : n = 4 := by rw [← Hn.out, hkk, kidsC_len]
        subst h4
        have HNK2 := Lib.hid (fun w' (hb : Below w.heap.size w w') => show NK w' S A (kidsC h c) by rw [← hkk]; exact HNK.out w' hb)
        have hf2 : ¬ (base : Int) + 4 * (p : Int) ≤ fr := by omega
        have r4 : (((4 * p : Nat) : Int) == 1) = false := beq_eq_false_iff_ne.2 (by omega)
        have r7 := w64 (x := (p : Int)) (by omega)
        clear hn hkk HNK
        rcases hm with rfl | hm
        · clear hmk
          go_enter Try.func41, Try.ntmps41
          go_upto_region 5 with (go_at_call 59; (with_reducible refine Calls.mono (em _) ?_); rintro e w1 ⟨rfl, hb1⟩; have HX1 := Lib.hid (bk_step HX.out hb1); have HW1 := Lib.hid (bl_step HW.out hb1); have x0 := cells_at HX1.out 0; have x1 := cells_at HX1.out 1; have x2 := cells_at HX1.out 2; simp only [List.getElem?_toArray, List.getElem?_cons_zero, List.getElem?_cons_succ] at x0 x1 x2)
          go_cut [2, 5] (fun s2 s5 wx => s2 = .int .i64 (p : Int) ∧ s5 = .pointer (some ⟨w.heap.size, 0, none⟩) ∧ w1 = wx)
          case first =>
            go_wp2
            go_meet
            case rel => exact ⟨rfl, rfl, by first | rfl | trivial⟩
          case rest =>
            obtain ⟨rfl, rfl, rfl⟩ := hcut
            clear r4
            go_wp2
            clear x0 x1 x2
            go_loopw [47] (fun s47 wx => ∃ (k : Nat), k ≤ 4 ∧ s47 = .int .i64 k ∧ (nextP (ents base (k * p) c) fr 0).2 = false ∧ Below w.heap.size w wx) (fun s47 _ => 4 - (intOf s47).toNat)
            case atStart => exact ⟨0, by omega, rfl, by rw [Nat.zero_mul, ents_zero]; rfl, HW1.out⟩
            case round =>
              obtain ⟨k, hk4, rfl, hno, hW⟩ := hrel
              have HW2 := Lib.hid hW
              have HNO := Lib.hid hno
              clear hW hno
              by_cases hlt : k < 4
              · obtain ⟨b', o, t, A', cap', rfl, hnb, hbl, hi', hNC, hkm, hkc, hkk2⟩ := (HNK2.out _ HW2.out).at_ (i := k) (by rw [kidsC_len]; exact hlt)
                rw [kidsC_at hlt, Hp.out] at hi'
                injection hi' with hi'
                subst hi'
                have hkp : k * p + p ≤ 4 * p := by
                  have := Nat.mul_le_mul_right p (show k + 1 ≤ 4 by omega)
                  rw [Nat.add_mul, Nat.one_mul] at this
                  exact this
                have HESK := Lib.hid (HES.out k)
                have HNK3 := HNO.out
                obtain ⟨q, hq⟩ : ∃ q, k * p = q := ⟨_, rfl⟩
                have hmul : IntKind.i64.wrap ((k : Int) * (p : Int)) = (q : Int) := by
                  rw [← Int.natCast_mul, hq]
                  exact w64 (by omega)
                have hmul2 : (k : Int) * (p : Int) = (q : Int) := by rw [← Int.natCast_mul, hq]
                rw [hq] at HESK HNK3 hkp hNC hkm hkc hkk2
                have HKQ := Lib.hid (show nextP (ents base ((k + 1) * p) c) fr 0 = nextP (ents (base + q) p (sh c q)) fr 0 by rw [HESK.out, nextP_app, HNK3]; rfl)
                have hbq : base + q + p ≤ 256 := by omega
                have hih := fun w' hnk => ih (sh c q) A' cap' S (base + q) fr 0 w' (by omega) (Hl.out.sh q) hbq (by first | exact Hm.out | exact .inl rfl) hkc hnk
                rw [show (((base + q : Nat)) : Int) = (base : Int) + (q : Int) by omega] at hih
                have k0 : (0 : Int) ≤ (k : Int) := by omega
                have k1 : (k : Int) < (4 : Int) := by omega
                have k2 : (k : Int) < (cap : Int) := by omega
                have b0 : (0 : Int) ≤ (base : Int) + (q : Int) := by omega
                have b1 : (base : Int) + (q : Int) ≤ 256 := by omega
                obtain ⟨c0, c1, c2⟩ := hNC
                have HKK2 := Lib.hid hkk2
                clear hq hkk2 hkm hkc hkp HESK HNK3
                generalize (cano h (sh c q)).kids.length = kn at *
                generalize (cano h (sh c q)).val = kv at *
                generalize (cano h (sh c q)).marks = km at *
                have HLAST := Lib.hid (show (nextP (ents (base + q) p (sh c q)) fr 0).2 = true → nextP (ents base (4 * p) c) fr 0 = nextP (ents (base + q) p (sh c q)) fr 0 from fun ht => seek_front (by omega) HKQ.out ht)
                obtain ⟨NX, hNX⟩ : ∃ x, nextP (ents (base + q) p (sh c q)) fr 0 = x := ⟨_, rfl⟩
                rw [hNX] at HLAST HKQ
                have HNX := Lib.hid hNX
                clear hNX
                cases hnx : NX.2 with
                | true =>
                  have HT := Lib.hid (HLAST.out hnx)
                  have HT2 := Lib.hid hnx
                  clear hnx
                  go_wp2_with (go_at_call 41; (with_reducible refine Calls.mono (hih _ (HKK2.out.alloc _)) ?_); rintro e w2 ⟨ii, rfl, hii, hb2⟩; rw [HNX.out] at hii ⊢; rw [HT2.out]; have HII := Lib.hid (hii HT2.out); clear hii)
                  go_ret2
                  exact ⟨ii, by rw [HT.out, HT2.out]; rfl, (fun _ => by rw [HT.out]; exact HII.out), bl_step (bl_alloc HW2.out _) hb2⟩
                | false =>
                  have HT2 := Lib.hid hnx
                  clear hnx
                  go_wp2_with (go_at_call 41; (with_reducible refine Calls.mono (hih _ (HKK2.out.alloc _)) ?_); rintro e w2 ⟨ii, rfl, hii, hb2⟩; rw [HNX.out]; rw [HT2.out]; clear hii)
                  go_roundw
                  case rel => exact ⟨k + 1, by omega, by go_num, by rw [HKQ.out]; exact HT2.out, bl_step (bl_alloc HW2.out _) hb2⟩
                  case measure => simp [intOf]; omega
              · obtain rfl : k = 4 := by omega
                go_wp2
                go_ret2
                exact ⟨0, by rw [HNO.out]; rfl, (fun e => by rw [HNO.out] at e; cases e), HW2.out⟩
        · have q1 : (m == 0) = false := by
            obtain ⟨z, rfl, hz⟩ := one_fin hm
            exact beq_eq_false_iff_ne.2 (by omega)
          have q2 : (m != 0) = true := by
            obtain ⟨z, rfl, hz⟩ := one_fin hm
            exact bne_iff_ne.2 (by omega)
          by_cases hz : andI mm m = 0
          · have HR := Lib.hid (hmk hm hz)
            have q3 : (andI mm m == 0) = true := beq_iff_eq.2 hz
            clear hmk hz hm r4 r7
            go_enter Try.func41, Try.ntmps41
            go_wp2_with (go_at_call 59; (with_reducible refine Calls.mono (em _) ?_); rintro e w1 ⟨rfl, hb1⟩; have HX1 := Lib.hid (bk_step HX.out hb1); have HW1 := Lib.hid (bl_step HW.out hb1); have x0 := cells_at HX1.out 0; have x1 := cells_at HX1.out 1; have x2 := cells_at HX1.out 2; simp only [List.getElem?_toArray, List.getElem?_cons_zero, List.getElem?_cons_succ] at x0 x1 x2)
            go_ret2
            exact RetS.no HR.out HW1.out
          · have q3 : (andI mm m == 0) = false := beq_eq_false_iff_ne.2 hz
            clear hmk hz hm
            go_enter Try.func41, Try.ntmps41
            go_upto_region 5 with (go_at_call 59; (with_reducible refine Calls.mono (em _) ?_); rintro e w1 ⟨rfl, hb1⟩; have HX1 := Lib.hid (bk_step HX.out hb1); have HW1 := Lib.hid (bl_step HW.out hb1); have x0 := cells_at HX1.out 0; have x1 := cells_at HX1.out 1; have x2 := cells_at HX1.out 2; simp only [List.getElem?_toArray, List.getElem?_cons_zero, List.getElem?_cons_succ] at x0 x1 x2)
            go_cut [2, 5] (fun s2 s5 wx => s2 = .int .i64 (p : Int) ∧ s5 = .pointer (some ⟨w.heap.size, 0, none⟩) ∧ w1 = wx)
            case first =>
              go_wp2
              go_meet
              case rel => exact ⟨rfl, rfl, by first | rfl | trivial⟩
            case rest =>
              obtain ⟨rfl, rfl, rfl⟩ := hcut
              clear r4
              go_wp2
              clear x0 x1 x2
              go_loopw [47] (fun s47 wx => ∃ (k : Nat), k ≤ 4 ∧ s47 = .int .i64 k ∧ (nextP (ents base (k * p) c) fr m).2 = false ∧ Below w.heap.size w wx) (fun s47 _ => 4 - (intOf s47).toNat)
              case atStart => exact ⟨0, by omega, rfl, by rw [Nat.zero_mul, ents_zero]; rfl, HW1.out⟩
              case round =>
                obtain ⟨k, hk4, rfl, hno, hW⟩ := hrel
                have HW2 := Lib.hid hW
                have HNO := Lib.hid hno
                clear hW hno
                by_cases hlt : k < 4
                · obtain ⟨b', o, t, A', cap', rfl, hnb, hbl, hi', hNC, hkm, hkc, hkk2⟩ := (HNK2.out _ HW2.out).at_ (i := k) (by rw [kidsC_len]; exact hlt)
                  rw [kidsC_at hlt, Hp.out] at hi'
                  injection hi' with hi'
                  subst hi'
                  have hkp : k * p + p ≤ 4 * p := by
                    have := Nat.mul_le_mul_right p (show k + 1 ≤ 4 by omega)
                    rw [Nat.add_mul, Nat.one_mul] at this
                    exact this
                  have HESK := Lib.hid (HES.out k)
                  have HNK3 := HNO.out
                  obtain ⟨q, hq⟩ : ∃ q, k * p = q := ⟨_, rfl⟩
                  have hmul : IntKind.i64.wrap ((k : Int) * (p : Int)) = (q : Int) := by
                    rw [← Int.natCast_mul, hq]
                    exact w64 (by omega)
                  have hmul2 : (k : Int) * (p : Int) = (q : Int) := by rw [← Int.natCast_mul, hq]
                  rw [hq] at HESK HNK3 hkp hNC hkm hkc hkk2
                  have HKQ := Lib.hid (show nextP (ents base ((k + 1) * p) c) fr m = nextP (ents (base + q) p (sh c q)) fr m by rw [HESK.out, nextP_app, HNK3]; rfl)
                  have hbq : base + q + p ≤ 256 := by omega
                  have hih := fun w' hnk => ih (sh c q) A' cap' S (base + q) fr m w' (by omega) (Hl.out.sh q) hbq (by first | exact Hm.out | exact .inl rfl) hkc hnk
                  rw [show (((base + q : Nat)) : Int) = (base : Int) + (q : Int) by omega] at hih
                  have k0 : (0 : Int) ≤ (k : Int) := by omega
                  have k1 : (k : Int) < (4 : Int) := by omega
                  have k2 : (k : Int) < (cap : Int) := by omega
                  have b0 : (0 : Int) ≤ (base : Int) + (q : Int) := by omega
                  have b1 : (base : Int) + (q : Int) ≤ 256 := by omega
                  obtain ⟨c0, c1, c2⟩ := hNC
                  have HKK2 := Lib.hid hkk2
                  clear hq hkk2 hkm hkc hkp HESK HNK3
                  generalize (cano h (sh c q)).kids.length = kn at *
                  generalize (cano h (sh c q)).val = kv at *
                  generalize (cano h (sh c q)).marks = km at *
                  have HLAST := Lib.hid (show (nextP (ents (base + q) p (sh c q)) fr m).2 = true → nextP (ents base (4 * p) c) fr m = nextP (ents (base + q) p (sh c q)) fr m from fun ht => seek_front (by omega) HKQ.out ht)
                  obtain ⟨NX, hNX⟩ : ∃ x, nextP (ents (base + q) p (sh c q)) fr m = x := ⟨_, rfl⟩
                  rw [hNX] at HLAST HKQ
                  have HNX := Lib.hid hNX
                  clear hNX
                  cases hnx : NX.2 with
                  | true =>
                    have HT := Lib.hid (HLAST.out hnx)
                    have HT2 := Lib.hid hnx
                    clear hnx
                    go_wp2_with (go_at_call 41; (with_reducible refine Calls.mono (hih _ (HKK2.out.alloc _)) ?_); rintro e w2 ⟨ii, rfl, hii, hb2⟩; rw [HNX.out] at hii ⊢; rw [HT2.out]; have HII := Lib.hid (hii HT2.out); clear hii)
                    go_ret2
                    exact ⟨ii, by rw [HT.out, HT2.out]; rfl, (fun _ => by rw [HT.out]; exact HII.out), bl_step (bl_alloc HW2.out _) hb2⟩
                  | false =>
                    have HT2 := Lib.hid hnx
                    clear hnx
                    go_wp2_with (go_at_call 41; (with_reducible refine Calls.mono (hih _ (HKK2.out.alloc _)) ?_); rintro e w2 ⟨ii, rfl, hii, hb2⟩; rw [HNX.out]; rw [HT2.out]; clear hii)
                    go_roundw
                    case rel => exact ⟨k + 1, by omega, by go_num, by rw [HKQ.out]; exact HT2.out, bl_step (bl_alloc HW2.out _) hb2⟩
                    case measure => simp [intOf]; omega
                · obtain rfl : k = 4 := by omega
                  go_wp2
                  go_ret2
                  exact ⟨0, by rw [HNO.out]; rfl, (fun e => by rw [HNO.out] at e; cases e), HW2.out⟩

end Go.Proofs.Ytpoagdffpajdjaa
