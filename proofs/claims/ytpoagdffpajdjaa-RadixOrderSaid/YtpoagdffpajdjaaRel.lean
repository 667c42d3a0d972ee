/-
  Drawn regions whose operations may yield one of several values and make or change memory: one walk of the text's order serves every order. What is known of each value is said by a predicate that all later operations keep; each operation may lean on what is known of those that it waits for; a forced tail may lean on all.
-/
import Derived.StillTail
namespace Go.Proofs.Ytpoagdffpajdjaa
set_option linter.unusedVariables false
set_option linter.unusedSimpArgs false
section
variable {P : Program} {ops : Array Oper} {C : World → Prop} {R : World → World → Prop} {G : Nat → Value → World → Prop}

/-- What stands in the slot of operation j. -/
def atOp (ops : Array Oper) (a : Act) (j : Nat) : Value :=
  match (ops[j]?).bind (·.dst) with
  | some d => a.eval (.tmp d)
  | none => undef

def QNone : Exit → Act → World → Prop := fun _ _ _ => False

/-- One operation, in the text's order. -/
def RelOp (P : Program) (ops : Array Oper) (C : World → Prop) (R : World → World → Prop) (G : Nat → Value → World → Prop) (i : Nat) (o : Oper) (a : Act) : Prop :=
  ∀ w, C w → (∀ j, Region.waitsFor .any ops i j = true → G j (atOp ops a j) w) → ∀ K : Act → World → Prop, (∀ v w', C w' → R w w' → G i v w' → K (a.put o.dst v) w') → Oper.wp P o a w K QNone

/-- The walk of the head. -/
def relWalk (P : Program) (ops : Array Oper) (C : World → Prop) (R : World → World → Prop) (G : Nat → Value → World → Prop) (T : Act → Prop) : Nat → List Oper → Act → Prop
  | _, [], a => T a
  | i, o :: l, a => RelOp P ops C R G i o a ∧ ∀ v, relWalk P ops C R G T (i + 1) l (a.put o.dst v)

/-- The values of the operations laid into their slots. -/
def putsR (vals : Nat → Value) : Nat → List Oper → Act → Act
  | _, [], a => a
  | i, o :: l, a => putsR vals (i + 1) l (a.put o.dst (vals i))

theorem relWalk_at {T : Act → Prop} (vals : Nat → Value) : ∀ (l : List Oper) (s : Nat) (a : Act), relWalk P ops C R G T s l a → ∀ k o, l[k]? = some o → RelOp P ops C R G (s + k) o (putsR vals s (l.take k) a)
  | [], _, _, _, k, o, hk => by simp at hk
  | x :: l, s, a, h, 0, o, hk => by
    obtain rfl : x = o := by simpa using hk
    simpa [putsR] using h.1
  | x :: l, s, a, h, k + 1, o, hk => by
    have := relWalk_at vals l (s + 1) _ (h.2 (vals s)) k o (by simpa using hk)
    rw [show s + (k + 1) = s + 1 + k from by omega]
    simpa [putsR] using this
theorem relWalk_end {T : Act → Prop} (vals : Nat → Value) : ∀ (l : List Oper) (s : Nat) (a : Act), relWalk P ops C R G T s l a → T (putsR vals s l a)
  | [], _, _, h => h
  | _ :: l, s, _, h => relWalk_end vals l (s + 1) _ (h.2 (vals s))

theorem put_size (a : Act) (d : Option Tmp) (v : Value) : (a.put d v).tmps.size = a.tmps.size := by cases d <;> simp [Act.put]
theorem put_def (a : Act) (d : Option Tmp) (v : Value) : (a.put d v).defers = a.defers := by cases d <;> rfl
theorem put_same (a : Act) (d : Tmp) (v : Value) (h : d < a.tmps.size) : (a.put (some d) v).eval (.tmp d) = v := by simp [Act.put, Act.eval, h]
theorem put_other (a : Act) (x : Option Tmp) (d : Tmp) (v : Value) (h : x ≠ some d) : (a.put x v).eval (.tmp d) = a.eval (.tmp d) :=
  Act.eval_put (fun e he hx => h (by rw [he]; injection hx with hx; rw [hx]))
theorem putsR_size (vals : Nat → Value) : ∀ (l : List Oper) (s : Nat) (a : Act), (putsR vals s l a).tmps.size = a.tmps.size
  | [], _, _ => rfl
  | o :: l, s, a => by rw [putsR, putsR_size vals l, put_size]
theorem putsR_def (vals : Nat → Value) : ∀ (l : List Oper) (s : Nat) (a : Act), (putsR vals s l a).defers = a.defers
  | [], _, _ => rfl
  | o :: l, s, a => by rw [putsR, putsR_def vals l, put_def]
theorem putsR_other (vals : Nat → Value) (t : Tmp) : ∀ (l : List Oper) (s : Nat) (a : Act), (∀ (k : Nat) (o : Oper), l[k]? = some o → o.dst ≠ some t) → (putsR vals s l a).eval (.tmp t) = a.eval (.tmp t)
  | [], _, _, _ => rfl
  | o :: l, s, a, h => by
    rw [putsR, putsR_other vals t l (s + 1) _ (fun k o' hk => h (k + 1) o' (by simpa using hk)), put_other _ _ _ _ (h 0 o (by simp))]
theorem putsR_same (vals : Nat → Value) (t : Tmp) : ∀ (l : List Oper) (s : Nat) (a : Act) (k : Nat) (o : Oper), l[k]? = some o → o.dst = some t → (∀ (k' : Nat) (o' : Oper), k < k' → l[k']? = some o' → o'.dst ≠ some t) → t < a.tmps.size →
    (putsR vals s l a).eval (.tmp t) = vals (s + k)
  | [], _, _, k, o, hk, _, _, _ => by simp at hk
  | x :: l, s, a, 0, o, hk, hd, hx, ht => by
    obtain rfl : x = o := by simpa using hk
    rw [putsR, putsR_other vals t l (s + 1) _ (fun k' o' hk' => hx (k' + 1) o' (by omega) (by simpa using hk')), hd, put_same _ _ _ ht]
    rfl
  | x :: l, s, a, k + 1, o, hk, hd, hx, ht => by
    rw [putsR, putsR_same vals t l (s + 1) _ k o (by simpa using hk) hd (fun k' o' h1 h2 => hx (k' + 1) o' (by omega) (by simpa using h2)) (by rw [put_size]; exact ht)]
    congr 1; omega

/-- What the region's edges must say. -/
def headB (ops : Array Oper) (n m : Nat) : Bool :=
  (List.range n).all fun i => match ops[i]? with
    | none => false
    | some o => o.guard.isNone && (match o.dst with | some d => decide (d < m) && (List.range i).all (fun j => match ops[j]? with | some oj => oj.dst != some d | none => true) | none => false) &&
      o.after.all (fun e => !Region.binds .any e || decide (e.on < i)) &&
      (List.range n).all (fun j => match (ops[j]?).bind (·.dst) with | some d => !(o.looksAt ops).contains d || Region.waitsFor .any ops i j | none => true)
def relB (ops : Array Oper) (n m : Nat) : Bool :=
  Region.noSelect ops && decide (n < ops.size) && Region.sinkB .any ops n && Region.chainB .any ops n && Region.seqB .any ops (ops.size - n) n (Array.replicate n true ++ Array.replicate (ops.size - n) false) && headB ops n m

theorem headB_spec {n m : Nat} (h : headB ops n m = true) {i : Nat} (hi : i < n) : ∃ o d, ops[i]? = some o ∧ o.guard = none ∧ o.dst = some d ∧ d < m ∧
    (∀ j oj, j < i → ops[j]? = some oj → oj.dst ≠ some d) ∧ (∀ e ∈ o.after, Region.binds .any e = true → e.on < i) ∧ (∀ j oj d', j < n → ops[j]? = some oj → oj.dst = some d' → d' ∈ o.looksAt ops → Region.waitsFor .any ops i j = true) := by
  have h1 := List.all_eq_true.1 h i (List.mem_range.2 hi)
  cases ho : ops[i]? with
  | none => rw [ho] at h1; cases h1
  | some o =>
    rw [ho] at h1
    simp only [Bool.and_eq_true] at h1
    obtain ⟨⟨⟨hg, hd⟩, ha⟩, hl⟩ := h1
    cases hdst : o.dst with
    | none => rw [hdst] at hd; cases hd
    | some d =>
      rw [hdst] at hd
      simp only [Bool.and_eq_true, decide_eq_true_eq] at hd
      refine ⟨o, d, rfl, by simpa using hg, hdst, hd.1, ?_, ?_, ?_⟩
      · intro j oj hj hoj
        have := List.all_eq_true.1 hd.2 j (List.mem_range.2 hj)
        rw [hoj] at this
        simpa using this
      · intro e he hb
        have := (Array.all_eq_true_iff_forall_mem.1 ha) e he
        simpa [hb] using this
      · intro j oj d' hj hoj hd' hm
        have := List.all_eq_true.1 hl j (List.mem_range.2 hj)
        rw [hoj] at this
        simp only [Option.bind_some, hd'] at this
        simpa [hm] using this

/-- The step of an operation carried from one frame to another that reads alike. -/
theorem wp_carry {o : Oper} {a b : Act} {w : World} {d : Tmp} {Z : Value → World → Prop} {K : Act → World → Prop} {Q : Exit → Act → World → Prop} (hd : o.dst = some d) (hb : d < b.tmps.size) (he : execOp a.eval o = execOp b.eval o)
    (h : Oper.wp P o b w (fun a' w' => a'.defers = b.defers ∧ Z (a'.eval (.tmp d)) w') QNone) (hk : ∀ v w', Z v w' → K (a.put o.dst v) w') : Oper.wp P o a w K Q := by
  unfold Oper.wp at *
  rw [he]
  generalize (execOp b.eval o).run P w = r at *
  cases r with
  | ok n w' =>
    cases n <;> simp only [Oper.upon] at h ⊢
    case value u => exact hk u w' (by have := h.2; rw [hd, put_same _ _ _ hb] at this; exact this)
    case skip => exact hk undef w' (by have := h.2; rw [hd, put_same _ _ _ hb] at this; exact this)
    case defer x =>
      have h1 := h.1
      rw [put_def] at h1
      have := congrArg List.length h1
      simp at this
    case enter f args =>
      refine Calls.mono h fun e w'' he => ?_
      cases e with
      | returned u => exact hk u w'' (by have := he.2; rw [hd, put_same _ _ _ hb] at this; exact this)
      | panicked c => exact he.elim
      | outgrown => obtain ⟨_, _, hf⟩ := he; exact hf.elim
    case row row args => exact Rows.mono h fun u w'' he => hk u w'' (by have := he.2; rw [hd, put_same _ _ _ hb] at this; exact this)
  | halt x w' => cases x <;> simp only [Oper.upon] at h ⊢; exact h.elim

/-- How many operations of the head have not come up. -/
def cntR (ls : Array Bool) : Nat → Nat
  | 0 => 0
  | k + 1 => cntR ls k + if ls.getD k false = true then 0 else 1
theorem cntR_zero (ls : Array Bool) : ∀ n, cntR ls n = 0 → ∀ j, j < n → ls.getD j false = true
  | 0, _, j, hj => by omega
  | n + 1, h, j, hj => by
    simp only [cntR] at h
    by_cases hn : ls.getD n false = true
    · by_cases hjn : j = n
      · subst hjn; exact hn
      · exact cntR_zero ls n (by omega) j (by omega)
    · rw [if_neg hn] at h; omega
theorem cntR_out (ls : Array Bool) (i : Nat) : ∀ n, n ≤ i → cntR (ls.setIfInBounds i true) n = cntR ls n
  | 0, _ => rfl
  | n + 1, h => by simp only [cntR]; rw [cntR_out ls i n (by omega), getD_set_ne false (by omega)]
theorem cntR_set (ls : Array Bool) (i : Nat) (hi : i < ls.size) (hu : ls.getD i false = false) : ∀ n, i < n → cntR (ls.setIfInBounds i true) n + 1 = cntR ls n
  | 0, h => by omega
  | n + 1, h => by
    simp only [cntR]
    by_cases hin : i = n
    · subst hin
      rw [cntR_out ls i i (Nat.le_refl _), hu]
      simp [hi]
    · have := cntR_set ls i hi hu n (by omega)
      rw [getD_set_ne false hin]
      omega
theorem cntR_first (ls : Array Bool) : ∀ n, cntR ls n ≠ 0 → ∃ i, i < n ∧ ls.getD i false = false ∧ ∀ j, j < i → ls.getD j false = true
  | 0, h => absurd rfl h
  | n + 1, h => by
    by_cases h0 : cntR ls n = 0
    · refine ⟨n, by omega, ?_, cntR_zero ls n h0⟩
      cases hb : ls.getD n false with
      | false => rfl
      | true => simp only [cntR, h0, hb] at h; exact absurd rfl h
    · obtain ⟨i, hi, h1, h2⟩ := cntR_first ls n h0
      exact ⟨i, by omega, h1, h2⟩

theorem waits_of {i j : Nat} (h : Region.waitsFor .any ops i j = true) {o : Oper} (ho : ops[i]? = some o) : ∃ e ∈ o.after, Region.binds .any e = true ∧ e.on = j := by
  obtain ⟨oj, hoj, e, he, hb, hon⟩ := Region.waitsFor_spec h
  have : oj = o := Option.some.inj (hoj.symm.trans ho)
  subst this
  exact ⟨e, he, hb, hon⟩

theorem act_ext {a b : Act} (hs : a.tmps.size = b.tmps.size) (hd : a.defers = b.defers) (h : ∀ t, t < a.tmps.size → a.eval (.tmp t) = b.eval (.tmp t)) : a = b := by
  obtain ⟨ta, da⟩ := a
  obtain ⟨tb, db⟩ := b
  simp only at hs hd
  subst hd
  congr 1
  apply Array.ext hs
  intro i h1 h2
  have := h i h1
  simpa [Act.eval, h1, h2] using this

theorem any_of_rel {n m : Nat} {Q : Exit → Act → World → Prop} {T : Act → Prop} {l : List Oper} {a0 : Act} (hops : ops = l.toArray) (hB : relB ops n m = true) (hm : a0.tmps.size = m)
    (hR : ∀ w w', R w w' → ∀ j v, G j v w → G j v w') (hW : relWalk P ops C R G T 0 (l.take n) a0)
    (hT : ∀ a w, T a → C w → (∀ j, j < n → G j (atOp ops a j) w) → wpList P ops Q (l.drop n) a w) :
    ∀ (f : Nat) (ls : Array Bool) (a : Act) (w : World), cntR ls n = f → HeadInv .any ops n ls → a.tmps.size = m → a.defers = a0.defers → C w → (∃ vals : Nat → Value,
      (∀ j o d, j < n → ls.getD j false = true → ops[j]? = some o → o.dst = some d → a.eval (.tmp d) = vals j ∧ G j (vals j) w) ∧
      (∀ t, (∀ j o, j < n → ls.getD j false = true → ops[j]? = some o → o.dst ≠ some t) → a.eval (.tmp t) = a0.eval (.tmp t))) →
      wpAny P .any ops Q (f + (ops.size - n)) ls a w := by
  simp only [relB, Bool.and_eq_true, decide_eq_true_eq] at hB
  obtain ⟨⟨⟨⟨⟨hsel, hn⟩, hs⟩, hc⟩, hseq⟩, hhead⟩ := hB
  have hget : ∀ j : Nat, ops[j]? = l[j]? := fun j => by rw [hops]; simp
  have htake : ∀ (k : Nat) (o : Oper), (l.take n)[k]? = some o → k < n ∧ ops[k]? = some o := fun k o hk => by
    rw [List.getElem?_take] at hk
    split at hk
    · exact ⟨by assumption, by rw [hget]; exact hk⟩
    · cases hk
  intro f
  induction f with
  | zero =>
    intro ls a w hf inv hsz hdf hC ⟨vals, hv1, hv2⟩
    have hall := cntR_zero ls n hf
    have hls : ls = Array.replicate n true ++ Array.replicate (ops.size - n) false := by
      apply Array.ext
      · rw [inv.size]; simp; omega
      · intro i h1 h2
        by_cases hi : i < n
        · have := hall i hi
          simp [h1] at this
          simp [Array.getElem_append, hi, this]
        · have hz := inv.tail i (by omega) (by rw [← inv.size]; exact h1)
          simp [h1] at hz
          simp [Array.getElem_append, hi, hz]
    have ha : a = putsR vals 0 (l.take n) a0 := by
      apply act_ext
      · rw [putsR_size, hsz, hm]
      · rw [putsR_def, hdf]
      · intro t ht
        by_cases hx : ∃ (k : Nat) (o : Oper), k < n ∧ ops[k]? = some o ∧ o.dst = some t
        · obtain ⟨k, o, hk, ho, hd⟩ := hx
          rw [(hv1 k o t hk (hall k hk) ho hd).1]
          have hlk : (l.take n)[k]? = some o := by rw [List.getElem?_take, if_pos hk, ← hget]; exact ho
          rw [putsR_same vals t (l.take n) 0 a0 k o hlk hd ?_ (by rw [hm, ← hsz]; exact ht), Nat.zero_add]
          intro k' o' hk' ho'
          obtain ⟨hk'n, hok'⟩ := htake k' o' ho'
          obtain ⟨o2, d2, g1, _, g2, _, g3, _⟩ := headB_spec hhead hk'n
          have : o2 = o' := Option.some.inj (g1.symm.trans hok')
          subst this
          rw [g2]
          intro hdd
          injection hdd with hdd
          subst hdd
          exact g3 k o hk' ho hd
        · rw [hv2 t (fun j o hj _ ho hd => hx ⟨j, o, hj, ho, hd⟩), putsR_other vals t (l.take n) 0 a0 (fun k o hk hd => hx ⟨k, o, (htake k o hk).1, (htake k o hk).2, hd⟩)]
    have hTa := relWalk_end vals (l.take n) 0 a0 hW
    rw [← ha] at hTa
    have hw := hT a w hTa hC (fun j hj => by
      obtain ⟨o, d, g1, _, g2, _⟩ := headB_spec hhead hj
      have := hv1 j o d hj (hall j hj) g1 g2
      unfold atOp
      rw [g1]
      simp only [Option.bind_some, g2]
      rw [this.1]; exact this.2)
    have hdl : (l.drop n).length = ops.size - n := by rw [hops]; simp
    have := wpAny_of_seq (md := .any) (Q' := Q) (l.drop n) n ls a w (fun j => by rw [hget, List.getElem?_drop]) (by rw [hdl, hls]; exact hseq) hw
    rw [hdl] at this
    rw [Nat.zero_add]
    exact this
  | succ f ih =>
    intro ls a w hf inv hsz hdf hC ⟨vals, hv1, hv2⟩
    obtain ⟨i0, hi0, hu0, hbefore⟩ := cntR_first ls n (by omega)
    have hr0 : i0 ∈ Region.ready .any ops ls := by
      obtain ⟨o, d, g1, _, _, _, _, g4, _⟩ := headB_spec hhead hi0
      exact mem_ready.2 ⟨getD_in (by rw [inv.size]; omega) hu0, o, g1, fun e he hb => hbefore _ (g4 e he hb)⟩
    rw [show f + 1 + (ops.size - n) = (f + (ops.size - n)) + 1 by omega]
    refine ⟨fun h => (by rw [h] at hr0; cases hr0), fun i hir => ?_⟩
    have hin : i < n := by
      rcases Nat.lt_or_ge i n with h | h
      · exact h
      · exact absurd hir (tail_waits hs hc hn inv _ i0 rfl hi0 (getD_in (by rw [inv.size]; omega) hu0) i h)
    obtain ⟨o, d, g1, gg, g2, g3, gd, g4, g5⟩ := headB_spec hhead hin
    obtain ⟨hun, o', ho', hall⟩ := mem_ready.1 hir
    obtain rfl : o' = o := Option.some.inj (ho'.symm.trans g1)
    have hlk : (l.take n)[i]? = some o' := by rw [List.getElem?_take, if_pos hin, ← hget]; exact g1
    have hop := relWalk_at vals (l.take n) 0 a0 hW i o' hlk
    rw [Nat.zero_add] at hop
    have hcano : ∀ j oj dj, j < i → ops[j]? = some oj → oj.dst = some dj → (putsR vals 0 ((l.take n).take i) a0).eval (.tmp dj) = vals j := by
      intro j oj dj hj hoj hdj
      have hl' : ((l.take n).take i)[j]? = some oj := by rw [List.getElem?_take, if_pos hj, List.getElem?_take, if_pos (by omega), ← hget]; exact hoj
      obtain ⟨o2, d2, k1, _, k2, k3, _⟩ := headB_spec hhead (show j < n by omega)
      obtain rfl : o2 = oj := Option.some.inj (k1.symm.trans hoj)
      have hd2 : d2 = dj := Option.some.inj (k2.symm.trans hdj)
      subst hd2
      rw [putsR_same vals d2 _ 0 a0 j o2 hl' k2 ?_ (by rw [hm]; exact k3), Nat.zero_add]
      intro k' o'' hk' ho''
      have hk2 : k' < i ∧ ops[k']? = some o'' := by
        rw [List.getElem?_take] at ho''
        split at ho''
        · exact ⟨by assumption, (htake k' o'' ho'').2⟩
        · cases ho''
      obtain ⟨o3, d3, m1, _, m2, _, m3, _⟩ := headB_spec hhead (show k' < n by omega)
      obtain rfl : o3 = o'' := Option.some.inj (m1.symm.trans hk2.2)
      rw [m2]
      intro hdd
      injection hdd with hdd
      subst hdd
      exact m3 j o2 hk' hoj k2
    have hfar : ∀ t, (∀ j oj, j < n → ops[j]? = some oj → oj.dst ≠ some t) → (putsR vals 0 ((l.take n).take i) a0).eval (.tmp t) = a0.eval (.tmp t) := fun t ht =>
      putsR_other vals t _ 0 a0 (fun k ok hk => by
        rw [List.getElem?_take] at hk
        split at hk
        · exact ht k ok (htake k ok hk).1 (htake k ok hk).2
        · cases hk)
    have hdone : ∀ j, Region.waitsFor .any ops i j = true → j < i ∧ ls.getD j false = true := fun j hj => by
      obtain ⟨e, he, hb, hon⟩ := waits_of hj g1
      subst hon
      exact ⟨g4 e he hb, hall e he hb⟩
    have hev : execOp a.eval o' = execOp (putsR vals 0 ((l.take n).take i) a0).eval o' := by
      refine execOp_congr o' (fun cs b => Region.noSelect_spec hsel i o' cs b g1) (fun x hx => ?_)
      cases x with
      | tmp t =>
        have hlook : t ∈ o'.looksAt ops := List.mem_append_left _ (List.mem_filterMap.2 ⟨.tmp t, by simpa using hx, rfl⟩)
        by_cases hex : ∃ (j : Nat) (oj : Oper), j < n ∧ ops[j]? = some oj ∧ oj.dst = some t
        · obtain ⟨j, oj, hj, hoj, hdj⟩ := hex
          obtain ⟨hji, hjd⟩ := hdone j (g5 j oj t hj hoj hdj hlook)
          rw [(hv1 j oj t hj hjd hoj hdj).1, hcano j oj t hji hoj hdj]
        · have hno : ∀ j oj, j < n → ops[j]? = some oj → oj.dst ≠ some t := fun j oj hj hoj hd => hex ⟨j, oj, hj, hoj, hd⟩
          rw [hv2 t (fun j oj hj _ hoj => hno j oj hj hoj), hfar t hno]
      | _ => rfl
    have hstep := hop w hC (fun j hj => by
      obtain ⟨hji, hjd⟩ := hdone j hj
      obtain ⟨o2, d2, k1, _, k2, _⟩ := headB_spec hhead (show j < n by omega)
      unfold atOp
      rw [k1]
      simp only [Option.bind_some, k2]
      rw [hcano j o2 d2 hji k1 k2]
      exact (hv1 j o2 d2 (by omega) hjd k1 k2).2)
      (fun a' w' => a'.defers = (putsR vals 0 ((l.take n).take i) a0).defers ∧ (C w' ∧ R w w' ∧ G i (a'.eval (.tmp d)) w'))
      (fun v w' h1 h2 h3 => ⟨put_def _ _ _, h1, h2, by rw [g2, put_same _ _ _ (by rw [putsR_size, hm]; exact g3)]; exact h3⟩)
    have hwant : Region.wanted o' (yielded ops a.tmps) = true := by simp [Region.wanted, gg]
    unfold wpOp
    rw [g1]
    simp only [hwant, if_true]
    refine .inl (wp_carry (Z := fun v w' => C w' ∧ R w w' ∧ G i v w') g2 (by rw [putsR_size, hm]; exact g3) hev hstep fun v w' ⟨hC', hRw, hGi⟩ => ?_)
    have hils : i < ls.size := by rw [inv.size]; omega
    refine ih (ls.setIfInBounds i true) (a.put o'.dst v) w' (by have := cntR_set ls i hils (getD_both hun) n hin; omega) (inv.set hir hin) (by rw [put_size, hsz]) (by rw [put_def, hdf]) hC' ⟨fun j => if j = i then v else vals j, ?_, ?_⟩
    · intro j oj dj hj hjl hoj hdj
      by_cases hji : j = i
      · subst hji
        obtain rfl : oj = o' := Option.some.inj (hoj.symm.trans g1)
        have : dj = d := Option.some.inj (hdj.symm.trans g2)
        subst this
        show (a.put oj.dst v).eval (.tmp dj) = (if j = j then v else vals j) ∧ G j (if j = j then v else vals j) w'
        rw [if_pos rfl, hdj, put_same _ _ _ (by rw [hsz]; exact g3)]
        exact ⟨rfl, hGi⟩
      · rw [getD_set_ne false (Ne.symm hji)] at hjl
        have h1 := hv1 j oj dj hj hjl hoj hdj
        show (a.put o'.dst v).eval (.tmp dj) = (if j = i then v else vals j) ∧ G j (if j = i then v else vals j) w'
        rw [if_neg hji]
        refine ⟨?_, hR _ _ hRw _ _ h1.2⟩
        rw [put_other _ _ _ _ ?_]
        · exact h1.1
        · rw [g2]
          intro hdd
          injection hdd with hdd
          subst hdd
          rcases Nat.lt_or_gt_of_ne hji with hlt | hgt
          · exact gd j oj hlt hoj hdj
          · obtain ⟨o2, d2, k1, _, k2, _, k3, _⟩ := headB_spec hhead hj
            obtain rfl : o2 = oj := Option.some.inj (k1.symm.trans hoj)
            have : d2 = d := Option.some.inj (k2.symm.trans hdj)
            subst this
            exact k3 i o' hgt g1 g2
    · intro t ht
      have hne : o'.dst ≠ some t := ht i o' hin (by simp [hils]) g1
      rw [put_other _ _ _ _ hne]
      refine hv2 t (fun j oj hj hjl hoj => ht j oj hj (getD_set_true hjl) hoj)

/-- THE LAW: a drawn region, n operations in any order, then a forced tail. -/
theorem wp_region_rel {id : Nat} {Q : Exit → Act → World → Prop} {a : Act} {w : World} {l : List Oper} (n m : Nat) (C : World → Prop) (R : World → World → Prop) (G : Nat → Value → World → Prop)
    (hm : P.follows .mixedOrders = true) (hB : relB l.toArray n m = true) (hs : a.tmps.size = m) (hC : C { w with drawn := w.drawn + 1 }) (hR : ∀ w w', R w w' → ∀ j v, G j v w → G j v w')
    (h : relWalk P l.toArray C R G (fun a' => ∀ w', C w' → (∀ j, j < n → G j (atOp l.toArray a' j) w') → wpList P l.toArray Q (l.drop n) a' w') 0 (l.take n) a) : (Code.region id l.toArray true).wp P Q a w := by
  refine wp_region_any hm ?_
  have hB' := hB
  simp only [relB, Bool.and_eq_true, decide_eq_true_eq] at hB'
  have hn : n < l.toArray.size := hB'.1.1.1.1.2
  have hcnt : ∀ k, cntR (Array.replicate l.toArray.size false) k = k := by
    intro k
    induction k with
    | zero => rfl
    | succ k ih => simp only [cntR, ih, getD_replicate_false]; simp
  have inv0 : HeadInv .any l.toArray n (Array.replicate l.toArray.size false) :=
    ⟨by simp, fun j oj _ hl => (by rw [getD_replicate_false] at hl; cases hl), fun t _ ht => getD_in (by simpa using ht) (getD_replicate_false _ _)⟩
  have := any_of_rel (P := P) (ops := l.toArray) (C := C) (R := R) (G := G) (n := n) (m := m) (Q := Q) (l := l) (a0 := a) rfl hB hs hR h (fun a' w' hT hC' hG => hT w' hC' hG) n (Array.replicate l.toArray.size false) a { w with drawn := w.drawn + 1 } (hcnt n) inv0 hs rfl hC
    ⟨fun _ => undef, fun j o d hj hl => (by rw [getD_replicate_false] at hl; cases hl), fun t _ => rfl⟩
  rw [show n + (l.toArray.size - n) = l.toArray.size by omega] at this
  exact this
theorem relWalk_cons {P : Program} {ops : Array Oper} {C : World → Prop} {R : World → World → Prop} {G : Nat → Value → World → Prop} {T : Act → Prop} {i : Nat} {o : Oper} {l : List Oper} {a : Act}
    (h1 : ∀ w, C w → (∀ j, Region.waitsFor .any ops i j = true → G j (atOp ops a j) w) → ∀ K : Act → World → Prop, (∀ v w', C w' → R w w' → G i v w' → K (a.put o.dst v) w') → Oper.wp P o a w K QNone)
    (h2 : ∀ v, relWalk P ops C R G T (i + 1) l (a.put o.dst v)) : relWalk P ops C R G T i (o :: l) a := ⟨h1, h2⟩
theorem relWalk_nil {P : Program} {ops : Array Oper} {C : World → Prop} {R : World → World → Prop} {G : Nat → Value → World → Prop} {T : Act → Prop} {i : Nat} {a : Act} (h : T a) : relWalk P ops C R G T i [] a := h
end
end Go.Proofs.Ytpoagdffpajdjaa
