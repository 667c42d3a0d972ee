/-
  Drawn regions with guards: what is known of the operation that a guard looks at decides it. As in XRel, one walk of the text's order serves every order; an operation of the list sk is not wanted (its guard is known unfulfilled), all other guarded ones are.
-/
import Derived.Test.YtpoagdffpajdjaaSP
namespace Go.Proofs.Ytpoagdffpajdjaa
open Go.RowKit
set_option linter.unusedVariables false
set_option linter.unusedSimpArgs false
section
variable {P : Program} {ops : Array Oper} {C : World → Prop} {R : World → World → Prop} {G : Nat → Value → World → Prop} {sk : Nat → Bool}

/-- One operation, in the text's order. -/
def RelOpG (P : Program) (ops : Array Oper) (C : World → Prop) (R : World → World → Prop) (G : Nat → Value → World → Prop) (sk : Nat → Bool) (i : Nat) (o : Oper) (a : Act) : Prop :=
  ∀ w, C w → (∀ j, Region.waitsFor .any ops i j = true → G j (atOp ops a j) w) →
    if sk i = true then R w w ∧ G i undef w else ∀ K : Act → World → Prop, (∀ v w', C w' → R w w' → G i v w' → K (a.put o.dst v) w') → Oper.wp P o a w K QNone

/-- The walk of the head. -/
def relWalkG (P : Program) (ops : Array Oper) (C : World → Prop) (R : World → World → Prop) (G : Nat → Value → World → Prop) (sk : Nat → Bool) (T : Act → Prop) : Nat → List Oper → Act → Prop
  | _, [], a => T a
  | i, o :: l, a => RelOpG P ops C R G sk i o a ∧ ∀ v, relWalkG P ops C R G sk T (i + 1) l (a.put o.dst v)

theorem relWalkG_at {T : Act → Prop} (vals : Nat → Value) : ∀ (l : List Oper) (s : Nat) (a : Act), relWalkG P ops C R G sk T s l a → ∀ k o, l[k]? = some o → RelOpG P ops C R G sk (s + k) o (putsR vals s (l.take k) a)
  | [], _, _, _, k, o, hk => by simp at hk
  | x :: l, s, a, h, 0, o, hk => by
    obtain rfl : x = o := by simpa using hk
    simpa [putsR] using h.1
  | x :: l, s, a, h, k + 1, o, hk => by
    have := relWalkG_at vals l (s + 1) _ (h.2 (vals s)) k o (by simpa using hk)
    rw [show s + (k + 1) = s + 1 + k from by omega]
    simpa [putsR] using this
theorem relWalkG_end {T : Act → Prop} (vals : Nat → Value) : ∀ (l : List Oper) (s : Nat) (a : Act), relWalkG P ops C R G sk T s l a → T (putsR vals s l a)
  | [], _, _, h => h
  | _ :: l, s, _, h => relWalkG_end vals l (s + 1) _ (h.2 (vals s))

/-- What the region's edges must say. -/
def headG (ops : Array Oper) (n m : Nat) : Bool :=
  (List.range n).all fun i => match ops[i]? with
    | none => false
    | some o => (match o.guard with | none => true | some (k, _) => decide (k < i) && Region.waitsFor .any ops i k && ((ops[k]?).bind (·.dst)).isSome) && (match o.dst with | some d => decide (d < m) && (List.range i).all (fun j => match ops[j]? with | some oj => oj.dst != some d | none => true) | none => false) &&
      o.after.all (fun e => !Region.binds .any e || decide (e.on < i)) &&
      (List.range n).all (fun j => match (ops[j]?).bind (·.dst) with | some d => !(o.looksAt ops).contains d || Region.waitsFor .any ops i j | none => true)
def relBG (ops : Array Oper) (n m : Nat) : Bool :=
  Region.noSelect ops && decide (n < ops.size) && Region.sinkB .any ops n && Region.chainB .any ops n && Region.seqB .any ops (ops.size - n) n (Array.replicate n true ++ Array.replicate (ops.size - n) false) && headG ops n m

theorem headG_spec {n m : Nat} (h : headG ops n m = true) {i : Nat} (hi : i < n) : ∃ o d, ops[i]? = some o ∧ (∀ k b, o.guard = some (k, b) → k < i ∧ Region.waitsFor .any ops i k = true ∧ ∃ dk, (ops[k]?).bind (·.dst) = some dk) ∧ o.dst = some d ∧ d < m ∧
    (∀ j oj, j < i → ops[j]? = some oj → oj.dst ≠ some d) ∧ (∀ e ∈ o.after, Region.binds .any e = true → e.on < i) ∧ (∀ j oj d', j < n → ops[j]? = some oj → oj.dst = some d' → d' ∈ o.looksAt ops → Region.waitsFor .any ops i j = true) := by
  have h1 := List.all_eq_true.1 h i (List.mem_range.2 hi)
  cases ho : ops[i]? with
  | none => rw [ho] at h1; cases h1
  | some o =>
    rw [ho] at h1
    simp only [Bool.and_eq_true] at h1
    obtain ⟨⟨⟨hg, hd⟩, ha⟩, hl⟩ := h1
    cases hdst : o.dst with
    | none => rw [hdst] at hd; cases hd
    | some d =>
      rw [hdst] at hd
      simp only [Bool.and_eq_true, decide_eq_true_eq] at hd
      refine ⟨o, d, rfl, fun k b hkb => ?_, hdst, hd.1, ?_, ?_, ?_⟩
      · rw [hkb] at hg
        simp only [Bool.and_eq_true, decide_eq_true_eq] at hg
        exact ⟨hg.1.1, hg.1.2, Option.isSome_iff_exists.1 hg.2⟩
      · intro j oj hj hoj
        have := List.all_eq_true.1 hd.2 j (List.mem_range.2 hj)
        rw [hoj] at this
        simpa using this
      · intro e he hb
        have := (Array.all_eq_true_iff_forall_mem.1 ha) e he
        simpa [hb] using this
      · intro j oj d' hj hoj hd' hm
        have := List.all_eq_true.1 hl j (List.mem_range.2 hj)
        rw [hoj] at this
        simp only [Option.bind_some, hd'] at this
        simpa [hm] using this

theorem any_of_relG {n m : Nat} {Q : Exit → Act → World → Prop} {T : Act → Prop} {l : List Oper} {a0 : Act} (hops : ops = l.toArray) (hB : relBG ops n m = true) (hm : a0.tmps.size = m)
    (hR : ∀ w w', R w w' → ∀ j v, G j v w → G j v w') (hgd : ∀ i o k b, i < n → ops[i]? = some o → o.guard = some (k, b) → ∀ v w, G k v w → v = .bool (if sk i = true then !b else b)) (hsk : ∀ i o, i < n → ops[i]? = some o → o.guard = none → sk i = false) (hW : relWalkG P ops C R G sk T 0 (l.take n) a0)
    (hT : ∀ a w, T a → C w → (∀ j, j < n → G j (atOp ops a j) w) → wpList P ops Q (l.drop n) a w) :
    ∀ (f : Nat) (ls : Array Bool) (a : Act) (w : World), cntR ls n = f → HeadInv .any ops n ls → a.tmps.size = m → a.defers = a0.defers → C w → (∃ vals : Nat → Value,
      (∀ j o d, j < n → ls.getD j false = true → ops[j]? = some o → o.dst = some d → a.eval (.tmp d) = vals j ∧ G j (vals j) w) ∧
      (∀ t, (∀ j o, j < n → ls.getD j false = true → ops[j]? = some o → o.dst ≠ some t) → a.eval (.tmp t) = a0.eval (.tmp t))) →
      wpAny P .any ops Q (f + (ops.size - n)) ls a w := by
  simp only [relBG, Bool.and_eq_true, decide_eq_true_eq] at hB
  obtain ⟨⟨⟨⟨⟨hsel, hn⟩, hs⟩, hc⟩, hseq⟩, hhead⟩ := hB
  have hget : ∀ j : Nat, ops[j]? = l[j]? := fun j => by rw [hops]; simp
  have htake : ∀ (k : Nat) (o : Oper), (l.take n)[k]? = some o → k < n ∧ ops[k]? = some o := fun k o hk => by
    rw [List.getElem?_take] at hk
    split at hk
    · exact ⟨by assumption, by rw [hget]; exact hk⟩
    · cases hk
  intro f
  induction f with
  | zero =>
    intro ls a w hf inv hsz hdf hC ⟨vals, hv1, hv2⟩
    have hall := cntR_zero ls n hf
    have hls : ls = Array.replicate n true ++ Array.replicate (ops.size - n) false := by
      apply Array.ext
      · rw [inv.size]; simp; omega
      · intro i h1 h2
        by_cases hi : i < n
        · have := hall i hi
          simp [h1] at this
          simp [Array.getElem_append, hi, this]
        · have hz := inv.tail i (by omega) (by rw [← inv.size]; exact h1)
          simp [h1] at hz
          simp [Array.getElem_append, hi, hz]
    have ha : a = putsR vals 0 (l.take n) a0 := by
      apply act_ext
      · rw [putsR_size, hsz, hm]
      · rw [putsR_def, hdf]
      · intro t ht
        by_cases hx : ∃ (k : Nat) (o : Oper), k < n ∧ ops[k]? = some o ∧ o.dst = some t
        · obtain ⟨k, o, hk, ho, hd⟩ := hx
          rw [(hv1 k o t hk (hall k hk) ho hd).1]
          have hlk : (l.take n)[k]? = some o := by rw [List.getElem?_take, if_pos hk, ← hget]; exact ho
          rw [putsR_same vals t (l.take n) 0 a0 k o hlk hd ?_ (by rw [hm, ← hsz]; exact ht), Nat.zero_add]
          intro k' o' hk' ho'
          obtain ⟨hk'n, hok'⟩ := htake k' o' ho'
          obtain ⟨o2, d2, g1, _, g2, _, g3, _⟩ := headG_spec hhead hk'n
          have : o2 = o' := Option.some.inj (g1.symm.trans hok')
          subst this
          rw [g2]
          intro hdd
          injection hdd with hdd
          subst hdd
          exact g3 k o hk' ho hd
        · rw [hv2 t (fun j o hj _ ho hd => hx ⟨j, o, hj, ho, hd⟩), putsR_other vals t (l.take n) 0 a0 (fun k o hk hd => hx ⟨k, o, (htake k o hk).1, (htake k o hk).2, hd⟩)]
    have hTa := relWalkG_end vals (l.take n) 0 a0 hW
    rw [← ha] at hTa
    have hw := hT a w hTa hC (fun j hj => by
      obtain ⟨o, d, g1, _, g2, _⟩ := headG_spec hhead hj
      have := hv1 j o d hj (hall j hj) g1 g2
      unfold atOp
      rw [g1]
      simp only [Option.bind_some, g2]
      rw [this.1]; exact this.2)
    have hdl : (l.drop n).length = ops.size - n := by rw [hops]; simp
    have := wpAny_of_seq (md := .any) (Q' := Q) (l.drop n) n ls a w (fun j => by rw [hget, List.getElem?_drop]) (by rw [hdl, hls]; exact hseq) hw
    rw [hdl] at this
    rw [Nat.zero_add]
    exact this
  | succ f ih =>
    intro ls a w hf inv hsz hdf hC ⟨vals, hv1, hv2⟩
    obtain ⟨i0, hi0, hu0, hbefore⟩ := cntR_first ls n (by omega)
    have hr0 : i0 ∈ Region.ready .any ops ls := by
      obtain ⟨o, d, g1, _, _, _, _, g4, _⟩ := headG_spec hhead hi0
      exact mem_ready.2 ⟨getD_in (by rw [inv.size]; omega) hu0, o, g1, fun e he hb => hbefore _ (g4 e he hb)⟩
    rw [show f + 1 + (ops.size - n) = (f + (ops.size - n)) + 1 by omega]
    refine ⟨fun h => (by rw [h] at hr0; cases hr0), fun i hir => ?_⟩
    have hin : i < n := by
      rcases Nat.lt_or_ge i n with h | h
      · exact h
      · exact absurd hir (tail_waits hs hc hn inv _ i0 rfl hi0 (getD_in (by rw [inv.size]; omega) hu0) i h)
    obtain ⟨o, d, g1, gg, g2, g3, gd, g4, g5⟩ := headG_spec hhead hin
    obtain ⟨hun, o', ho', hall⟩ := mem_ready.1 hir
    obtain rfl : o' = o := Option.some.inj (ho'.symm.trans g1)
    have hlk : (l.take n)[i]? = some o' := by rw [List.getElem?_take, if_pos hin, ← hget]; exact g1
    have hop := relWalkG_at vals (l.take n) 0 a0 hW i o' hlk
    rw [Nat.zero_add] at hop
    have hcano : ∀ j oj dj, j < i → ops[j]? = some oj → oj.dst = some dj → (putsR vals 0 ((l.take n).take i) a0).eval (.tmp dj) = vals j := by
      intro j oj dj hj hoj hdj
      have hl' : ((l.take n).take i)[j]? = some oj := by rw [List.getElem?_take, if_pos hj, List.getElem?_take, if_pos (by omega), ← hget]; exact hoj
      obtain ⟨o2, d2, k1, _, k2, k3, _⟩ := headG_spec hhead (show j < n by omega)
      obtain rfl : o2 = oj := Option.some.inj (k1.symm.trans hoj)
      have hd2 : d2 = dj := Option.some.inj (k2.symm.trans hdj)
      subst hd2
      rw [putsR_same vals d2 _ 0 a0 j o2 hl' k2 ?_ (by rw [hm]; exact k3), Nat.zero_add]
      intro k' o'' hk' ho''
      have hk2 : k' < i ∧ ops[k']? = some o'' := by
        rw [List.getElem?_take] at ho''
        split at ho''
        · exact ⟨by assumption, (htake k' o'' ho'').2⟩
        · cases ho''
      obtain ⟨o3, d3, m1, _, m2, _, m3, _⟩ := headG_spec hhead (show k' < n by omega)
      obtain rfl : o3 = o'' := Option.some.inj (m1.symm.trans hk2.2)
      rw [m2]
      intro hdd
      injection hdd with hdd
      subst hdd
      exact m3 j o2 hk' hoj k2
    have hfar : ∀ t, (∀ j oj, j < n → ops[j]? = some oj → oj.dst ≠ some t) → (putsR vals 0 ((l.take n).take i) a0).eval (.tmp t) = a0.eval (.tmp t) := fun t ht =>
      putsR_other vals t _ 0 a0 (fun k ok hk => by
        rw [List.getElem?_take] at hk
        split at hk
        · exact ht k ok (htake k ok hk).1 (htake k ok hk).2
        · cases hk)
    have hdone : ∀ j, Region.waitsFor .any ops i j = true → j < i ∧ ls.getD j false = true := fun j hj => by
      obtain ⟨e, he, hb, hon⟩ := waits_of hj g1
      subst hon
      exact ⟨g4 e he hb, hall e he hb⟩
    have hev : execOp a.eval o' = execOp (putsR vals 0 ((l.take n).take i) a0).eval o' := by
      refine execOp_congr o' (fun cs b => Region.noSelect_spec hsel i o' cs b g1) (fun x hx => ?_)
      cases x with
      | tmp t =>
        have hlook : t ∈ o'.looksAt ops := List.mem_append_left _ (List.mem_filterMap.2 ⟨.tmp t, by simpa using hx, rfl⟩)
        by_cases hex : ∃ (j : Nat) (oj : Oper), j < n ∧ ops[j]? = some oj ∧ oj.dst = some t
        · obtain ⟨j, oj, hj, hoj, hdj⟩ := hex
          obtain ⟨hji, hjd⟩ := hdone j (g5 j oj t hj hoj hdj hlook)
          rw [(hv1 j oj t hj hjd hoj hdj).1, hcano j oj t hji hoj hdj]
        · have hno : ∀ j oj, j < n → ops[j]? = some oj → oj.dst ≠ some t := fun j oj hj hoj hd => hex ⟨j, oj, hj, hoj, hd⟩
          rw [hv2 t (fun j oj hj _ hoj => hno j oj hj hoj), hfar t hno]
      | _ => rfl
    have hop2 := hop w hC (fun j hj => by
      obtain ⟨hji, hjd⟩ := hdone j hj
      obtain ⟨o2, d2, k1, _, k2, _⟩ := headG_spec hhead (show j < n by omega)
      unfold atOp
      rw [k1]
      simp only [Option.bind_some, k2]
      rw [hcano j o2 d2 hji k1 k2]
      exact (hv1 j o2 d2 (by omega) hjd k1 k2).2)
    have hcont : ∀ v w', C w' → R w w' → G i v w' → wpAny P .any ops Q (f + (ops.size - n)) (ls.setIfInBounds i true) (a.put o'.dst v) w' := by
      intro v w' hC' hRw hGi
      have hils : i < ls.size := by rw [inv.size]; omega
      refine ih (ls.setIfInBounds i true) (a.put o'.dst v) w' (by have := cntR_set ls i hils (getD_both hun) n hin; omega) (inv.set hir hin) (by rw [put_size, hsz]) (by rw [put_def, hdf]) hC' ⟨fun j => if j = i then v else vals j, ?_, ?_⟩
      · intro j oj dj hj hjl hoj hdj
        by_cases hji : j = i
        · subst hji
          obtain rfl : oj = o' := Option.some.inj (hoj.symm.trans g1)
          have : dj = d := Option.some.inj (hdj.symm.trans g2)
          subst this
          show (a.put oj.dst v).eval (.tmp dj) = (if j = j then v else vals j) ∧ G j (if j = j then v else vals j) w'
          rw [if_pos rfl, hdj, put_same _ _ _ (by rw [hsz]; exact g3)]
          exact ⟨rfl, hGi⟩
        · rw [getD_set_ne false (Ne.symm hji)] at hjl
          have h1 := hv1 j oj dj hj hjl hoj hdj
          show (a.put o'.dst v).eval (.tmp dj) = (if j = i then v else vals j) ∧ G j (if j = i then v else vals j) w'
          rw [if_neg hji]
          refine ⟨?_, hR _ _ hRw _ _ h1.2⟩
          rw [put_other _ _ _ _ ?_]
          · exact h1.1
          · rw [g2]
            intro hdd
            injection hdd with hdd
            subst hdd
            rcases Nat.lt_or_gt_of_ne hji with hlt | hgt
            · exact gd j oj hlt hoj hdj
            · obtain ⟨o2, d2, k1, _, k2, _, k3, _⟩ := headG_spec hhead hj
              obtain rfl : o2 = oj := Option.some.inj (k1.symm.trans hoj)
              have : d2 = d := Option.some.inj (k2.symm.trans hdj)
              subst this
              exact k3 i o' hgt g1 g2
      · intro t ht
        have hne : o'.dst ≠ some t := ht i o' hin (by simp [hils]) g1
        rw [put_other _ _ _ _ hne]
        refine hv2 t (fun j oj hj hjl hoj => ht j oj hj (getD_set_true hjl) hoj)
    have hyield : ∀ k b, o'.guard = some (k, b) → yielded ops a.tmps k = some (if sk i = true then !b else b) := by
      intro k b hkb
      obtain ⟨hki, hwk, _⟩ := gg k b hkb
      obtain ⟨_, hkd⟩ := hdone k hwk
      obtain ⟨o2, d2, k1, _, k2, k3, _⟩ := headG_spec hhead (show k < n by omega)
      obtain ⟨he, hg⟩ := hv1 k o2 d2 (by omega) hkd k1 k2
      have hb := hgd i o' k b hin g1 hkb _ _ hg
      rw [hb] at he
      have hlt : d2 < a.tmps.size := by rw [hsz]; exact k3
      unfold yielded
      rw [k1]
      simp only [Option.bind_some, k2]
      have h3 : a.tmps[d2]? = some (.bool (if sk i = true then !b else b)) := by
        rw [Array.getElem?_eq_getElem hlt, ← he]
        simp [Act.eval, hlt]
      rw [h3]
    unfold wpOp
    rw [g1]
    simp only
    by_cases hs' : sk i = true
    · rw [if_pos hs'] at hop2
      have hwant : Region.wanted o' (yielded ops a.tmps) = false := by
        unfold Region.wanted
        cases hgu : o'.guard with
        | none => rw [hsk i o' hin g1 hgu] at hs'; cases hs'
        | some kb =>
          obtain ⟨k, b⟩ := kb
          simp only [hyield k b hgu, if_pos hs']
          cases b <;> rfl
      simp only [hwant]
      exact hcont undef w hC hop2.1 hop2.2
    · rw [if_neg hs'] at hop2
      have hwant : Region.wanted o' (yielded ops a.tmps) = true := by
        unfold Region.wanted
        cases hgu : o'.guard with
        | none => rfl
        | some kb =>
          obtain ⟨k, b⟩ := kb
          simp only [hyield k b hgu, if_neg hs']
          cases b <;> rfl
      simp only [hwant, if_true]
      have hstep := hop2 (fun a' w' => a'.defers = (putsR vals 0 ((l.take n).take i) a0).defers ∧ (C w' ∧ R w w' ∧ G i (a'.eval (.tmp d)) w'))
        (fun v w' h1 h2 h3 => ⟨put_def _ _ _, h1, h2, by rw [g2, put_same _ _ _ (by rw [putsR_size, hm]; exact g3)]; exact h3⟩)
      exact .inl (wp_carry (Z := fun v w' => C w' ∧ R w w' ∧ G i v w') g2 (by rw [putsR_size, hm]; exact g3) hev hstep fun v w' ⟨hC', hRw, hGi⟩ => hcont v w' hC' hRw hGi)

/-- THE LAW: a drawn region, n operations in any order, then a forced tail. -/
theorem wp_region_relG {id : Nat} {Q : Exit → Act → World → Prop} {a : Act} {w : World} {l : List Oper} (n m : Nat) (C : World → Prop) (R : World → World → Prop) (G : Nat → Value → World → Prop) (sk : Nat → Bool)
    (hm : P.follows .mixedOrders = true) (hB : relBG l.toArray n m = true) (hs : a.tmps.size = m) (hC : C { w with drawn := w.drawn + 1 }) (hR : ∀ w w', R w w' → ∀ j v, G j v w → G j v w')
    (hgd : ∀ i o k b, i < n → l.toArray[i]? = some o → o.guard = some (k, b) → ∀ v w, G k v w → v = .bool (if sk i = true then !b else b)) (hsk : ∀ i o, i < n → l.toArray[i]? = some o → o.guard = none → sk i = false)
    (h : relWalkG P l.toArray C R G sk (fun a' => ∀ w', C w' → (∀ j, j < n → G j (atOp l.toArray a' j) w') → wpList P l.toArray Q (l.drop n) a' w') 0 (l.take n) a) : (Code.region id l.toArray true).wp P Q a w := by
  refine wp_region_any hm ?_
  have hB' := hB
  simp only [relBG, Bool.and_eq_true, decide_eq_true_eq] at hB'
  have hn : n < l.toArray.size := hB'.1.1.1.1.2
  have hcnt : ∀ k, cntR (Array.replicate l.toArray.size false) k = k := by
    intro k
    induction k with
    | zero => rfl
    | succ k ih => simp only [cntR, ih, getD_replicate_false]; simp
  have inv0 : HeadInv .any l.toArray n (Array.replicate l.toArray.size false) :=
    ⟨by simp, fun j oj _ hl => (by rw [getD_replicate_false] at hl; cases hl), fun t _ ht => getD_in (by simpa using ht) (getD_replicate_false _ _)⟩
  have := any_of_relG (P := P) (ops := l.toArray) (C := C) (R := R) (G := G) (sk := sk) (n := n) (m := m) (Q := Q) (l := l) (a0 := a) rfl hB hs hR hgd hsk h (fun a' w' hT hC' hG => hT w' hC' hG) n (Array.replicate l.toArray.size false) a { w with drawn := w.drawn + 1 } (hcnt n) inv0 hs rfl hC
    ⟨fun _ => undef, fun j o d hj hl => (by rw [getD_replicate_false] at hl; cases hl), fun t _ => rfl⟩
  rw [show n + (l.toArray.size - n) = l.toArray.size by omega] at this
  exact this
theorem relWalkG_cons {P : Program} {ops : Array Oper} {C : World → Prop} {R : World → World → Prop} {G : Nat → Value → World → Prop} {sk : Nat → Bool} {T : Act → Prop} {i : Nat} {o : Oper} {l : List Oper} {a : Act} (hs : sk i = false)
    (h1 : ∀ w, C w → (∀ j, Region.waitsFor .any ops i j = true → G j (atOp ops a j) w) → ∀ K : Act → World → Prop, (∀ v w', C w' → R w w' → G i v w' → K (a.put o.dst v) w') → Oper.wp P o a w K QNone)
    (h2 : ∀ v, relWalkG P ops C R G sk T (i + 1) l (a.put o.dst v)) : relWalkG P ops C R G sk T i (o :: l) a := ⟨fun w hC hd => by rw [if_neg (by rw [hs]; exact Bool.false_ne_true)]; exact h1 w hC hd, h2⟩
theorem relWalkG_skip {P : Program} {ops : Array Oper} {C : World → Prop} {R : World → World → Prop} {G : Nat → Value → World → Prop} {sk : Nat → Bool} {T : Act → Prop} {i : Nat} {o : Oper} {l : List Oper} {a : Act} (hs : sk i = true)
    (h1 : ∀ w, R w w ∧ G i undef w) (h2 : ∀ v, relWalkG P ops C R G sk T (i + 1) l (a.put o.dst v)) : relWalkG P ops C R G sk T i (o :: l) a := ⟨fun w hC hd => by rw [if_pos hs]; exact h1 w, h2⟩
theorem relWalkG_nil {P : Program} {ops : Array Oper} {C : World → Prop} {R : World → World → Prop} {G : Nat → Value → World → Prop} {sk : Nat → Bool} {T : Act → Prop} {i : Nat} {a : Act} (h : T a) : relWalkG P ops C R G sk T i [] a := h
end

/-- Facts by a list, the guards decided by them: gl lists, for each operation that a guard looks at, the Bool that it is known to be. -/
def guardB (ops : Array Oper) (n : Nat) (kb : Nat → Option Bool) (sk : Nat → Bool) : Bool :=
  (List.range n).all fun i => match ops[i]? with
    | none => true
    | some o => match o.guard with
      | none => !sk i
      | some (k, b) => kb k == some (if sk i = true then !b else b)
theorem guardB_spec {ops : Array Oper} {n : Nat} {kb : Nat → Option Bool} {sk : Nat → Bool} (h : guardB ops n kb sk = true) {i : Nat} {o : Oper} (hi : i < n) (ho : ops[i]? = some o) :
    (o.guard = none → sk i = false) ∧ ∀ k b, o.guard = some (k, b) → kb k = some (if sk i = true then !b else b) := by
  have h1 := List.all_eq_true.1 h i (List.mem_range.2 hi)
  rw [ho] at h1
  cases hg : o.guard with
  | none =>
    simp only [hg] at h1
    exact ⟨fun _ => by simpa using h1, fun k b hk => by cases hk⟩
  | some kb' =>
    obtain ⟨k', b'⟩ := kb'
    simp only [hg, beq_iff_eq] at h1
    refine ⟨fun h => (by cases h), fun k b hk => ?_⟩
    injection hk with hk
    injection hk with e1 e2
    subst e1; subst e2
    exact h1
/-- A drawn region with guards that only adds memory: the facts of the operations by a list, those that a guard looks at by kb. -/
theorem wp_region_sg {P : Program} {id : Nat} {Q : Exit → Act → World → Prop} {a : Act} {W : World} {l : List Oper} (n m : Nat) (ls : List SP) (kb : Nat → Option Bool) (sk : Nat → Bool)
    (hm : P.follows .mixedOrders = true) (hB : relBG l.toArray n m = true) (hG : guardB l.toArray n kb sk = true) (hs : a.tmps.size = m) (hk : ∀ k b, kb k = some b → ∀ v w, GS ls k v w → v = .bool b)
    (h : relWalkG P l.toArray (fun x => Below W.heap.size W x) (fun x y => Below x.heap.size x y) (GS ls) sk (fun a' => ∀ w', Below W.heap.size W w' → (∀ j, j < n → GS ls j (atOp l.toArray a' j) w') → wpList P l.toArray Q (l.drop n) a' w') 0 (l.take n) a) : (Code.region id l.toArray true).wp P Q a W :=
  wp_region_relG n m _ _ (GS ls) sk hm hB hs ((Below.refl _ _).drew) (fun x y hr => GS.keep hr) (fun i o k b hi ho hg v w hv => hk k _ ((guardB_spec hG hi ho).2 k b hg) v w hv) (fun i o hi ho hg => (guardB_spec hG hi ho).1 hg) h

end Go.Proofs.Ytpoagdffpajdjaa
