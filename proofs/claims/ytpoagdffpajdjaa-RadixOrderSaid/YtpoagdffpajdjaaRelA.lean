/-
  Drawn regions without a forced tail: one operation (a store) changes the world; what it waits for comes ahead of it, all others may come behind it too.
-/
import Derived.Test.YtpoagdffpajdjaaRel
import Derived.Test.YtpoagdffpajdjaaBase
import Derived.Great.BuildSlice
namespace Go.Proofs.Ytpoagdffpajdjaa
open Go.RowKit
set_option linter.unusedVariables false
set_option linter.unusedSimpArgs false
section
variable {P : Program} {ops : Array Oper} {C : Bool → World → Prop} {R : World → World → Prop} {G : Nat → Value → World → Prop} {s : Nat} {pl : Nat → Bool}

def RelOpA (P : Program) (ops : Array Oper) (C : Bool → World → Prop) (R : World → World → Prop) (G : Nat → Value → World → Prop) (s : Nat) (pl : Nat → Bool) (i : Nat) (o : Oper) (a : Act) : Prop :=
  ∀ b w, (b = true → i ≠ s ∧ pl i = false) → C b w → (∀ j, Region.waitsFor .any ops i j = true → G j (atOp ops a j) w) → ∀ K : Act → World → Prop, (∀ v w', C (b || i == s) w' → R w w' → G i v w' → K (a.put o.dst v) w') → Oper.wp P o a w K QNone
def relWalkA (P : Program) (ops : Array Oper) (C : Bool → World → Prop) (R : World → World → Prop) (G : Nat → Value → World → Prop) (s : Nat) (pl : Nat → Bool) (T : Act → Prop) : Nat → List Oper → Act → Prop
  | _, [], a => T a
  | i, o :: l, a => RelOpA P ops C R G s pl i o a ∧ ∀ v, relWalkA P ops C R G s pl T (i + 1) l (a.put o.dst v)
theorem relWalkA_at {T : Act → Prop} (vals : Nat → Value) : ∀ (l : List Oper) (s0 : Nat) (a : Act), relWalkA P ops C R G s pl T s0 l a → ∀ k o, l[k]? = some o → RelOpA P ops C R G s pl (s0 + k) o (putsR vals s0 (l.take k) a)
  | [], _, _, _, k, o, hk => by simp at hk
  | x :: l, s0, a, h, 0, o, hk => by
    obtain rfl : x = o := by simpa using hk
    simpa [putsR] using h.1
  | x :: l, s0, a, h, k + 1, o, hk => by
    have := relWalkA_at vals l (s0 + 1) _ (h.2 (vals s0)) k o (by simpa using hk)
    rw [show s0 + (k + 1) = s0 + 1 + k from by omega]
    simpa [putsR] using this
theorem relWalkA_end {T : Act → Prop} (vals : Nat → Value) : ∀ (l : List Oper) (s0 : Nat) (a : Act), relWalkA P ops C R G s pl T s0 l a → T (putsR vals s0 l a)
  | [], _, _, h => h
  | _ :: l, s0, _, h => relWalkA_end vals l (s0 + 1) _ (h.2 (vals s0))

/-- What the region's edges must say. -/
def headA (ops : Array Oper) (m s : Nat) (pl : Nat → Bool) : Bool :=
  (List.range ops.size).all fun i => match ops[i]? with
    | none => false
    | some o => o.guard.isNone && (match o.dst with | some d => decide (d < m) && (List.range i).all (fun j => match ops[j]? with | some oj => oj.dst != some d | none => true) | none => i == s) &&
      o.after.all (fun e => !Region.binds .any e || decide (e.on < i)) &&
      (List.range ops.size).all (fun j => match (ops[j]?).bind (·.dst) with | some d => !(o.looksAt ops).contains d || Region.waitsFor .any ops i j | none => true) &&
      (!pl i || (List.range ops.size).any (fun j => decide (i < j) && Region.waitsFor .any ops j i && (j == s || pl j)))
def relBA (ops : Array Oper) (m s : Nat) (pl : Nat → Bool) : Bool := Region.noSelect ops && decide (s < ops.size) && headA ops m s pl

theorem headA_spec {m : Nat} (h : headA ops m s pl = true) {i : Nat} (hi : i < ops.size) : ∃ o, ops[i]? = some o ∧ o.guard = none ∧ (∀ d, o.dst = some d → d < m ∧
    (∀ j oj, j < i → ops[j]? = some oj → oj.dst ≠ some d)) ∧ (o.dst = none → i = s) ∧ (∀ e ∈ o.after, Region.binds .any e = true → e.on < i) ∧ (∀ j oj d', j < ops.size → ops[j]? = some oj → oj.dst = some d' → d' ∈ o.looksAt ops → Region.waitsFor .any ops i j = true) ∧
    (pl i = true → ∃ j, i < j ∧ j < ops.size ∧ Region.waitsFor .any ops j i = true ∧ (j = s ∨ pl j = true)) := by
  have h1 := List.all_eq_true.1 h i (List.mem_range.2 hi)
  cases ho : ops[i]? with
  | none => rw [ho] at h1; cases h1
  | some o =>
    rw [ho] at h1
    simp only [Bool.and_eq_true] at h1
    obtain ⟨⟨⟨⟨hg, hd⟩, ha⟩, hl⟩, hp⟩ := h1
    refine ⟨o, rfl, by simpa using hg, fun d hdst => ?_, fun hdst => ?_, ?_, ?_, ?_⟩
    · rw [hdst] at hd
      simp only [Bool.and_eq_true, decide_eq_true_eq] at hd
      refine ⟨hd.1, fun j oj hj hoj => ?_⟩
      have := List.all_eq_true.1 hd.2 j (List.mem_range.2 hj)
      rw [hoj] at this
      simpa using this
    · rw [hdst] at hd; simpa using hd
    · intro e he hb
      have := (Array.all_eq_true_iff_forall_mem.1 ha) e he
      simpa [hb] using this
    · intro j oj d' hj hoj hd' hm
      have := List.all_eq_true.1 hl j (List.mem_range.2 hj)
      rw [hoj] at this
      simp only [Option.bind_some, hd'] at this
      simpa [hm] using this
    · intro hpi
      rw [hpi] at hp
      simp only [Bool.not_true, Bool.false_or] at hp
      obtain ⟨j, hj, hp⟩ := List.any_eq_true.1 hp
      simp only [Bool.and_eq_true, decide_eq_true_eq, Bool.or_eq_true, beq_iff_eq] at hp
      exact ⟨j, hp.1.1, List.mem_range.1 hj, hp.1.2, hp.2⟩

theorem put_congr {a b : Act} {d : Option Tmp} {u v : Value} (hb : ∀ t, d = some t → t < b.tmps.size) (h : b.put d u = b.put d v) : a.put d u = a.put d v := by
  cases d with
  | none => rfl
  | some t =>
    have ht := hb t rfl
    have := congrArg (fun x : Act => x.eval (.tmp t)) h
    simp only [put_same _ _ _ ht] at this
    rw [this]

theorem wp_carryA {o : Oper} {a b : Act} {w : World} {Z : Value → World → Prop} {K : Act → World → Prop} {Q : Exit → Act → World → Prop} (hb : ∀ t, o.dst = some t → t < b.tmps.size) (he : execOp a.eval o = execOp b.eval o)
    (h : Oper.wp P o b w (fun a' w' => ∃ v, a' = b.put o.dst v ∧ Z v w') QNone) (hk : ∀ v w', Z v w' → K (a.put o.dst v) w') : Oper.wp P o a w K Q := by
  unfold Oper.wp at *
  rw [he]
  generalize (execOp b.eval o).run P w = r at *
  cases r with
  | ok n w' =>
    cases n <;> simp only [Oper.upon] at h ⊢
    case value u => obtain ⟨v, h1, h2⟩ := h; rw [put_congr hb h1]; exact hk v w' h2
    case skip => obtain ⟨v, h1, h2⟩ := h; rw [put_congr hb h1]; exact hk v w' h2
    case defer x =>
      obtain ⟨v, h1, _⟩ := h
      have := congrArg (fun x : Act => x.defers.length) h1
      simp only [put_def] at this
      simp at this
    case enter f args =>
      refine Calls.mono h fun e w'' he => ?_
      cases e with
      | returned u => obtain ⟨v, h1, h2⟩ := he; show K (a.put o.dst u) w''; rw [put_congr hb h1]; exact hk v w'' h2
      | panicked c => exact he.elim
      | outgrown => obtain ⟨_, _, hf⟩ := he; exact hf.elim
    case row row args => exact Rows.mono h fun u w'' ⟨v, h1, h2⟩ => by rw [put_congr hb h1]; exact hk v w'' h2
  | halt x w' => cases x <;> simp only [Oper.upon] at h ⊢; exact h.elim

theorem any_of_relA {m : Nat} {Q : Exit → Act → World → Prop} {T : Act → Prop} {l : List Oper} {a0 : Act} (hops : ops = l.toArray) (hB : relBA ops m s pl = true) (hm : a0.tmps.size = m)
    (hR : ∀ w w', R w w' → ∀ j v, G j v w → G j v w') (hs0 : ∀ w, G s undef w) (hW : relWalkA P ops C R G s pl T 0 l a0)
    (hT : ∀ a w, T a → C true w → (∀ j, j < ops.size → G j (atOp ops a j) w) → Q .normal a w) :
    ∀ (f : Nat) (ls : Array Bool) (a : Act) (w : World), cntR ls ops.size = f → HeadInv .any ops ops.size ls → a.tmps.size = m → a.defers = a0.defers → C (ls.getD s false) w → (∃ vals : Nat → Value,
      (∀ j o, ls.getD j false = true → ops[j]? = some o → (∀ d, o.dst = some d → a.eval (.tmp d) = vals j) ∧ (o.dst = none → vals j = undef) ∧ G j (vals j) w) ∧
      (∀ t, (∀ j o, ls.getD j false = true → ops[j]? = some o → o.dst ≠ some t) → a.eval (.tmp t) = a0.eval (.tmp t))) →
      wpAny P .any ops Q f ls a w := by
  simp only [relBA, Bool.and_eq_true, decide_eq_true_eq] at hB
  obtain ⟨⟨hsel, hsz0⟩, hhead⟩ := hB
  have hget : ∀ j : Nat, ops[j]? = l[j]? := fun j => by rw [hops]; simp
  have hlt : ∀ (k : Nat) (o : Oper), ops[k]? = some o → k < ops.size := fun k o hk => (Array.getElem?_eq_some_iff.1 hk).1
  intro f
  induction f with
  | zero =>
    intro ls a w hf inv hsz hdf hC ⟨vals, hv1, hv2⟩
    have hall := cntR_zero ls _ hf
    have ha : a = putsR vals 0 l a0 := by
      apply act_ext
      · rw [putsR_size, hsz, hm]
      · rw [putsR_def, hdf]
      · intro t ht
        by_cases hx : ∃ (k : Nat) (o : Oper), k < ops.size ∧ ops[k]? = some o ∧ o.dst = some t
        · obtain ⟨k, o, hk, ho, hd⟩ := hx
          rw [(hv1 k o (hall k hk) ho).1 t hd]
          rw [putsR_same vals t l 0 a0 k o (by rw [← hget]; exact ho) hd ?_ (by rw [hm, ← hsz]; exact ht), Nat.zero_add]
          intro k' o' hk' ho'
          rw [← hget] at ho'
          obtain ⟨o2, g1, _, g2, _⟩ := headA_spec hhead (hlt _ _ ho')
          have : o2 = o' := Option.some.inj (g1.symm.trans ho')
          subst this
          intro hdd
          exact (g2 t hdd).2 k o hk' ho hd
        · rw [hv2 t (fun j o _ ho hd => hx ⟨j, o, hlt _ _ ho, ho, hd⟩), putsR_other vals t l 0 a0 (fun k o hk hd => hx ⟨k, o, hlt k o (by rw [hget]; exact hk), by rw [hget]; exact hk, hd⟩)]
    have hTa := relWalkA_end vals l 0 a0 hW
    rw [← ha] at hTa
    have hCt : C true w := by rw [hall s hsz0] at hC; exact hC
    refine ⟨?_, hT a w hTa hCt (fun j hj => by
      obtain ⟨o, g1, _⟩ := headA_spec hhead hj
      obtain ⟨k1, k2, k3⟩ := hv1 j o (hall j hj) g1
      unfold atOp
      rw [g1]
      simp only [Option.bind_some]
      cases hd : o.dst with
      | none => rw [k2 hd] at k3; exact k3
      | some d => simp only; rw [k1 d hd]; exact k3)⟩
    cases hr : Region.ready .any ops ls with
    | nil => rfl
    | cons i r =>
      have hi : i ∈ Region.ready .any ops ls := by rw [hr]; exact List.mem_cons_self ..
      obtain ⟨hun, o, ho, _⟩ := mem_ready.1 hi
      have := hall i (hlt _ _ ho)
      rw [getD_both hun] at this
      cases this
  | succ f ih =>
    intro ls a w hf inv hsz hdf hC ⟨vals, hv1, hv2⟩
    obtain ⟨i0, hi0, hu0, hbefore⟩ := cntR_first ls ops.size (by omega)
    have hr0 : i0 ∈ Region.ready .any ops ls := by
      obtain ⟨o, g1, _, _, _, g4, _⟩ := headA_spec hhead hi0
      exact mem_ready.2 ⟨getD_in (by rw [inv.size]; omega) hu0, o, g1, fun e he hb => hbefore _ (g4 e he hb)⟩
    refine ⟨fun h => (by rw [h] at hr0; cases hr0), fun i hir => ?_⟩
    obtain ⟨hun, o, g1, hall⟩ := mem_ready.1 hir
    have hin : i < ops.size := hlt _ _ g1
    obtain ⟨o', ho', gg, g2, g2n, g4, g5, g6⟩ := headA_spec hhead hin
    obtain rfl : o' = o := Option.some.inj (ho'.symm.trans g1)
    have hop := relWalkA_at vals l 0 a0 hW i o' (by rw [← hget]; exact g1)
    rw [Nat.zero_add] at hop
    have htk : ∀ (k : Nat) (ok : Oper), (l.take i)[k]? = some ok → k < i ∧ ops[k]? = some ok := fun k ok hk => by
      rw [List.getElem?_take] at hk
      split at hk
      · exact ⟨by assumption, by rw [hget]; exact hk⟩
      · cases hk
    have hcano : ∀ j oj dj, j < i → ops[j]? = some oj → oj.dst = some dj → (putsR vals 0 (l.take i) a0).eval (.tmp dj) = vals j := by
      intro j oj dj hj hoj hdj
      have hl' : (l.take i)[j]? = some oj := by rw [List.getElem?_take, if_pos hj, ← hget]; exact hoj
      obtain ⟨o2, k1, _, k2, _⟩ := headA_spec hhead (hlt _ _ hoj)
      obtain rfl : o2 = oj := Option.some.inj (k1.symm.trans hoj)
      rw [putsR_same vals dj _ 0 a0 j o2 hl' hdj ?_ (by rw [hm]; exact (k2 dj hdj).1), Nat.zero_add]
      intro k' o'' hk' ho''
      obtain ⟨_, ho3⟩ := htk k' o'' ho''
      obtain ⟨o3, m1, _, m2, _⟩ := headA_spec hhead (hlt _ _ ho3)
      obtain rfl : o3 = o'' := Option.some.inj (m1.symm.trans ho3)
      intro hdd
      exact (m2 dj hdd).2 j o2 hk' hoj hdj
    have hfar : ∀ t, (∀ (j : Nat) (oj : Oper), ops[j]? = some oj → oj.dst ≠ some t) → (putsR vals 0 (l.take i) a0).eval (.tmp t) = a0.eval (.tmp t) := fun t ht =>
      putsR_other vals t _ 0 a0 (fun k ok hk => ht k ok (htk k ok hk).2)
    have hdone : ∀ j, Region.waitsFor .any ops i j = true → j < i ∧ ls.getD j false = true := fun j hj => by
      obtain ⟨e, he, hb, hon⟩ := waits_of hj g1
      subst hon
      exact ⟨g4 e he hb, hall e he hb⟩
    have hev : execOp a.eval o' = execOp (putsR vals 0 (l.take i) a0).eval o' := by
      refine execOp_congr o' (fun cs b => Region.noSelect_spec hsel i o' cs b g1) (fun x hx => ?_)
      cases x with
      | tmp t =>
        have hlook : t ∈ o'.looksAt ops := List.mem_append_left _ (List.mem_filterMap.2 ⟨.tmp t, by simpa using hx, rfl⟩)
        by_cases hex : ∃ (j : Nat) (oj : Oper), ops[j]? = some oj ∧ oj.dst = some t
        · obtain ⟨j, oj, hoj, hdj⟩ := hex
          obtain ⟨hji, hjd⟩ := hdone j (g5 j oj t (hlt _ _ hoj) hoj hdj hlook)
          rw [(hv1 j oj hjd hoj).1 t hdj, hcano j oj t hji hoj hdj]
        · have hno : ∀ (j : Nat) (oj : Oper), ops[j]? = some oj → oj.dst ≠ some t := fun j oj hoj hd => hex ⟨j, oj, hoj, hd⟩
          rw [hv2 t (fun j oj _ hoj => hno j oj hoj), hfar t hno]
      | _ => rfl
    -- what the store waits for is not behind it
    have hahead : ∀ (k j : Nat), ops.size - j = k → j < ops.size → pl j = true → ls.getD j false = false → ls.getD s false = false := by
      intro k
      induction k using Nat.strongRecOn with
      | _ k ihk =>
        intro j hk hj hp hu
        obtain ⟨_, _, _, _, _, _, _, q⟩ := headA_spec hhead hj
        obtain ⟨j', hjj, hj', hw, hps⟩ := q hp
        obtain ⟨oj, hoj, e, he, hb, hon⟩ := Region.waitsFor_spec hw
        have hju : ls.getD j' false = false := by
          cases hl : ls.getD j' false with
          | false => rfl
          | true => have := inv.closed j' oj hoj hl e he hb; rw [hon, hu] at this; cases this
        rcases hps with rfl | hps
        · exact hju
        · exact ihk (ops.size - j') (by omega) j' rfl hj' hps hju
    have hils : i < ls.size := by rw [inv.size]; omega
    have hstep := hop (ls.getD s false) w (fun hb => by
        refine ⟨fun e => ?_, ?_⟩
        · subst e; rw [getD_both hun] at hb; cases hb
        · cases hp : pl i with
          | false => rfl
          | true => have := hahead _ i rfl hin hp (getD_both hun); rw [this] at hb; cases hb) hC (fun j hj => by
      obtain ⟨hji, hjd⟩ := hdone j hj
      obtain ⟨o2, k1, _⟩ := headA_spec hhead (show j < ops.size by omega)
      obtain ⟨q1, q2, q3⟩ := hv1 j o2 hjd k1
      unfold atOp
      rw [k1]
      simp only [Option.bind_some]
      cases hd : o2.dst with
      | none => rw [q2 hd] at q3; exact q3
      | some d => simp only; rw [hcano j o2 d hji k1 hd]; exact q3)
      (fun a' w' => ∃ v, a' = (putsR vals 0 (l.take i) a0).put o'.dst v ∧ (C (ls.getD s false || i == s) w' ∧ R w w' ∧ G i v w'))
      (fun v w' h1 h2 h3 => ⟨v, rfl, h1, h2, h3⟩)
    have hwant : Region.wanted o' (yielded ops a.tmps) = true := by simp [Region.wanted, gg]
    unfold wpOp
    rw [g1]
    simp only [hwant, if_true]
    refine .inl (wp_carryA (Z := fun v w' => C (ls.getD s false || i == s) w' ∧ R w w' ∧ G i v w') (fun t ht => by rw [putsR_size, hm]; exact (g2 t ht).1) hev hstep fun v w' ⟨hC', hRw, hGi⟩ => ?_)
    have hgs : (ls.setIfInBounds i true).getD s false = (ls.getD s false || i == s) := by
      by_cases his : i = s
      · subst his; simp [hils]
      · rw [getD_set_ne false his]; simp [his]
    refine ih (ls.setIfInBounds i true) (a.put o'.dst v) w' (by have := cntR_set ls i hils (getD_both hun) ops.size hin; omega) (inv.set hir hin) (by rw [put_size, hsz]) (by rw [put_def, hdf]) (by rw [hgs]; exact hC') ⟨fun j => if j = i then (if o'.dst = none then undef else v) else vals j, ?_, ?_⟩
    · intro j oj hjl hoj
      by_cases hji : j = i
      · subst hji
        obtain rfl : oj = o' := Option.some.inj (hoj.symm.trans g1)
        show (∀ d, oj.dst = some d → (a.put oj.dst v).eval (.tmp d) = (if j = j then (if oj.dst = none then undef else v) else vals j)) ∧ (oj.dst = none → (if j = j then (if oj.dst = none then undef else v) else vals j) = undef) ∧ G j (if j = j then (if oj.dst = none then undef else v) else vals j) w'
        rw [if_pos rfl]
        refine ⟨fun d hd => ?_, fun hd => by rw [if_pos hd], ?_⟩
        · rw [if_neg (by rw [hd]; simp), hd, put_same _ _ _ (by rw [hsz]; exact (g2 d hd).1)]
        · cases hd : oj.dst with
          | none => rw [if_pos rfl, g2n hd]; exact hs0 w'
          | some d => rw [if_neg (by simp)]; exact hGi
      · rw [getD_set_ne false (Ne.symm hji)] at hjl
        obtain ⟨q1, q2, q3⟩ := hv1 j oj hjl hoj
        show (∀ d, oj.dst = some d → (a.put o'.dst v).eval (.tmp d) = (if j = i then (if o'.dst = none then undef else v) else vals j)) ∧ (oj.dst = none → (if j = i then (if o'.dst = none then undef else v) else vals j) = undef) ∧ G j (if j = i then (if o'.dst = none then undef else v) else vals j) w'
        rw [if_neg hji]
        refine ⟨fun d hd => ?_, q2, hR _ _ hRw _ _ q3⟩
        rw [put_other _ _ _ _ ?_]
        · exact q1 d hd
        · intro hdd
          rcases Nat.lt_or_gt_of_ne hji with hlt' | hgt
          · exact (g2 d hdd).2 j oj hlt' hoj hd
          · obtain ⟨o2, k1, _, k2, _⟩ := headA_spec hhead (hlt _ _ hoj)
            obtain rfl : o2 = oj := Option.some.inj (k1.symm.trans hoj)
            exact (k2 d hd).2 i o' hgt g1 hdd
    · intro t ht
      have hne : o'.dst ≠ some t := ht i o' (by simp [hils]) g1
      rw [put_other _ _ _ _ hne]
      exact hv2 t (fun j oj hjl hoj => ht j oj (getD_set_true hjl) hoj)

theorem wp_region_relA {id : Nat} {Q : Exit → Act → World → Prop} {a : Act} {w : World} {l : List Oper} (m s : Nat) (pl : Nat → Bool) (C : Bool → World → Prop) (R : World → World → Prop) (G : Nat → Value → World → Prop)
    (hm : P.follows .mixedOrders = true) (hB : relBA l.toArray m s pl = true) (hs : a.tmps.size = m) (hC : C false { w with drawn := w.drawn + 1 }) (hR : ∀ w w', R w w' → ∀ j v, G j v w → G j v w') (hs0 : ∀ w, G s undef w)
    (h : relWalkA P l.toArray C R G s pl (fun a' => ∀ w', C true w' → (∀ j, j < l.toArray.size → G j (atOp l.toArray a' j) w') → wpList P l.toArray Q [] a' w') 0 l a) : (Code.region id l.toArray true).wp P Q a w := by
  refine wp_region_any hm ?_
  have hB' := hB
  simp only [relBA, Bool.and_eq_true, decide_eq_true_eq] at hB'
  have hcnt : ∀ k, cntR (Array.replicate l.toArray.size false) k = k := by
    intro k
    induction k with
    | zero => rfl
    | succ k ih => simp only [cntR, ih, getD_replicate_false]; simp
  have inv0 : HeadInv .any l.toArray l.toArray.size (Array.replicate l.toArray.size false) :=
    ⟨by simp, fun j oj _ hl => (by rw [getD_replicate_false] at hl; cases hl), fun t _ ht => getD_in (by simpa using ht) (getD_replicate_false _ _)⟩
  exact any_of_relA (P := P) (ops := l.toArray) (C := C) (R := R) (G := G) (m := m) (Q := Q) (l := l) (a0 := a) rfl hB hs hR hs0 h (fun a' w' hT hC' hG => hT w' hC' hG) l.toArray.size (Array.replicate l.toArray.size false) a { w with drawn := w.drawn + 1 } (hcnt _) inv0 hs rfl (by rw [getD_replicate_false]; exact hC)
    ⟨fun _ => undef, fun j o hl => (by rw [getD_replicate_false] at hl; cases hl), fun t _ => rfl⟩
theorem relWalkA_cons {T : Act → Prop} {i : Nat} {o : Oper} {l : List Oper} {a : Act}
    (h1 : ∀ b w, (b = true → i ≠ s ∧ pl i = false) → C b w → (∀ j, Region.waitsFor .any ops i j = true → G j (atOp ops a j) w) → ∀ K : Act → World → Prop, (∀ v w', C (b || i == s) w' → R w w' → G i v w' → K (a.put o.dst v) w') → Oper.wp P o a w K QNone)
    (h2 : ∀ v, relWalkA P ops C R G s pl T (i + 1) l (a.put o.dst v)) : relWalkA P ops C R G s pl T i (o :: l) a := ⟨h1, h2⟩
/-- An operation that the store waits for. -/
theorem relWalkA_pre {T : Act → Prop} {i : Nat} {o : Oper} {l : List Oper} {a : Act} (hp : pl i = true) (his : (i == s) = false)
    (h1 : ∀ w, C false w → (∀ j, Region.waitsFor .any ops i j = true → G j (atOp ops a j) w) → ∀ K : Act → World → Prop, (∀ v w', C false w' → R w w' → G i v w' → K (a.put o.dst v) w') → Oper.wp P o a w K QNone)
    (h2 : ∀ v, relWalkA P ops C R G s pl T (i + 1) l (a.put o.dst v)) : relWalkA P ops C R G s pl T i (o :: l) a := by
  refine ⟨fun b w hb hC hG K hK => ?_, h2⟩
  cases b with
  | true => rw [(hb rfl).2] at hp; cases hp
  | false => exact h1 w hC hG K fun v w' h => hK v w' (by rw [his]; exact h)
/-- The store. -/
theorem relWalkA_store {T : Act → Prop} {o : Oper} {l : List Oper} {a : Act}
    (h1 : ∀ w, C false w → (∀ j, Region.waitsFor .any ops s j = true → G j (atOp ops a j) w) → ∀ K : Act → World → Prop, (∀ v w', C true w' → R w w' → G s v w' → K (a.put o.dst v) w') → Oper.wp P o a w K QNone)
    (h2 : ∀ v, relWalkA P ops C R G s pl T (s + 1) l (a.put o.dst v)) : relWalkA P ops C R G s pl T s (o :: l) a := by
  refine ⟨fun b w hb hC hG K hK => ?_, h2⟩
  cases b with
  | true => exact absurd rfl (hb rfl).1
  | false => exact h1 w hC hG K fun v w' h => hK v w' (by simpa using h)
/-- A pure operation that may come before or behind the store. -/
theorem relWalkA_any {T : Act → Prop} {i : Nat} {o : Oper} {l : List Oper} {a : Act} (his : (i == s) = false) (hR : ∀ w, R w w)
    (h1 : ∀ w, (∀ j, Region.waitsFor .any ops i j = true → G j (atOp ops a j) w) → ∀ K : Act → World → Prop, (∀ v, G i v w → K (a.put o.dst v) w) → Oper.wp P o a w K QNone)
    (h2 : ∀ v, relWalkA P ops C R G s pl T (i + 1) l (a.put o.dst v)) : relWalkA P ops C R G s pl T i (o :: l) a :=
  ⟨fun b w hb hC hG K hK => h1 w hG K fun v hv => hK v w (by rw [his, Bool.or_false]; exact hC) (hR w) hv, h2⟩
theorem relWalkA_nil {T : Act → Prop} {i : Nat} {a : Act} (h : T a) : relWalkA P ops C R G s pl T i [] a := h

def QK (K : Act → World → Prop) : Exit → Act → World → Prop
  | .normal, a, w => K a w
  | _, _, _ => False
/-- One operation's step out of a row of one. -/
theorem wp_of_list {o : Oper} {a : Act} {w : World} {K : Act → World → Prop} (hg : o.guard = none) (h : wpList P ops (QK K) [o] a w) : o.wp P a w K QNone := by
  have hno : ¬ LetsOut (QK K) := fun ⟨_, _, hf⟩ => hf
  unfold wpList at h
  have hwant : Region.wanted o (yielded ops a.tmps) = true := by simp [Region.wanted, hg]
  rw [if_pos hwant] at h
  rcases h with h | h
  · unfold Oper.wp at *
    generalize (execOp a.eval o).run P w = r at *
    cases r with
    | ok n w' =>
      cases n <;> simp only [Oper.upon] at h ⊢
      case value u => exact h
      case skip => exact h
      case defer x => exact h
      case enter f args =>
        refine Calls.mono h fun e w'' he => ?_
        cases e with
        | returned u => exact he
        | panicked c => exact he.elim
        | outgrown => exact absurd he hno
      case row row args => exact Rows.mono h fun u w'' he => he
    | halt x w' => cases x <;> simp only [Oper.upon] at h ⊢; exact h.elim
  · exact absurd h.2 hno
theorem wp_store_row {o : Oper} {a : Act} {w : World} {K : Act → World → Prop} (hgd : o.guard = none) (ty : TypeId) (x y : Operand) (ho : o.op = .store ty x y)
    (hd : o.dst = none) (g : Nat) (cells : Array Value) (hx : a.eval x = .pointer (some ⟨g, 0, none⟩)) (hy : a.eval y = .agg cells)
    (t : TypeId) (old : Array Value) (hg : w.heap[g]? = some (.cells old t (0, 0))) (hi : (P.info? ty).map (·.size) = some cells.size)
    (hold : old.size = cells.size) (h1 : cells.all (·.oneCell') = true) (h : K a (w.setRow g cells)) : o.wp P a w K QNone :=
  wp_of_list (ops := #[]) hgd (wpList_store_rowTo hgd ty x y ho hd g cells hx hy t old hg hi hold h1 h)
end
/-- Blocks of a set are kept. -/
def KeepS (S : Nat → Prop) (w w' : World) : Prop := w.heap.size ≤ w'.heap.size ∧ ∀ z, S z → z < w.heap.size → w'.heap[z]? = w.heap[z]?
theorem KeepS.refl {S : Nat → Prop} (w : World) : KeepS S w w := ⟨Nat.le_refl _, fun _ _ _ => rfl⟩
structure SK (S : Nat → Prop) where
  p : Value → World → Prop
  st : ∀ v w w', KeepS S w w' → p v w → p v w'
def SK.eq {S : Nat → Prop} (x : Value) : SK S := ⟨fun v _ => v = x, fun _ _ _ _ h => h⟩
def SK.any {S : Nat → Prop} : SK S := ⟨fun _ _ => True, fun _ _ _ _ h => h⟩
def GK {S : Nat → Prop} (ls : List (SK S)) (j : Nat) (v : Value) (w : World) : Prop := (ls.getD j SK.any).p v w
theorem GK.keep {S : Nat → Prop} {ls : List (SK S)} {w w' : World} (hr : KeepS S w w') (j : Nat) (v : Value) (h : GK ls j v w) : GK ls j v w' := (ls.getD j SK.any).st v w w' hr h
def CB (W : World) (D : World → Prop) : Bool → World → Prop
  | false, w => Below W.heap.size W w
  | true, w => D w
theorem wp_region_sk {P : Program} {id : Nat} {Q : Exit → Act → World → Prop} {a : Act} {W : World} {l : List Oper} {S : Nat → Prop} (m s : Nat) (pl : Nat → Bool) (D : World → Prop) (ls : List (SK S))
    (hm : P.follows .mixedOrders = true) (hB : relBA l.toArray m s pl = true) (hs : a.tmps.size = m) (hs0 : ∀ w, GK ls s undef w)
    (h : relWalkA P l.toArray (CB W D) (KeepS S) (GK ls) s pl (fun a' => ∀ w', D w' → (∀ j, j < l.toArray.size → GK ls j (atOp l.toArray a' j) w') → wpList P l.toArray Q [] a' w') 0 l a) : (Code.region id l.toArray true).wp P Q a W :=
  wp_region_relA m s pl (CB W D) (KeepS S) (GK ls) hm hB hs ((Below.refl _ _).drew) (fun x y hr => GK.keep hr) hs0 h
end Go.Proofs.Ytpoagdffpajdjaa
