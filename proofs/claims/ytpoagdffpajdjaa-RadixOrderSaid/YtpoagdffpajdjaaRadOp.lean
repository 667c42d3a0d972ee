/-
  The entries of a tree set again in another order, in plain Lean; slices of entries cut and joined (for the law RadixOrder).
-/
import Derived.Test.YtpoagdffpajdjaaRadBu
import Derived.Test.YtpoagdffpajdjaaRadMk
import Derived.ArgAppend
namespace Go.Proofs.Ytpoagdffpajdjaa
open Go.RowKit
set_option linter.unusedVariables false
set_option linter.unusedSimpArgs false

/-- The tree while the entries R are still to be set again; another entry x stands in it, if there is one. -/
def dn (c : Cn) (ex : Option Nat) (R : List En) : Cn := fun j => if R.any (fun e => e.1 == (j : Int)) then (0, 0) else if ex = some j then (77, 0) else c j
/-- What is known of the entries that are left. -/
def RR (c : Cn) (R : List En) : Prop := R.Pairwise (fun a b => a.1 ≠ b.1) ∧ ∀ e ∈ R, ∃ j : Nat, e = ((j : Int), (c j).1, (c j).2) ∧ j < 256 ∧ (c j).1 ≠ 0 ∧ mk7 (c j).2 ∧ (0 < (c j).1 ∨ (c j).2 = 0)
theorem RR.start {h : Nat} {c : Cn} (hl : leafy c) (ht : TreeOk h c) : RR c (ents 0 (4 ^ h) c) :=
  ⟨(ents_sorted 0 (4 ^ h) c).imp fun {a b} hab => by omega, fun e he => ent_of hl ht he⟩
theorem dn_start {h : Nat} {c : Cn} (ht : TreeOk h c) : dn c none (ents 0 (4 ^ h) c) = zeroC ∧ ∀ x, c x = (0, 0) → dn c (some x) (ents 0 (4 ^ h) c) = upd zeroC x (77, 0) := by
  have key : ∀ j : Nat, c j ≠ (0, 0) → (ents 0 (4 ^ h) c).any (fun e => e.1 == (j : Int)) = true := fun j hj => by
    refine List.any_eq_true.2 ⟨_, mem_ents.2 ⟨j, ?_, hj, rfl⟩, by simp⟩
    exact Classical.byContradiction fun hn => hj (ht.2.1 j (by omega))
  refine ⟨?_, fun x hx => ?_⟩
  · funext j
    unfold dn zeroC
    by_cases hj : c j = (0, 0)
    · rw [hj]; simp
    · rw [key j hj]; simp
  · funext j
    unfold dn upd zeroC
    by_cases hj : c j = (0, 0)
    · have : (ents 0 (4 ^ h) c).any (fun e => e.1 == (j : Int)) = false := by
        rw [List.any_eq_false]
        intro e he
        obtain ⟨k, hk, hne, rfl⟩ := mem_ents.1 he
        intro e
        simp at e
        obtain rfl : k = j := by omega
        exact hne hj
      rw [this, hj]
      by_cases hjx : j = x
      · subst hjx; simp
      · rw [if_neg (by simp), if_neg (by simp; omega), if_neg hjx]
    · rw [key j hj]
      have : j ≠ x := fun e => hj (e ▸ hx)
      simp [this]
/-- The entries behind the removal of the one at i. -/
def cutL (R : List En) (i : Nat) : List En := R.take i ++ R.drop (i + 1)
theorem cutL_erase (R : List En) (i : Nat) : cutL R i = R.eraseIdx i := by
  unfold cutL
  rw [List.eraseIdx_eq_take_drop_succ]
theorem cutL_len {R : List En} {i : Nat} (h : i < R.length) : (cutL R i).length = R.length - 1 := by rw [cutL_erase, List.length_eraseIdx_of_lt h]
theorem RR.cut {c : Cn} {R : List En} (h : RR c R) (i : Nat) : RR c (cutL R i) := by
  rw [cutL_erase]
  exact ⟨h.1.sublist (List.eraseIdx_sublist _ _), fun e he => h.2 e ((List.eraseIdx_sublist _ _).subset he)⟩
theorem any_cut {c : Cn} {R : List En} (h : RR c R) {i j : Nat} {v m : Int} (hi : R[i]? = some ((j : Int), v, m)) (k : Nat) : (cutL R i).any (fun e => e.1 == (k : Int)) = (decide (k ≠ j) && R.any (fun e => e.1 == (k : Int))) := by
  have hil := (List.getElem?_eq_some_iff.1 hi).1
  have hii := (List.getElem?_eq_some_iff.1 hi).2
  have e1 : R = R.take i ++ (((j : Int), v, m) :: R.drop (i + 1)) := by
    conv => lhs; rw [← List.take_append_drop i R, List.drop_eq_getElem_cons hil, hii]
  by_cases hk : k = j
  · subst hk
    simp only [ne_eq, not_true, decide_false, Bool.false_and]
    rw [List.any_eq_false]
    intro e he hek
    have hek' : e.1 = (k : Int) := by simpa using hek
    have hp := h.1
    rw [e1, List.pairwise_append, List.pairwise_cons] at hp
    unfold cutL at he
    rcases List.mem_append.1 he with he | he
    · exact hp.2.2 e he _ (List.mem_cons_self ..) hek'
    · exact hp.2.1.1 e he hek'.symm
  · have hjk : ((j : Int) == (k : Int)) = false := by simp; omega
    conv => rhs; rw [e1]
    unfold cutL
    simp only [List.any_append, List.any_cons, hjk, Bool.false_or]
    simp [hk]
theorem dn_next {c : Cn} {ex : Option Nat} {R : List En} (h : RR c R) {i j : Nat} {v m : Int} (hi : R[i]? = some ((j : Int), v, m)) (hex : ∀ x, ex = some x → c x = (0, 0)) : upd (dn c ex R) j (v, m) = dn c ex (cutL R i) := by
  obtain ⟨j', he, _, hv, _⟩ := h.2 _ (List.mem_of_getElem? hi)
  simp only [Prod.mk.injEq] at he
  obtain ⟨he1, he2, he3⟩ := he
  obtain rfl : j = j' := by omega
  subst he2 he3
  funext k
  unfold upd dn
  rw [any_cut h hi k]
  by_cases hk : k = j
  · subst hk
    have : ex ≠ some k := fun e => hv (by rw [hex k e])
    simp [this]
  · rw [if_neg hk, decide_eq_true (show k ≠ j from hk), Bool.true_and]
theorem dn_nil (c : Cn) (ex : Option Nat) : dn c ex [] = (match ex with | some x => upd c x (77, 0) | none => c) := by
  funext j
  unfold dn
  cases ex with
  | none => simp
  | some x =>
    unfold upd
    by_cases h : j = x
    · subst h; simp
    · have : ¬ (x = j) := fun e => h e.symm
      simp [h, this]
theorem leafy_dn {c : Cn} (hl : leafy c) (ex : Option Nat) (R : List En) : leafy (dn c ex R) := fun j => by
  unfold dn
  split
  · exact .inl rfl
  · split
    · exact .inr ⟨by decide, by decide, by decide, .inl (by decide)⟩
    · exact hl j
/-- The marks below bit k. -/
def lowM (m : Int) (k : Nat) : Int := m % (2 ^ k : Nat)
theorem lowM_zero (m : Int) : lowM m 0 = 0 := by unfold lowM; simp
theorem lowM_three {m : Int} (h : mk7 m) : lowM m 3 = m := by unfold lowM; have := h.1; have := h.2; simp; omega
theorem bits_low0 : ∀ a : Fin 8, (bits .and .i64 (a.val : Int) 1 ≠ 0 → bits .or .i64 (lowM (a.val : Int) 0) 1 = lowM (a.val : Int) 1) ∧ (bits .and .i64 (a.val : Int) 1 = 0 → lowM (a.val : Int) 0 = lowM (a.val : Int) 1) := by decide +kernel
theorem bits_low1 : ∀ a : Fin 8, (bits .and .i64 (a.val : Int) 2 ≠ 0 → bits .or .i64 (lowM (a.val : Int) 1) 2 = lowM (a.val : Int) 2) ∧ (bits .and .i64 (a.val : Int) 2 = 0 → lowM (a.val : Int) 1 = lowM (a.val : Int) 2) := by decide +kernel
theorem bits_low2 : ∀ a : Fin 8, (bits .and .i64 (a.val : Int) 4 ≠ 0 → bits .or .i64 (lowM (a.val : Int) 2) 4 = lowM (a.val : Int) 3) ∧ (bits .and .i64 (a.val : Int) 4 = 0 → lowM (a.val : Int) 2 = lowM (a.val : Int) 3) := by decide +kernel
theorem mk_low {m : Int} (h : mk7 m) {k : Nat} (hk : k < 3) (b : Int) (hb : b = ((2 ^ k : Nat) : Int)) : (bits .and .i64 m b ≠ 0 → bits .or .i64 (lowM m k) b = lowM m (k + 1)) ∧ (bits .and .i64 m b = 0 → lowM m k = lowM m (k + 1)) := by
  obtain ⟨a, rfl⟩ := mk7_fin h
  subst hb
  match k, hk with
  | 0, _ => exact bits_low0 a
  | 1, _ => exact bits_low1 a
  | 2, _ => exact bits_low2 a
theorem lowM_mk7 {m : Int} (h : mk7 m) (k : Nat) (hk : k ≤ 3) : mk7 (lowM m k) := by
  have h1 := h.1; have h2 := h.2
  unfold lowM
  match k, hk with
  | 0, _ => exact ⟨by simp, by simp⟩
  | 1, _ => exact ⟨by simp; omega, by simp; omega⟩
  | 2, _ => exact ⟨by simp; omega, by simp; omega⟩
  | 3, _ => exact ⟨by simp; omega, by simp; omega⟩
theorem and_zero_pos {v m b : Int} (h : 0 < v ∨ m = 0) (hb : oneB b = true) (hn : bits .and .i64 m b ≠ 0) : 0 < v := by
  rcases h with h | h
  · exact h
  · subst h
    exact absurd (andI_zero b hb) hn
theorem upd_upd (c : Cn) (j : Nat) (x y : Int × Int) : upd (upd c j x) j y = upd c j y := by
  funext k
  unfold upd
  split <;> rfl
theorem set_dn {c : Cn} {j : Nat} (hj : j < 256) (v : Int) : setR c (j : Int) v = (upd c j (v, 0), 0) := set_nat hj v
/-- The cells of entries in memory. -/
theorem ens_cells {w : World} {f : Nat} : ∀ (l : List En) (o : Nat), (∀ i d s c, l[i]? = some (d, s, c) → w.cell? ⟨f, o + i * 3, none⟩ = some (.int .i64 d) ∧ w.cell? ⟨f, o + i * 3 + 1, none⟩ = some (.int .i64 s) ∧ w.cell? ⟨f, o + i * 3 + 2, none⟩ = some (.int .i64 c)) →
    ∀ j u, (ens l)[j]? = some u → w.cell? ⟨f, o + j, none⟩ = some u
  | [], _, _, j, u, h => by simp [ens] at h
  | (x, y, z) :: l, o, h, j, u, hj => by
    obtain ⟨c0, c1, c2⟩ := h 0 x y z (by simp)
    rw [Nat.zero_mul, Nat.add_zero] at c0 c1 c2
    match j with
    | 0 => simp [ens] at hj; rw [← hj]; exact c0
    | 1 => simp [ens] at hj; rw [← hj]; exact c1
    | 2 => simp [ens] at hj; rw [← hj]; exact c2
    | j + 3 =>
      have := ens_cells (w := w) (f := f) l (o + 3) (fun i d s c hi => by
        have := h (i + 1) d s c (by simpa using hi)
        rw [show o + (i + 1) * 3 = o + 3 + i * 3 by omega] at this
        exact this) j u (by simpa [ens] using hj)
      rw [show o + (j + 3) = o + 3 + j by omega]
      exact this
theorem EA.cellsAt {w : World} {S : Nat → Prop} {f o n ce i : Nat} {es : List En} {d s c : Int} (h : EA w S (.slice (some ⟨f, o, none⟩) n ce) es) (hi : es[i]? = some (d, s, c)) :
    f < w.heap.size ∧ w.cell? ⟨f, o + i * 3, none⟩ = some (.int .i64 d) ∧ w.cell? ⟨f, o + i * 3 + 1, none⟩ = some (.int .i64 s) ∧ w.cell? ⟨f, o + i * 3 + 2, none⟩ = some (.int .i64 c) := by
  obtain ⟨A, cap, e, _, _, h⟩ := h
  injection e with e1 e2 e3
  subst e1
  rcases h with h | ⟨b, o', e, hb, _, hc⟩
  · rw [h] at hi; simp at hi
  · injection e with e
    injection e with e4 e5
    subst e4 e5
    exact ⟨hb, hc i d s c hi⟩
theorem EA.allCells {w : World} {S : Nat → Prop} {f o n ce : Nat} {es : List En} (h : EA w S (.slice (some ⟨f, o, none⟩) n ce) es) : ∀ (i : Nat) (d s c : Int), es[i]? = some (d, s, c) →
    w.cell? ⟨f, o + i * 3, none⟩ = some (.int .i64 d) ∧ w.cell? ⟨f, o + i * 3 + 1, none⟩ = some (.int .i64 s) ∧ w.cell? ⟨f, o + i * 3 + 2, none⟩ = some (.int .i64 c) := fun i d s c hi => (h.cellsAt hi).2
theorem EA.cut_last {w : World} {S : Nat → Prop} {f o ce i : Nat} {R : List En} (h : EA w S (.slice (some ⟨f, o, none⟩) R.length ce) R) (hi : i + 1 = R.length) : EA w S (.slice (some ⟨f, o, none⟩) i i) (cutL R i) := by
  have hl : (cutL R i).length = i := by rw [cutL_len (by omega)]; omega
  have hc := h.allCells
  obtain ⟨A, cap, e, h1, h2, h3⟩ := h
  injection e with e1 e2 e3
  subst e1
  rcases h3 with h3 | ⟨b, o', e, hb, hS, _⟩
  · rw [h3] at hi; simp at hi
  · injection e with e
    injection e with e4 e5
    subst e4 e5
    refine ⟨_, i, by rw [hl], by omega, by omega, .inr ⟨_, _, rfl, hb, hS, fun k d s c hk => hc k d s c ?_⟩⟩
    unfold cutL at hk
    rw [List.drop_eq_nil_of_le (by omega), List.append_nil, List.getElem?_take] at hk
    split at hk
    · exact hk
    · cases hk
theorem ens_cat (a b : List En) : ens (a ++ b) = ens a ++ ens b := by
  induction a with
  | nil => rfl
  | cons x a ih => obtain ⟨d, s, c⟩ := x; simp [ens, ih]
theorem cutL_ens (R : List En) (i : Nat) : ens (R.take i) ++ ens (R.drop (i + 1)) = ens (cutL R i) := by unfold cutL; rw [ens_cat]
theorem EA.olds {w : World} {S : Nat → Prop} {f o n ce : Nat} {R : List En} (h : EA w S (.slice (some ⟨f, o, none⟩) n ce) R) (i : Nat) : ∀ b, some (⟨f, o, none⟩ : Addr) = some b → ∀ j u, (ens (R.take i))[j]? = some u → w.cell? (b.add j) = some u := fun b e j u hj => by
  injection e with e
  subst e
  rw [show (⟨f, o, none⟩ : Addr).add j = ⟨f, o + j, none⟩ by simp [Addr.add]]
  refine ens_cells (w := w) (f := f) (R.take i) o (fun k d s c hk => h.allCells k d s c ?_) j u hj
  rw [List.getElem?_take] at hk
  split at hk
  · exact hk
  · cases hk
theorem EA.news {w : World} {S : Nat → Prop} {f o n ce : Nat} {R : List En} (h : EA w S (.slice (some ⟨f, o, none⟩) n ce) R) (i : Nat) : ∀ j u, (ens (R.drop (i + 1)))[j]? = some u → w.cell? ((⟨f, o + (i + 1) * 3, none⟩ : Addr).add j) = some u := fun j u hj => by
  rw [show (⟨f, o + (i + 1) * 3, none⟩ : Addr).add j = ⟨f, o + (i + 1) * 3 + j, none⟩ by simp [Addr.add]]
  refine ens_cells (w := w) (f := f) (R.drop (i + 1)) (o + (i + 1) * 3) (fun k d s c hk => ?_) j u hj
  rw [List.getElem?_drop] at hk
  have := h.allCells (i + 1 + k) d s c hk
  rw [show o + (i + 1) * 3 + k * 3 = o + (i + 1 + k) * 3 by omega]
  exact this
theorem appE_nil (w : World) (ty : TypeId) (A : Addr) (B : Option Addr) (n cap c : Nat) (hnc : n ≤ cap) : (Builtin.append_ #[41, 41] ty #[.slice (some A) n cap, .slice B 0 c]).run Try.prog w = .ok (.slice (some A) n cap) w := by
  obtain ⟨i0, hi, hz0, hz1, hz2⟩ := info_parts entry_info
  cases B <;> simp [Builtin.append_, hnc, storeCells, run_underlying Try.underlying41, sizeOf, typeInfo, hi, Builtin.lenOf, Builtin.firstCells, loadCells, loadCellsFrom]
theorem wpList_appE_nil {ops : Array Oper} {rest : List Oper} {o : Oper} {a : Act} {Q : Exit → Act → World → Prop} {w : World} (hg : o.guard = none) (s x : Operand) (ho : o.op = .call { callee := .builtin .append, args := #[s, x], argTypes := #[41, 41] }) (A : Addr) (B : Option Addr) (n cap c : Nat) (hnc : n ≤ cap)
    (hs : a.eval s = .slice (some A) n cap) (hx : a.eval x = .slice B 0 c) (h : wpList Try.prog ops Q rest (a.put o.dst (.slice (some A) n cap)) w) : wpList Try.prog ops Q (o :: rest) a w := by
  refine wpList_plain hg fun K hK => ?_
  unfold Oper.wp execOp
  simp only [ho, resolve, invoke, builtin, Sem.run_bind, Sem.run_pure, Result.andThen_ok, List.map_toArray, List.map_cons, List.map_nil, hs, hx, appE_nil _ _ _ _ _ _ _ hnc]
  exact hK _ _ h
end Go.Proofs.Ytpoagdffpajdjaa
