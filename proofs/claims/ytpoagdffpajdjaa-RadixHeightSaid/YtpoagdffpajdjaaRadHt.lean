/-
  The law's map from indices to whether an entry was set, and the height that the greatest index needs (for the law RadixHeight).
-/
import Derived.Test.YtpoagdffpajdjaaRadWr
import Derived.Maps.RangeWalk
import Derived.Maps.Views
namespace Go.Proofs.Ytpoagdffpajdjaa
open Go.RowKit
set_option linter.unusedVariables false
set_option linter.unusedSimpArgs false

def hasB (c : Cn) (j : Int) : Bool := decide (0 ≤ j) && decide ((c j.toNat).1 ≠ 0)
theorem kInt : Maps.Keyed Try.prog 3 := Maps.int_keyed Try.underlying3
/-- What the law's map reads as. -/
def MD (D : DataW Unit) (c : Cn) : Prop := Maps.IsMap D ∧ ∀ j : Int, D.atKey (.int .i64 j) (.lit (.bool false)) = .lit (.bool (hasB c j))
def MapF (w : World) (M n : Nat) (c : Cn) : Prop := ∃ D : DataW Unit, MD D c ∧ w.ownsMap Try.prog 3 (plainElem (H := Unit) Try.prog 4) M n D
/-- The law's loop over it under way. -/
def MR (w : World) (M r n : Nat) (c : Cn) (left : Lit → Bool) (cnt : Nat) : Prop := ∃ D : DataW Unit, MD D c ∧ w.ranges Try.prog 3 (plainElem (H := Unit) Try.prog 4) M r n D left cnt
theorem MapF.gb {w w' : World} {M n : Nat} {c : Cn} {r : Option Nat} (h : MapF w M n c) (hg : w.grownBy w' r) (hr : some M ≠ r) : MapF w' M n c := by
  obtain ⟨D, h1, h2⟩ := h
  exact ⟨D, h1, h2.kept hg hr⟩
theorem MapF.lt {w : World} {M n : Nat} {c : Cn} (h : MapF w M n c) : M < w.heap.size := by obtain ⟨D, _, h2⟩ := h; exact h2.lt
theorem MR.left_eq {w : World} {M r n : Nat} {c : Cn} {left : Lit → Bool} {cnt : Nat} (h : MR w M r n c left cnt) : w.rangeLeft M r = cnt := by obtain ⟨D, _, h⟩ := h; exact h.left_eq
theorem MR.mf {w : World} {M r n : Nat} {c : Cn} {left : Lit → Bool} {cnt : Nat} (h : MR w M r n c left cnt) : MapF w M n c := by obtain ⟨D, h1, h⟩ := h; exact ⟨D, h1, h.owns⟩
theorem hasB_upd {c : Cn} {i : Nat} {y m : Int} {j : Int} : hasB (upd c i (y, m)) j = if j = (i : Int) then decide (y ≠ 0) else hasB c j := by
  unfold hasB upd
  by_cases h : j = (i : Int)
  · subst h
    simp
  · by_cases h0 : 0 ≤ j
    · have : j.toNat ≠ i := by omega
      simp [h, h0, this]
    · simp [h, h0]
theorem hasB_nat {c : Cn} (hl : leafy c) (j : Nat) : hasB c (j : Int) = true ↔ c j ≠ (0, 0) := by
  unfold hasB
  rw [Int.toNat_natCast]
  rcases hl j with h | ⟨h, _⟩
  · simp [h]
  · have : c j ≠ (0, 0) := fun e => h (by rw [e])
    simp [h, this]
theorem hasB_pos {c : Cn} {j : Int} (h : hasB c j = true) : 0 ≤ j := by
  unfold hasB at h
  simp only [Bool.and_eq_true, decide_eq_true_eq] at h
  exact h.1
theorem fit64 {j : Int} (h1 : -9223372036854775808 ≤ j) (h2 : j ≤ 9223372036854775807) : (Lit.int .i64 j).wf = true := by
  simp [Lit.wf, IntKind.min, IntKind.max, IntKind.signed, IntKind.bits]
  omega
theorem key64 {j : Int} (h1 : -9223372036854775808 ≤ j) (h2 : j ≤ 9223372036854775807) : keyOf Try.prog 3 (.int .i64 j) = some (.int .i64 j) := Maps.keyOf_int_mk Try.underlying3 (fit64 h1 h2)
theorem MD.put {D : DataW Unit} {c : Cn} (h : MD D c) {i : Nat} (hi : i < 256) (y m : Int) : MD (D.put (.int .i64 i) (.lit (.bool (y != 0)))) (upd c i (y, m)) := by
  refine ⟨h.1.put _ _, fun j => ?_⟩
  rw [hasB_upd]
  by_cases hj : j = (i : Int)
  · subst hj
    rw [if_pos rfl, Maps.atKey_put_same h.1 (kInt.key (key64 (by omega) (by omega)))]
    simp [bne, BEq.beq]
  · rw [if_neg hj, Maps.atKey_put_other (by intro e; injection e with _ e; exact hj e)]
    exact h.2 j
theorem MapF.made (w : World) : MapF (w.alloc (.map #[] 0)) w.heap.size 0 zeroC := by
  refine ⟨.map [], ⟨⟨[], rfl⟩, fun j => ?_⟩, World.ownsMap_made _ _ _ _⟩
  unfold hasB zeroC
  simp
  rfl
theorem elemB_inv {v : Value} {z : DataW Unit × List MemPlace} (h : (plainElem (H := Unit) Try.prog 4) v = some z) : ∃ x, v = .bool x ∧ z = (.lit (.bool x), []) := by
  unfold plainElem at h
  rw [Try.underlying4] at h
  cases v <;> simp at h
  exact ⟨_, rfl, h.symm⟩
def AtB (c : Cn) (x : Int) (v : Value) : Prop := ∃ q : Bool, v = .bool q ∧ hasB c x = q
def NoLeft (left : Lit → Bool) : Prop := ∀ kl, left kl = false
section
variable {ops : Array Oper} {rest : List Oper} {o : Oper} {a : Act} {Q : Exit → Act → World → Prop} {w : World}
theorem wpList_store_mf (hg : o.guard = none) (m x v : Operand) (hop : o.op = Op.mapUpdate 50 m x v) (M n : Nat) (c : Cn) (hm : a.eval m = .map (some M)) (h : MapF w M n c) (hn : n < 1000) (i : Nat) (hi : i < 256) (y : Int)
    (hx : a.eval x = .int .i64 i) (hv : a.eval v = .bool (y != 0)) (hK : ∀ w', MapF w' M (n + 1) (upd c i (y, 0)) → w.grownBy w' (some M) → wpList Try.prog ops Q rest (a.put o.dst undef) w') : wpList Try.prog ops Q (o :: rest) a w := by
  obtain ⟨D, h1, h2⟩ := h
  exact wpList_mapUpdate_own w hg m x v 50 hop 3 4 kInt Try.underlying50 (plainElem (H := Unit) Try.prog 4) M n D hm h2 (by unfold maxLen; omega) _ _ (.int .i64 i) hx hv (key64 (by omega) (by omega)) _ _ (plainElem_bool Try.underlying4 _) fun w' r1 r2 => hK w' ⟨_, h1.put hi y 0, r1⟩ r2
theorem wpList_range_mf (hg : o.guard = none) (m : Operand) (hop : o.op = Op.range 50 m) (M n : Nat) (c : Cn) (hm : a.eval m = .map (some M)) (h : MapF w M n c)
    (hK : ∀ w' left cnt, MR w' M w.heap.size n c left cnt → (∀ j : Int, hasB c j = true → left (.int .i64 j) = true) → w.grownBy w' none → w'.heap.size = w.heap.size + 1 → wpList Try.prog ops Q rest (a.put o.dst (.pointer (some ⟨w.heap.size, 0, none⟩))) w') : wpList Try.prog ops Q (o :: rest) a w := by
  obtain ⟨D, h1, h2⟩ := h
  refine wpList_range_own w hg m 50 hop 3 4 kInt Try.underlying50 (plainElem (H := Unit) Try.prog 4) M n D hm h2 fun w' r1 r2 r3 => hK w' _ _ ⟨D, h1, r1⟩ (fun j hj => ?_) r2 r3
  cases hh : Maps.has D (.int .i64 j) with
  | true => rfl
  | false =>
    have := h1.2 j
    rw [Maps.atKey_of_not_has hh, hj] at this
    cases this
theorem wpList_next_mf (hg : o.guard = none) (it : Operand) (hop : o.op = Op.next it false) (M r n : Nat) (c : Cn) (left : Lit → Bool) (cnt : Nat) (hit : a.eval it = .pointer (some ⟨r, 0, none⟩)) (h : MR w M r n c left cnt)
    (hDone : NoLeft left → wpList Try.prog ops Q rest (a.put o.dst (.tuple #[.bool false])) w)
    (hMore : ∀ (x : Int) (v : Value) (w' : World) (cnt' : Nat), AtB c x v → MR w' M r n c (fun z => left z && !z.sameKey (.int .i64 x)) cnt' → cnt' < cnt → w.grownBy w' (some r) → w'.heap.size = w.heap.size →
      (Instr.entry (.pointer (some ⟨r, 0, none⟩))).run Try.prog w' = .ok (.tuple #[.int .i64 x, v]) w' → wpList Try.prog ops Q rest (a.put o.dst (.tuple #[.bool true, .int .i64 x, v])) w') : wpList Try.prog ops Q (o :: rest) a w := by
  obtain ⟨D, h1, h2⟩ := h
  refine wpList_next_ranges w hg it hop 3 kInt (plainElem (H := Unit) Try.prog 4) (Value.int .i64) Value.bool (fun key kl hkey => by obtain ⟨x, rfl, _⟩ := Maps.keyOf_int_inv Try.underlying3 hkey; exact ⟨x, rfl⟩) (fun v y hv => by obtain ⟨x, rfl, _⟩ := elemB_inv hv; exact ⟨x, rfl⟩) M r n D left cnt hit h2 (fun _ => hDone) ?_
  intro x q kl y w' cnt' hkey hlk hv hat hrg hlt hg' hsz hen
  obtain ⟨x', ex, rfl, hwx⟩ := Maps.keyOf_int_inv Try.underlying3 hkey
  cases ex
  obtain ⟨q', eq, rfl⟩ := elemB_inv hv
  cases eq
  have hj := h1.2 x
  rw [hat] at hj
  refine hMore x _ w' cnt' ⟨q, rfl, ?_⟩ ⟨D, h1, hrg⟩ hlt hg' hsz hen
  injection hj with hj
  injection hj with hj
  exact hj.symm
end
/-- What has been seen of the map. -/
def Top (c : Cn) (left : Lit → Bool) (top : Nat) : Prop := (∀ j : Int, hasB c j = true → left (.int .i64 j) = true ∨ j ≤ (top : Int)) ∧ (top = 0 ∨ hasB c (top : Int) = true)
theorem Top.start {c : Cn} {left : Lit → Bool} (h : ∀ j : Int, hasB c j = true → left (.int .i64 j) = true) : Top c left 0 := ⟨fun j hj => .inl (h j hj), .inl rfl⟩
theorem Top.next {c : Cn} {left : Lit → Bool} {top : Nat} (h : Top c left top) {x : Int} (t' : Nat) (h1 : hasB c x = true → x ≤ (t' : Int)) (h2 : top ≤ t') (h3 : t' = top ∨ hasB c (t' : Int) = true) : Top c (fun z => left z && !z.sameKey (.int .i64 x)) t' := by
  refine ⟨fun j hj => ?_, ?_⟩
  · by_cases hjx : j = x
    · subst hjx
      exact .inr (h1 hj)
    · rcases h.1 j hj with hl | hl
      · refine .inl ?_
        show (left (.int .i64 j) && !(Lit.int .i64 j).sameKey (.int .i64 x)) = true
        rw [hl, Maps.sameKey_ne (by intro e; injection e with _ e; exact hjx e)]
        rfl
      · exact .inr (by omega)
  · rcases h3 with rfl | h3
    · exact h.2
    · exact .inr h3
theorem top_lt {h top : Nat} {c : Cn} (hl : leafy c) (ok : TreeOk h c) (h2 : top = 0 ∨ hasB c (top : Int) = true) : top < 256 := by
  have hp : 4 ^ h ≤ 256 := show 4 ^ h ≤ 4 ^ 4 from Nat.pow_le_pow_right (by omega) ok.1
  rcases h2 with rfl | h2
  · omega
  · have := (hasB_nat hl top).1 h2
    exact Classical.byContradiction fun hh => this (ok.2.1 top (by omega))
theorem hgt_of_top {h k top : Nat} {c : Cn} (hl : leafy c) (ok : TreeOk h c) {left : Lit → Bool} (hT : Top c left top) (he : NoLeft left) (hk : top < 4 ^ k) (hk0 : k = 0 ∨ 4 ^ (k - 1) ≤ top) : k = h := by
  have ht := top_lt hl ok hT.2
  refine TreeOk.uniq (h := k) (h' := h) (c := c) ⟨?_, fun i hi => ?_, ?_⟩ ok
  · rcases hk0 with rfl | hk0
    · omega
    · refine Classical.byContradiction fun hc => ?_
      have : 4 ^ 4 ≤ 4 ^ (k - 1) := Nat.pow_le_pow_right (by omega) (by omega)
      omega
  · refine Classical.byContradiction fun hc => ?_
    rcases hT.1 i ((hasB_nat hl i).2 hc) with h1 | h1
    · rw [he] at h1
      cases h1
    · omega
  · rcases hk0 with rfl | hk0
    · exact .inl rfl
    · refine .inr ⟨top, hk0, ?_⟩
      rcases hT.2 with rfl | h2
      · have : 0 < 4 ^ (k - 1) := Nat.pos_of_ne_zero (by simp)
        omega
      · exact (hasB_nat hl top).1 h2
/-- The state of the law: the tree in box Z, the map in block M, the tape in block b; block r is left alone. -/
structure HS (W : World) (b Z M r n h : Nat) (c d : Cn) (w : World) : Prop where
  lf : leafy c
  ok : TreeOk h c
  tr : TR w (fun z => W.heap.size ≤ z ∧ z ≠ Z ∧ z ≠ b ∧ z ≠ M ∧ z ≠ r) Z h (cano h c)
  tp : TpP W b w
  mp : MapF w M n d
  zb : Z ≠ b
  mb : M ≠ b
  zm : Z ≠ M
  le : W.heap.size ≤ Z
  lm : W.heap.size ≤ M
theorem HS.gb {W w w' : World} {b Z M r n h : Nat} {c d : Cn} {q : Option Nat} (s : HS W b Z M r n h c d w) (hg : w.grownBy w' q) (hq : ∀ k, q = some k → (k = b ∨ k = r) ∧ k ≠ Z ∧ k ≠ M) (hT : TpP W b w') : HS W b Z M r n h c d w' :=
  { s with
    tr := s.tr.kept hg.size fun z hz hlt => hg.block z hlt (fun e => by have := hq z e.symm; rcases hz with hz | rfl <;> omega)
    tp := hT
    mp := s.mp.gb hg (fun e => (hq M e.symm).2.2 rfl) }
theorem HS.step {W w w' : World} {b Z M r n h : Nat} {c d : Cn} (s : HS W b Z M r n h c d w) (hb : Below w.heap.size w w') : HS W b Z M r n h c d w' := s.gb (gb_of_below hb none) (fun k hk => by cases hk) (s.tp.step hb)
theorem HS.alloc {W w : World} {b Z M r n h : Nat} {c d : Cn} (s : HS W b Z M r n h c d w) (o : Obj) : HS W b Z M r n h c d (w.alloc o) := s.step ((Below.refl _ _).alloc (Nat.le_refl _) _)
theorem HS.drew {W w w' : World} {b Z M r n h : Nat} {c d : Cn} (s : HS W b Z M r n h c d w) (hT : TpP W b w') (hg : w.grownBy w' (some b)) : HS W b Z M r n h c d w' := s.gb hg (fun k hk => by injection hk with hk; subst hk; exact ⟨.inl rfl, s.zb.symm, s.mb.symm⟩) hT
theorem HS.free {W w : World} {b Z M n h : Nat} {c d : Cn} (s : HS W b Z M Z n h c d w) : ∀ z, w.heap.size ≤ z → W.heap.size ≤ z ∧ z ≠ Z ∧ z ≠ b ∧ z ≠ M ∧ z ≠ Z := fun z hz => by
  have h1 := s.tr.lt
  have h2 := s.tp.lt
  have h3 := s.tp.2.1.size
  have h4 := s.mp.lt
  omega
/-- Another tree is laid into the box. -/
theorem HS.put {W w : World} {b Z M n h h' : Nat} {c c' d : Cn} (s : HS W b Z M Z n h c d w) (hl : leafy c') (ok : TreeOk h' c') {A : Option Addr} {cap : Nat} (h2 : (cano h' c').kids.length ≤ cap) (hk : NK w (fun z => W.heap.size ≤ z ∧ z ≠ Z ∧ z ≠ b ∧ z ≠ M ∧ z ≠ Z) A (cano h' c').kids) :
    HS W b Z M Z n h' c' d (w.setRow Z #[.int .i64 h', .slice A (cano h' c').kids.length cap, .int .i64 (cano h' c').val, .int .i64 (cano h' c').marks]) := by
  obtain ⟨A0, c0, g0, _⟩ := s.tr
  exact ⟨hl, ok, ⟨A, cap, setRow_heap _ _ _ _ _ _ g0, cano_ml _ _, h2, hk.kept (by simp [World.setRow]) (fun z hz _ => setRow_other _ _ _ _ hz.2.1)⟩, s.tp.gb (gb_setRow _ _ _) (fun k hk => by injection hk with hk; subst hk; exact ⟨s.le, s.zb⟩), s.mp.gb (gb_setRow _ _ _) (fun e => by injection e with e; exact s.zm e.symm), s.zb, s.mb, s.zm, s.le, s.lm⟩
/-- The map is written. -/
theorem HS.stored {W w w' : World} {b Z M n n' h : Nat} {c d d' : Cn} (s : HS W b Z M Z n h c d w) (hg : w.grownBy w' (some M)) (hm : MapF w' M n' d') : HS W b Z M Z n' h c d' w' :=
  { s with
    tr := s.tr.kept hg.size fun z hz hlt => hg.block z hlt (fun e => by injection e with e; have := s.zm; rcases hz with hz | rfl <;> omega)
    tp := s.tp.gb hg (fun k hk => by injection hk with hk; subst hk; exact ⟨s.lm, s.mb⟩)
    mp := hm }
/-- The loop's iterator has been made. -/
theorem HS.ranged {W w w' : World} {b Z M n h : Nat} {c d : Cn} (s : HS W b Z M Z n h c d w) (hg : w.grownBy w' none) (hm : MapF w' M n d) : HS W b Z M w.heap.size n h c d w' := by
  have h1 : TR w (fun z => W.heap.size ≤ z ∧ z ≠ Z ∧ z ≠ b ∧ z ≠ M ∧ z ≠ w.heap.size) Z h (cano h c) := s.tr.weak fun z hz h => ⟨h.1, h.2.1, h.2.2.1, h.2.2.2.1, by omega⟩
  exact ⟨s.lf, s.ok, h1.kept hg.size fun z hz hlt => hg.block z hlt (by simp), s.tp.gb hg (fun k hk => by cases hk), hm, s.zb, s.mb, s.zm, s.le, s.lm⟩
theorem HS.back {W w : World} {b Z M r n h : Nat} {c d : Cn} (s : HS W b Z M r n h c d w) : HS W b Z M Z n h c d w :=
  { s with tr := s.tr.weak fun z hz h => ⟨h.1, h.2.1, h.2.2.1, h.2.2.2.1, h.2.1⟩ }
/-- The tree is another one than the map's: behind Set, ahead of the store. -/
theorem HS.fresh {W : World} {b Z M : Nat} (w : World) (h1 : TR w (fun z => W.heap.size ≤ z ∧ z ≠ Z ∧ z ≠ b ∧ z ≠ M ∧ z ≠ Z) Z (0 : Nat) (cano 0 zeroC)) (h2 : TpP W b w) (h3 : MapF w M 0 zeroC) (h4 : Z ≠ b) (h5 : M ≠ b) (h6 : Z ≠ M) (h7 : W.heap.size ≤ Z) (h8 : W.heap.size ≤ M) : HS W b Z M Z 0 0 zeroC zeroC w :=
  ⟨leafy_zero, TreeOk.zero, h1, h2, h3, h4, h5, h6, h7, h8⟩
theorem HS.start {w : World} {a : Option Addr} {len cap : Nat} {zs : List Int} (h0 : IsRow .i64 w a len cap zs) (w3 : World) (h3 : w3 = ((w.alloc (.cells #[.slice a len cap, .int .i64 0] 32)).alloc (.cells #[.int .i64 0, .slice none 0 0, .int .i64 0, .int .i64 0] 28)).alloc (.map #[] 0)) :
    HS w w.heap.size (w.heap.size + 1) (w.heap.size + 1 + 1) (w.heap.size + 1) 0 0 zeroC zeroC w3 := by
  obtain ⟨w1, h1⟩ : ∃ w1, w1 = w.alloc (.cells #[.slice a len cap, .int .i64 0] 32) := ⟨_, rfl⟩
  obtain ⟨w2, h2⟩ : ∃ w2, w2 = w1.alloc (.cells #[.int .i64 0, .slice none 0 0, .int .i64 0, .int .i64 0] 28) := ⟨_, rfl⟩
  have e1 : w1.heap.size = w.heap.size + 1 := by rw [h1]; simp
  have e2 : w2.heap.size = w1.heap.size + 1 := by rw [h2]; simp
  have hp : TpP w w.heap.size w1 := by rw [h1]; exact TpP.start h0 (Below.refl _ _)
  have ht : TR w2 (fun z => False) w1.heap.size (0 : Nat) (cano 0 zeroC) := by rw [h2]; exact TR.new (w := w1) (t := cano 0 zeroC) (A := none) (cap := 0) (Nat.zero_le _) (Nat.zero_le _) (.nil _)
  rw [← h1, ← h2] at h3
  have hm : MapF w3 w2.heap.size 0 zeroC := by rw [h3]; exact MapF.made _
  rw [e2, e1] at hm
  rw [e1] at ht
  have hb2 : Below w1.heap.size w1 w2 := by rw [h2]; exact bl_alloc (Below.refl _ _) _
  have hb3 : Below w2.heap.size w2 w3 := by rw [h3]; exact bl_alloc (Below.refl _ _) _
  exact HS.fresh w3 ((ht.step hb3).weak fun z _ h => h.elim) ((hp.step hb2).step hb3) hm (by omega) (by omega) (by omega) (by omega) (by omega)
end Go.Proofs.Ytpoagdffpajdjaa
