/-
  Nodes in memory that is being written: blocks known whole, four nodes in a row, slices of nodes of a call's own.
-/
import Derived.Test.YtpoagdffpajdjaaRad6
import Derived.Deep.MidRow
namespace Go.Proofs.Ytpoagdffpajdjaa
open Go.RowKit
set_option linter.unusedVariables false
set_option linter.unusedSimpArgs false

/-- Blocks that are known whole; what was there when a function was called is as it was. -/
structure St (W : World) (l : List (Nat × Obj)) (w : World) : Prop where
  bk : ∀ g o, (g, o) ∈ l → w.heap[g]? = some o
  below : Below W.heap.size W w
theorem St.step {W w w' : World} {l : List (Nat × Obj)} (h : St W l w) (hb : Below w.heap.size w w') : St W l w' := ⟨fun g o hm => bk_step (h.bk g o hm) hb, bl_step h.below hb⟩
theorem St.alloc {W w : World} {l : List (Nat × Obj)} (h : St W l w) (o : Obj) : St W l (w.alloc o) := h.step ((Below.refl _ _).alloc (Nat.le_refl _) _)
theorem St.push {W w : World} {l : List (Nat × Obj)} (h : St W l w) (o : Obj) (n : Nat) (hn : w.heap.size = n) : St W (l ++ [(n, o)]) (w.alloc o) := ⟨fun g o' hm => by
  rcases List.mem_append.1 hm with hm | hm
  · exact bk_alloc (h.bk g o' hm) _
  · simp only [List.mem_singleton, Prod.mk.injEq] at hm
    obtain ⟨rfl, rfl⟩ := hm
    exact heap_at_new _ _ _ hn, bl_alloc h.below _⟩
theorem St.nil (w : World) : St w [] w := ⟨fun g o hm => by simp at hm, Below.refl _ _⟩
theorem St.le {W w : World} {l : List (Nat × Obj)} (h : St W l w) : W.heap.size ≤ w.heap.size := h.below.size
theorem heap_setCells (g : Nat) : ∀ (vs : List Value) (o : Nat) (w : World) (k : Nat), k ≠ g → (w.setCells g o vs).heap[k]? = w.heap[k]?
  | [], _, _, _, _ => rfl
  | v :: vs, o, w, k, hk => by
    rw [World.setCells, heap_setCells g vs (o + 1) _ k hk]
    exact Below.heap_setCell w ⟨g, o, none⟩ v k hk
theorem setCells_same (g : Nat) : ∀ (vs : List Value) (o : Nat) (w : World), (w.setCells g o vs).os = w.os ∧ (w.setCells g o vs).tape = w.tape ∧ (w.setCells g o vs).output = w.output ∧ (w.setCells g o vs).heap.size = w.heap.size
  | [], _, _ => ⟨rfl, rfl, rfl, rfl⟩
  | v :: vs, o, w => by
    rw [World.setCells]
    obtain ⟨h1, h2, h3, h4⟩ := setCells_same g vs (o + 1) (w.setCell ⟨g, o, none⟩ v)
    exact ⟨h1.trans rfl, h2.trans rfl, h3.trans rfl, h4.trans (by simp [World.setCell])⟩
theorem bl_setCells {B g : Nat} {w0 w : World} (hb : Below B w0 w) (hBg : B ≤ g) (o : Nat) (vs : List Value) : Below B w0 (w.setCells g o vs) := by
  obtain ⟨h1, h2, h3, h4⟩ := setCells_same g vs o w
  exact hb.trans ⟨h1, h2, h3, by omega, fun k hk => heap_setCells g vs o w k (by omega)⟩
theorem St.setCells {W w : World} {l : List (Nat × Obj)} (h : St W l w) {g : Nat} (hg : W.heap.size ≤ g) (hn : ∀ k o, (k, o) ∈ l → k ≠ g) (o : Nat) (vs : List Value) : St W l (w.setCells g o vs) :=
  ⟨fun k o' hm => (heap_setCells g vs o w k (hn k o' hm)).trans (h.bk k o' hm), bl_setCells h.below hg o vs⟩
/-- The first four nodes of a block that is being written. -/
def KR (w : World) (g : Nat) (S : Nat → Prop) (f : Nat → T) : Prop :=
  w.there g 0 12 ∧ g < w.heap.size ∧ ∀ i, i < 4 → ∃ A cap, NC w g (i * 3) A (f i).kids.length cap (f i).val (f i).marks ∧ (f i).kids.length ≤ maxLen ∧ (f i).kids.length ≤ cap ∧ NK w S A (f i).kids
theorem KR.step {w w' : World} {g : Nat} {S : Nat → Prop} {f : Nat → T} (h : KR w g S f) (hb : Below w.heap.size w w') : KR w' g S f := by
  obtain ⟨h1, h2, h3⟩ := h
  refine ⟨fun j hj => ?_, Nat.lt_of_lt_of_le h2 hb.size, fun i hi => ?_⟩
  · have := h1 j hj
    exact ⟨by rw [hb.cell (p := ⟨g, _, none⟩) h2]; exact this.1, by rw [hb.frozen (p := ⟨g, _, none⟩) h2]; exact this.2⟩
  · obtain ⟨A, cap, c1, c2, c3, c4⟩ := h3 i hi
    exact ⟨A, cap, c1.block (hb.block g h2), c2, c3, c4.step hb⟩
theorem KR.congr {w : World} {g : Nat} {S : Nat → Prop} {f f' : Nat → T} (h : KR w g S f) (hf : ∀ i, i < 4 → f i = f' i) : KR w g S f' :=
  ⟨h.1, h.2.1, fun i hi => by rw [← hf i hi]; exact h.2.2 i hi⟩
theorem KR.set {w : World} {g : Nat} {S : Nat → Prop} {f : Nat → T} (h : KR w g S f) (hS : ¬ S g) {j : Nat} (hj : j < 4) (A : Option Addr) (cap : Nat) (t : T) (h1 : t.kids.length ≤ maxLen) (h2 : t.kids.length ≤ cap) (hk : NK w S A t.kids) :
    KR (w.setCells g (j * 3) [.slice A t.kids.length cap, .int .i64 t.val, .int .i64 t.marks]) g S (fun i => if i = j then t else f i) := by
  obtain ⟨a1, a2, a3⟩ := h
  have hs := (setCells_same g [.slice A t.kids.length cap, .int .i64 t.val, .int .i64 t.marks] (j * 3) w).2.2.2
  have hkp : ∀ {A' : Option Addr} {ks : List T}, NK w S A' ks → NK (w.setCells g (j * 3) [.slice A t.kids.length cap, .int .i64 t.val, .int .i64 t.marks]) S A' ks := fun hk => hk.kept (by omega) fun b hb _ => heap_setCells g _ _ w b (fun e => hS (e ▸ hb))
  refine ⟨World.there_setCells a1 _ _ _, by omega, fun i hi => ?_⟩
  by_cases hij : i = j
  · subst hij
    simp only [if_true]
    have hr := World.rangeAt_setCells_same w g (i * 3) [.slice A t.kids.length cap, .int .i64 t.val, .int .i64 t.marks] (fun k hk => by
      have := a1 (i * 3 + k) (by simp at hk; omega)
      rw [Nat.zero_add] at this
      exact this)
    exact ⟨A, cap, ⟨hr 0 _ rfl, hr 1 _ rfl, hr 2 _ rfl⟩, h1, h2, hkp hk⟩
  · simp only [hij, if_false]
    obtain ⟨A', cap', ⟨n0, n1, n2⟩, c2, c3, c4⟩ := a3 i hi
    have hr := World.rangeAt_setCells_apart (w := w) (b' := g) (o' := i * 3) (cs := [.slice A' (f i).kids.length cap', .int .i64 (f i).val, .int .i64 (f i).marks]) (fun k v hv => by
      match k with
      | 0 => simp at hv; rw [← hv]; exact n0
      | 1 => simp at hv; rw [← hv]; exact n1
      | 2 => simp at hv; rw [← hv]; exact n2
      | k + 3 => simp at hv) g (j * 3) [.slice A t.kids.length cap, .int .i64 t.val, .int .i64 t.marks] (by simp; omega)
    exact ⟨A', cap', ⟨hr 0 _ rfl, hr 1 _ rfl, hr 2 _ rfl⟩, c2, c3, hkp c4⟩
theorem KR.nk {w : World} {g : Nat} {S S' : Nat → Prop} {f : Nat → T} (h : KR w g S f) (hg : S' g) (hS : ∀ b, S b → S' b) : NK w S' (some ⟨g, 0, none⟩) ((List.range 4).map f) := by
  obtain ⟨a1, a2, a3⟩ := h
  have ch : ∀ i : Nat, ∃ x : Option Addr × Nat, i < 4 → (NC w g (i * 3) x.1 (f i).kids.length x.2 (f i).val (f i).marks ∧ (f i).kids.length ≤ maxLen ∧ (f i).kids.length ≤ x.2 ∧ NK w S x.1 (f i).kids) := fun i => by
    by_cases hi : i < 4
    · obtain ⟨A, cap, h⟩ := a3 i hi
      exact ⟨(A, cap), fun _ => h⟩
    · exact ⟨(none, 0), fun h => absurd h hi⟩
  have hget : ∀ i k, ((List.range 4).map f)[i]? = some k → i < 4 ∧ k = f i := fun i k hi => by
    have hl := (List.getElem?_eq_some_iff.1 hi).1
    rw [List.length_map, List.length_range] at hl
    rw [List.getElem?_map, List.getElem?_range hl] at hi
    exact ⟨hl, by simpa using hi.symm⟩
  refine .mk g 0 _ (fun i => (Classical.choose (ch i)).1) (fun i => (Classical.choose (ch i)).2) hg a2 (fun i k hi => ?_) (fun i k hi => ?_) (fun i k hi => ?_)
  all_goals
    obtain ⟨hl, rfl⟩ := hget i k hi
    obtain ⟨x1, x2, x3, x4⟩ := Classical.choose_spec (ch i) hl
  · rw [Nat.zero_add]; exact x1
  · exact ⟨x2, x3⟩
  · exact x4.weak fun b _ hb => hS b hb
theorem KR.new {w : World} {g : Nat} {S : Nat → Prop} (h : w.heap[g]? = some (.cells #[.slice none 0 0, .int .i64 0, .int .i64 0, .slice none 0 0, .int .i64 0, .int .i64 0, .slice none 0 0, .int .i64 0, .int .i64 0, .slice none 0 0, .int .i64 0, .int .i64 0] 26 (0, 0))) : KR w g S (fun _ => .nil) := by
  refine ⟨fun j hj => ?_, bk_lt h, fun i hi => ⟨none, 0, ⟨?_, ?_, ?_⟩, Nat.zero_le _, Nat.zero_le _, .nil _⟩⟩
  · rw [Nat.zero_add, cells_at h, free_at h]
    exact ⟨by rw [List.getElem?_toArray, List.getElem?_eq_getElem (by simpa using hj)]; rfl, rfl⟩
  all_goals
    rw [cells_at h]
    match i, hi with
    | 0, _ => rfl
    | 1, _ => rfl
    | 2, _ => rfl
    | 3, _ => rfl
    | i + 4, hi => omega
theorem KR.at_ {w : World} {g : Nat} {S : Nat → Prop} {f : Nat → T} (h : KR w g S f) {i : Nat} (hi : i < 4) : ∃ A cap, w.cell? ⟨g, i * 3, none⟩ = some (.slice A (f i).kids.length cap) ∧ w.cell? ⟨g, i * 3 + 1, none⟩ = some (.int .i64 (f i).val) ∧ w.cell? ⟨g, i * 3 + 2, none⟩ = some (.int .i64 (f i).marks) ∧ (f i).kids.length ≤ maxLen ∧ (f i).kids.length ≤ cap ∧ NK w S A (f i).kids := by
  obtain ⟨A, cap, ⟨c0, c1, c2⟩, h1, h2, h3⟩ := h.2.2 i hi
  exact ⟨A, cap, c0, c1, c2, h1, h2, h3⟩
theorem KR.there {w : World} {g : Nat} {S : Nat → Prop} {f : Nat → T} (h : KR w g S f) {i : Nat} (hi : i < 4) : w.there g (i * 3) 3 := fun j hj => by
  have := h.1 (i * 3 + j) (by omega)
  rw [Nat.zero_add] at this
  exact this
theorem cano_kl (h : Nat) (c : Cn) : (cano h c).kids.length ≤ 4 := by
  cases h with
  | zero => simp [cano, T.kids]
  | succ h => rw [cano_succ]; split <;> simp [T.nil, T.kids, kidsC_len]
theorem cano_ml (h : Nat) (c : Cn) : (cano h c).kids.length ≤ maxLen := Nat.le_trans (cano_kl h c) (by unfold maxLen; omega)
/-- A tree comes back. -/
def RetT (t : T) (S : Nat → Prop) (w : World) (e : Ending) (w' : World) : Prop := ∃ A cap, e = .returned (ndV A t.kids.length cap t.val t.marks) ∧ t.kids.length ≤ cap ∧ NK w' S A t.kids ∧ Below w.heap.size w w'
def upd (c : Cn) (i : Nat) (x : Int × Int) : Cn := fun j => if j = i then x else c j

/-- The cells of nodes. -/
inductive NL (w : World) (S : Nat → Prop) : List T → List Value → Prop
  | nil : NL w S [] []
  | cons (k : T) (ks : List T) (A : Option Addr) (cap : Nat) (xs : List Value) (h1 : k.kids.length ≤ maxLen) (h2 : k.kids.length ≤ cap) (hk : NK w S A k.kids) (h : NL w S ks xs) : NL w S (k :: ks) (.slice A k.kids.length cap :: .int .i64 k.val :: .int .i64 k.marks :: xs)
theorem NL.kept {w w' : World} {S S' : Nat → Prop} {ks : List T} {xs : List Value} (h : NL w S ks xs) (hs : w.heap.size ≤ w'.heap.size) (hb : ∀ b, S b → b < w.heap.size → w'.heap[b]? = w.heap[b]?) (hS : ∀ b, b < w.heap.size → S b → S' b) : NL w' S' ks xs := by
  induction h with
  | nil => exact .nil
  | cons k ks A cap xs h1 h2 hk h ih => exact .cons k ks A cap xs h1 h2 ((hk.weak (S' := fun b => S' b ∧ S b) fun b h1 h2 => ⟨hS b h1 h2, h2⟩).kept hs (fun b h1 h2 => hb b h1.2 h2) |>.weak fun b _ h => h.1) ih
theorem NL.step {w w' : World} {S : Nat → Prop} {ks : List T} {xs : List Value} (h : NL w S ks xs) (hb : Below w.heap.size w w') : NL w' S ks xs := h.kept hb.size (fun b _ hlt => hb.block b hlt) fun _ _ h => h
theorem NL.snoc {w : World} {S : Nat → Prop} {ks : List T} {xs : List Value} (h : NL w S ks xs) (k : T) (A : Option Addr) (cap : Nat) (h1 : k.kids.length ≤ maxLen) (h2 : k.kids.length ≤ cap) (hk : NK w S A k.kids) : NL w S (ks ++ [k]) (xs ++ [.slice A k.kids.length cap, .int .i64 k.val, .int .i64 k.marks]) := by
  induction h with
  | nil => exact .cons k [] A cap [] h1 h2 hk .nil
  | cons k' ks A' cap' xs h1' h2' hk' h ih => exact .cons k' _ A' cap' _ h1' h2' hk' ih
theorem NL.len {w : World} {S : Nat → Prop} {ks : List T} {xs : List Value} (h : NL w S ks xs) : xs.length = ks.length * 3 := by
  induction h with
  | nil => rfl
  | cons k ks A cap xs h1 h2 hk h ih => simp [ih]; omega
theorem NL.one {w : World} {S : Nat → Prop} {ks : List T} {xs : List Value} (h : NL w S ks xs) : ∀ u ∈ xs, u.oneCell' = true := by
  induction h with
  | nil => intro u hu; simp at hu
  | cons k ks A cap xs h1 h2 hk h ih =>
    intro u hu
    simp only [List.mem_cons] at hu
    rcases hu with rfl | rfl | rfl | hu
    · rfl
    · rfl
    · rfl
    · exact ih u hu
theorem NL.get {w : World} {S : Nat → Prop} {ks : List T} {xs : List Value} (h : NL w S ks xs) : ∀ {i : Nat} {k : T}, ks[i]? = some k → ∃ A cap, xs[i * 3]? = some (.slice A k.kids.length cap) ∧ xs[i * 3 + 1]? = some (.int .i64 k.val) ∧ xs[i * 3 + 2]? = some (.int .i64 k.marks) ∧ k.kids.length ≤ maxLen ∧ k.kids.length ≤ cap ∧ NK w S A k.kids := by
  induction h with
  | nil => intro i k hi; simp at hi
  | cons k' ks A cap xs h1 h2 hk h ih =>
    intro i k hi
    cases i with
    | zero =>
      simp at hi
      subst hi
      exact ⟨A, cap, by simp, by simp, by simp, h1, h2, hk⟩
    | succ i =>
      obtain ⟨A', cap', e0, e1, e2, r⟩ := ih (i := i) (k := k) (by simpa using hi)
      rw [show (i + 1) * 3 = i * 3 + 3 from by omega, show i * 3 + 3 + 1 = i * 3 + 1 + 3 from by omega, show i * 3 + 3 + 2 = i * 3 + 2 + 3 from by omega]
      exact ⟨A', cap', by simpa using e0, by simpa using e1, by simpa using e2, r⟩
/-- A slice of nodes of the call's own. -/
def NO (w : World) (base : Nat) (S : Nat → Prop) (u : Value) (ks : List T) (xs : List Value) : Prop := w.ownsRow base 26 3 u ks.length xs ∧ NL w (fun b => S b ∧ u.ownBlock ≠ some b) ks xs
theorem NO.step {w w' : World} {base : Nat} {S : Nat → Prop} {u : Value} {ks : List T} {xs : List Value} (h : NO w base S u ks xs) (hb : Below w.heap.size w w') : NO w' base S u ks xs := ⟨own_step h.1 hb, h.2.step hb⟩
theorem NO.nil (w : World) (base : Nat) (S : Nat → Prop) : NO w base S (.slice none 0 0) [] [] := ⟨World.ownsRow_nil _ _ _ _, .nil⟩
theorem NO.alloc {w : World} {base : Nat} {S : Nat → Prop} {u : Value} {ks : List T} {xs : List Value} (h : NO w base S u ks xs) (o : Obj) : NO (w.alloc o) base S u ks xs := h.step ((Below.refl _ _).alloc (Nat.le_refl _) _)
theorem NO.set {w : World} {base : Nat} {S : Nat → Prop} {u : Value} {ks : List T} {xs : List Value} (h : NO w base S u ks xs) (p : Addr) (v : Value) (h1 : ¬ S p.block) (h2 : p.block < base) : NO (w.setCell p v) base S u ks xs :=
  ⟨ownsRow_setCell_other h.1 (fun e => by have := (h.1.lt _ e).1; omega) v, h.2.kept (by simp [World.setCell]) (fun b hb _ => Below.heap_setCell w p v b (fun e => h1 (e ▸ hb.1))) fun _ _ h => h⟩
theorem NO.snoc {w w' : World} {base : Nat} {S : Nat → Prop} {u : Value} {ks : List T} {xs : List Value} (h : NO w base S u ks xs) {g n cap' : Nat} (k : T) (A : Option Addr) (cap : Nat) (h1 : k.kids.length ≤ maxLen) (h2 : k.kids.length ≤ cap)
    (hk : NK w (fun b => S b ∧ u.ownBlock ≠ some b) A k.kids) (hown : w'.ownsRow base 26 3 (.slice (some ⟨g, 0, none⟩) n cap') (ks.length + 1) (xs ++ [.slice A k.kids.length cap, .int .i64 k.val, .int .i64 k.marks]))
    (hg : w.grownBy w' u.ownBlock) (hat : u.ownBlock = some g ∨ g = w.heap.size) : NO w' base S (.slice (some ⟨g, 0, none⟩) n cap') (ks ++ [k]) (xs ++ [.slice A k.kids.length cap, .int .i64 k.val, .int .i64 k.marks]) := by
  refine ⟨by rw [List.length_append]; exact hown, (h.2.snoc k A cap h1 h2 hk).kept hg.size (fun b hb hlt => hg.block b hlt fun e => hb.2 e.symm) fun b hlt hb => ⟨hb.1, fun e => ?_⟩⟩
  simp only [Value.ownBlock, Option.some.injEq] at e
  subst e
  rcases hat with hat | hat
  · exact hb.2 hat
  · omega
/-- The slice that comes of it. -/
theorem NO.nk {w : World} {base : Nat} {S S' : Nat → Prop} {u : Value} {ks : List T} {xs : List Value} (h : NO w base S u ks xs) (hS : ∀ b, S b → S' b) (hS' : ∀ b, base ≤ b → S' b) : ∃ A cap, u = .slice A ks.length cap ∧ ks.length ≤ cap ∧ NK w S' A ks := by
  obtain ⟨hown, hnl⟩ := h
  have hlen := hnl.len
  rcases hown.2 with ⟨h1, h2⟩ | ⟨g, cap, cur, h1, h2, h3, h4, h5, h6, h7⟩
  · refine ⟨none, 0, by rw [h1, h2], by omega, ?_⟩
    rw [List.length_eq_zero_iff.1 h2]
    exact .nil _
  · refine ⟨_, cap, h1, h4, ?_⟩
    have ch : ∀ i : Nat, ∃ x : Option Addr × Nat, ∀ k : T, ks[i]? = some k → (xs[i * 3]? = some (.slice x.1 k.kids.length x.2) ∧ xs[i * 3 + 1]? = some (.int .i64 k.val) ∧ xs[i * 3 + 2]? = some (.int .i64 k.marks) ∧ k.kids.length ≤ maxLen ∧ k.kids.length ≤ x.2 ∧ NK w (fun b => S b ∧ u.ownBlock ≠ some b) x.1 k.kids) := fun i => by
      cases hk : ks[i]? with
      | none => exact ⟨(none, 0), fun k h => by cases h⟩
      | some k =>
        obtain ⟨A, cap, e⟩ := hnl.get hk
        exact ⟨(A, cap), fun k' h => by injection h with h; subst h; exact e⟩
    have hx : ∀ j, j < xs.length → w.cell? ⟨g, j, none⟩ = xs[j]? := fun j hj => by
      rw [← h7, List.getElem?_take, if_pos (by omega)]
      simp [World.cell?, h3]
    refine .mk g 0 ks (fun i => (Classical.choose (ch i)).1) (fun i => (Classical.choose (ch i)).2) (hS' g h2) (bk_lt h3) (fun (i : Nat) (k : T) hi => ?_) (fun (i : Nat) (k : T) hi => ?_) (fun (i : Nat) (k : T) hi => ?_)
    all_goals
      have hil : i < ks.length := (List.getElem?_eq_some_iff.1 hi).1
      obtain ⟨e0, e1, e2, e3, e4, e5⟩ := Classical.choose_spec (ch i) k hi
    · rw [Nat.zero_add]
      exact ⟨(hx _ (by omega)).trans e0, (hx _ (by omega)).trans e1, (hx _ (by omega)).trans e2⟩
    · exact ⟨e3, e4⟩
    · exact e5.weak fun b _ hb => hS b hb.1
theorem node_info : (Try.prog.info? 26).map (fun i => (i.zero, i.size, i.bytes)) = some (some (.agg #[.slice none 0 0, .int .i64 0, .int .i64 0]), 3, 40) := by kernel_rfl

/-- A tree's value; a slice of one tree. -/
def SP.nt (S : Nat → Prop) (t : T) : SP := ⟨fun v w => ∃ A cap, v = ndV A t.kids.length cap t.val t.marks ∧ t.kids.length ≤ cap ∧ NK w S A t.kids, fun v w w' hb ⟨A, cap, h1, h2, h3⟩ => ⟨A, cap, h1, h2, h3.step hb⟩⟩
def SP.nb (S : Nat → Prop) (t : T) : SP := ⟨fun v w => ∃ g A cap, v = .slice (some ⟨g, 0, none⟩) 1 1 ∧ w.heap[g]? = some (.cells #[.slice A t.kids.length cap, .int .i64 t.val, .int .i64 t.marks] 26 (0, 0)) ∧ t.kids.length ≤ cap ∧ NK w S A t.kids, fun v w w' hb ⟨g, A, cap, h1, h0, h2, h3⟩ => ⟨g, A, cap, h1, bk_step h0 hb, h2, h3.step hb⟩⟩

end Go.Proofs.Ytpoagdffpajdjaa
