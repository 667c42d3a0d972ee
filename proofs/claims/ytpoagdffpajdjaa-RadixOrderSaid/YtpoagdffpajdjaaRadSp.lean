/-
  pagecachemade's SpoilNode and the law's drawn, by contracts: some tree comes back.
-/
import Derived.Test.YtpoagdffpajdjaaRadTr
namespace Go.Proofs.Ytpoagdffpajdjaa
open Go.RowKit
set_option linter.unusedVariables false
set_option linter.unusedSimpArgs false

theorem app_nil (w : World) (ty : TypeId) (A : Option Addr) (cap : Nat) : (Builtin.append_ #[24, 24] ty #[.slice none 0 0, .slice A 0 cap]).run Try.prog w = .ok (.slice none 0 0) w := by
  obtain ⟨i0, hi, hz0, hz1, hz2⟩ := info_parts node_info
  cases A <;> simp [Builtin.append_, run_underlying Try.underlying24, sizeOf, typeInfo, hi, Builtin.lenOf, Builtin.firstCells, loadCells, loadCellsFrom]
theorem wp_append_empty {o : Oper} {a : Act} {w : World} {K : Act → World → Prop} {Q : Exit → Act → World → Prop} (s x : Operand) (ho : o.op = .call { callee := .builtin .append, args := #[s, x], argTypes := #[24, 24] }) (A : Option Addr) (cap : Nat)
    (hs : a.eval s = .slice none 0 0) (hx : a.eval x = .slice A 0 cap) (h : K (a.put o.dst (.slice none 0 0)) w) : o.wp Try.prog a w K Q := by
  unfold Oper.wp execOp
  simp only [ho, resolve, invoke, builtin, Sem.run_bind, Sem.run_pure, Result.andThen_ok, List.map_toArray, List.map_cons, List.map_nil, hs, hx, app_nil]
  exact h
/-- Some node comes back. -/
def RetAny (S : Nat → Prop) (w : World) (e : Ending) (w' : World) : Prop := ∃ (t : T) (A : Option Addr) (cap : Nat), e = .returned (ndV A t.kids.length cap t.val t.marks) ∧ t.kids.length ≤ 1001 ∧ t.kids.length ≤ cap ∧ NK w' S A t.kids ∧ Below w.heap.size w w'
/-- The cells of a row of nodes. -/
theorem nk_row {w : World} {S : Nat → Prop} {b : Nat} : ∀ (ks : List T) (o : Nat) (A : Nat → Option Addr) (cap : Nat → Nat), (∀ (i : Nat) (k : T), ks[i]? = some k → NC w b (o + i * 3) (A i) k.kids.length (cap i) k.val k.marks ∧ k.kids.length ≤ maxLen ∧ k.kids.length ≤ cap i ∧ NK w S (A i) k.kids) →
    ∃ xs, NL w S ks xs ∧ ∀ j u, xs[j]? = some u → w.cell? ⟨b, o + j, none⟩ = some u
  | [], o, A, cap, h => ⟨[], .nil, fun j u hj => by simp at hj⟩
  | k :: ks, o, A, cap, h => by
    obtain ⟨⟨c0, c1, c2⟩, h1, h2, h3⟩ := h 0 k (by simp)
    obtain ⟨xs, hx, hc⟩ := nk_row ks (o + 3) (fun i => A (i + 1)) (fun i => cap (i + 1)) (fun i x hi => by
      have := h (i + 1) x (by simpa using hi)
      rw [show o + (i + 1) * 3 = o + 3 + i * 3 by omega] at this
      exact this)
    refine ⟨_, .cons k ks (A 0) (cap 0) xs h1 h2 h3 hx, fun j u hj => ?_⟩
    rw [Nat.zero_mul, Nat.add_zero] at c0 c1 c2
    match j with
    | 0 => simp at hj; rw [← hj]; exact c0
    | 1 => simp at hj; rw [← hj]; exact c1
    | 2 => simp at hj; rw [← hj]; exact c2
    | j + 3 =>
      have := hc j u (by simpa using hj)
      rw [show o + 3 + j = o + (j + 3) by omega] at this
      exact this
theorem NK.row {w : World} {S : Nat → Prop} {A : Option Addr} {ks : List T} (h : NK w S A ks) (hne : ks ≠ []) : ∃ b o xs, A = some ⟨b, o, none⟩ ∧ NL w S ks xs ∧ ∀ j u, xs[j]? = some u → w.cell? ((⟨b, o, none⟩ : Addr).add j) = some u := by
  cases h with
  | nil A => exact absurd rfl hne
  | mk b o ks A cap hS hlt hc hl hk =>
    obtain ⟨xs, h1, h2⟩ := nk_row ks o A cap fun i k hi => ⟨hc i k hi, (hl i k hi).1, (hl i k hi).2, hk i k hi⟩
    exact ⟨b, o, xs, rfl, h1, fun j u hj => by rw [Addr.add_mid]; exact h2 j u hj⟩
theorem NL.set {w : World} {S : Nat → Prop} {ks : List T} {xs : List Value} (h : NL w S ks xs) : ∀ (i : Nat) (t : T) (A : Option Addr) (cap : Nat), i < ks.length → t.kids.length ≤ maxLen → t.kids.length ≤ cap → NK w S A t.kids → NL w S (ks.set i t) (((xs.set (i * 3) (.slice A t.kids.length cap)).set (i * 3 + 1) (.int .i64 t.val)).set (i * 3 + 2) (.int .i64 t.marks)) := by
  induction h with
  | nil => intro i t A cap hi; simp at hi
  | cons k ks A' cap' xs h1 h2 hk h ih =>
    intro i t A cap hi g1 g2 g3
    cases i with
    | zero => exact .cons t ks A cap xs g1 g2 g3 h
    | succ i =>
      have := ih i t A cap (by simpa using hi) g1 g2 g3
      rw [show (i + 1) * 3 = i * 3 + 1 + 1 + 1 by omega]
      exact .cons k _ A' cap' _ h1 h2 hk this
/-- Three cells of a row of the call's own are written. -/
theorem own_set3 {w : World} {B n g cap : Nat} {t : TypeId} {m : Nat} {xs : List Value} {p q r : Value} {i : Nat} (h : w.ownsRow B t 3 (.slice (some ⟨g, 0, none⟩) m cap) n xs) (hi : i < n) :
    (w.setCells g (i * 3) [p, q, r]).ownsRow B t 3 (.slice (some ⟨g, 0, none⟩) m cap) n (((xs.set (i * 3) p).set (i * 3 + 1) q).set (i * 3 + 2) r) ∧ w.there g (i * 3) 3 := by
  obtain ⟨hl, h⟩ := h
  rcases h with ⟨h1, _⟩ | ⟨g', cap', cur, h1, h2, h3, h4, h5, h6, h7⟩
  · cases h1
  · injection h1 with e1 e2 e3
    injection e1 with e1
    injection e1 with e1
    subst e1 e2 e3
    constructor
    · refine ⟨by simp [hl], .inr ⟨g, cap, ((cur.setIfInBounds (i * 3) p).setIfInBounds (i * 3 + 1) q).setIfInBounds (i * 3 + 2) r, rfl, h2, ?_, h4, h5, by simpa using h6, ?_⟩⟩
      · have s1 := set_same (i := i * 3) h3 p
        have s2 := set_same (i := i * 3 + 1) s1 q
        have s3 := set_same (i := i * 3 + 2) s2 r
        simpa [World.setCells] using s3
      · rw [← h7]
        simp only [Array.toList_setIfInBounds]
        rw [List.take_set, List.take_set, List.take_set]
    · intro j hj
      rw [cells_at h3, free_at h3]
      have : i * 3 + j < cur.size := by
        have := Nat.mul_le_mul_right 3 h4
        omega
      exact ⟨by rw [Array.getElem?_eq_getElem this]; rfl, rfl⟩
theorem NO.put {w : World} {base : Nat} {S : Nat → Prop} {g n cap : Nat} {ks : List T} {xs : List Value} (h : NO w base S (.slice (some ⟨g, 0, none⟩) n cap) ks xs) {i : Nat} (hi : i < ks.length) (t : T) (A : Option Addr) (cap' : Nat) (h1 : t.kids.length ≤ maxLen) (h2 : t.kids.length ≤ cap') (hk : NK w (fun b => S b ∧ b ≠ g) A t.kids) :
    NO (w.setCells g (i * 3) [.slice A t.kids.length cap', .int .i64 t.val, .int .i64 t.marks]) base S (.slice (some ⟨g, 0, none⟩) n cap) (ks.set i t) (((xs.set (i * 3) (.slice A t.kids.length cap')).set (i * 3 + 1) (.int .i64 t.val)).set (i * 3 + 2) (.int .i64 t.marks)) ∧ w.there g (i * 3) 3 := by
  obtain ⟨g1, g2⟩ := own_set3 (p := .slice A t.kids.length cap') (q := .int .i64 t.val) (r := .int .i64 t.marks) h.1 hi
  refine ⟨⟨by rw [List.length_set]; exact g1, ?_⟩, g2⟩
  have hx := h.2.set i t A cap' hi h1 h2 (hk.weak fun z _ hz => ⟨hz.1, fun e => hz.2 (by simpa [Value.ownBlock] using e.symm)⟩)
  exact hx.kept (Nat.le_of_eq (setCells_same g _ _ w).2.2.2.symm) (fun z hz _ => heap_setCells g _ _ w z (fun e => hz.2 (by rw [e]; rfl))) fun _ _ h => h
theorem NO.nk' {w : World} {base : Nat} {S S' : Nat → Prop} {u : Value} {ks : List T} {xs : List Value} (h : NO w base S u ks xs) (hS : ∀ b, S b → S' b) (hS' : ∀ g, u.ownBlock = some g → S' g) : ∃ A cap, u = .slice A ks.length cap ∧ ks.length ≤ cap ∧ NK w S' A ks := by
  obtain ⟨A, cap, rfl, hc, hk⟩ := NO.nk (S' := fun z => S z ∨ base ≤ z) h (fun z hz => .inl hz) (fun z hz => .inr hz)
  refine ⟨A, cap, rfl, hc, ?_⟩
  obtain ⟨hown, hnl⟩ := h
  rcases hown.2 with ⟨h1, h2⟩ | ⟨g, cap', cur, h1, h2, h3, h4, h5, h6, h7⟩
  · injection h1 with e1 e2 e3
    rw [List.length_eq_zero_iff.1 e2]
    exact .nil _
  · injection h1 with e1 e2 e3
    subst e1
    have hlen := hnl.len
    have ch : ∀ i : Nat, ∃ x : Option Addr × Nat, ∀ k : T, ks[i]? = some k → (xs[i * 3]? = some (.slice x.1 k.kids.length x.2) ∧ xs[i * 3 + 1]? = some (.int .i64 k.val) ∧ xs[i * 3 + 2]? = some (.int .i64 k.marks) ∧ k.kids.length ≤ maxLen ∧ k.kids.length ≤ x.2 ∧ NK w (fun b => S b ∧ (Value.slice (some ⟨g, 0, none⟩) ks.length cap).ownBlock ≠ some b) x.1 k.kids) := fun i => by
      cases hk : ks[i]? with
      | none => exact ⟨(none, 0), fun k h => by cases h⟩
      | some k =>
        obtain ⟨A, cap, e⟩ := hnl.get hk
        exact ⟨(A, cap), fun k' h => by injection h with h; subst h; exact e⟩
    have hx : ∀ j, j < xs.length → w.cell? ⟨g, j, none⟩ = xs[j]? := fun j hj => by
      rw [← h7, List.getElem?_take, if_pos (by omega)]
      simp [World.cell?, h3]
    refine .mk g 0 ks (fun i => (Classical.choose (ch i)).1) (fun i => (Classical.choose (ch i)).2) (hS' g rfl) (bk_lt h3) (fun (i : Nat) (k : T) hi => ?_) (fun (i : Nat) (k : T) hi => ?_) (fun (i : Nat) (k : T) hi => ?_)
    all_goals
      have hil : i < ks.length := (List.getElem?_eq_some_iff.1 hi).1
      obtain ⟨e0, e1, e2, e3, e4, e5⟩ := Classical.choose_spec (ch i) k hi
    · rw [Nat.zero_add]
      exact ⟨(hx _ (by omega)).trans e0, (hx _ (by omega)).trans e1, (hx _ (by omega)).trans e2⟩
    · exact ⟨e3, e4⟩
    · exact e5.weak fun b _ hb => hS b hb.1
/-- What is known where a spoilt node is handed back. -/
structure FS (W : World) (b Z : Nat) (S : Nat → Prop) (t : T) (A : Option Addr) (cap : Nat) (w : World) : Prop where
  z : w.heap[Z]? = some (.cells #[.slice A t.kids.length cap, .int .i64 t.val, .int .i64 t.marks] 26 (0, 0))
  hl : t.kids.length ≤ 1001
  hc : t.kids.length ≤ cap
  nk : NK w (fun z => S z ∧ z ≠ b + 1 ∧ z ≠ Z) A t.kids
  r : w.heap[b + 1]? = some (.cells #[.slice none 0 0, .int .i64 0, .int .i64 0] 26 (0, 0))
  lt : b + 1 < Z
  below : Below W.heap.size W w
theorem FS.set1 {W w : World} {b Z : Nat} {S : Nat → Prop} {ks : List T} {y m : Int} {A : Option Addr} {cap : Nat} (h : FS W b Z S (.mk ks y m) A cap w) (hW : W.heap.size = b) (v : Int) : FS W b Z S (.mk ks v m) A cap (w.setCell ⟨Z, 1, none⟩ (.int .i64 v)) :=
  have := h.lt
  ⟨by have := set_same (i := 1) h.z (.int .i64 v); simpa [T.kids, T.val, T.marks] using this, h.hl, h.hc, h.nk.kept (by simp [World.setCell]) (fun z hz _ => Below.heap_setCell _ _ _ z hz.2.2), set_bk h.r _ _ (by simp only; omega), h.lt, h.below.setCell (by simp only; omega) _⟩
theorem FS.set2 {W w : World} {b Z : Nat} {S : Nat → Prop} {ks : List T} {y m : Int} {A : Option Addr} {cap : Nat} (h : FS W b Z S (.mk ks y m) A cap w) (hW : W.heap.size = b) (v : Int) : FS W b Z S (.mk ks y v) A cap (w.setCell ⟨Z, 2, none⟩ (.int .i64 v)) :=
  have := h.lt
  ⟨by have := set_same (i := 2) h.z (.int .i64 v); simpa [T.kids, T.val, T.marks] using this, h.hl, h.hc, h.nk.kept (by simp [World.setCell]) (fun z hz _ => Below.heap_setCell _ _ _ z hz.2.2), set_bk h.r _ _ (by simp only; omega), h.lt, h.below.setCell (by simp only; omega) _⟩
theorem FS.set0 {W w : World} {b Z : Nat} {S : Nat → Prop} {ks ks' : List T} {y m : Int} {A A' : Option Addr} {cap n' cap' : Nat} (h : FS W b Z S (.mk ks y m) A cap w) (hW : W.heap.size = b) (hn : ks'.length = n') (h1 : n' ≤ 1001) (h2 : n' ≤ cap') (hk : NK w (fun z => S z ∧ z ≠ b + 1 ∧ z ≠ Z) A' ks') : FS W b Z S (.mk ks' y m) A' cap' (w.setCell ⟨Z, 0, none⟩ (.slice A' n' cap')) := by
  subst hn
  have := h.lt
  exact ⟨by have := set_same (i := 0) h.z (.slice A' ks'.length cap'); simpa [T.kids, T.val, T.marks] using this, h1, h2, hk.kept (by simp [World.setCell]) (fun z hz _ => Below.heap_setCell _ _ _ z hz.2.2), set_bk h.r _ _ (by simp only; omega), h.lt, h.below.setCell (by simp only; omega) _⟩
theorem FS.step {W w w' : World} {b Z : Nat} {S : Nat → Prop} {t : T} {A : Option Addr} {cap : Nat} (h : FS W b Z S t A cap w) (hb : Below w.heap.size w w') : FS W b Z S t A cap w' := ⟨bk_step h.z hb, h.hl, h.hc, h.nk.step hb, bk_step h.r hb, h.lt, bl_step h.below hb⟩
theorem set_alloc (w : World) (p : Addr) (v : Value) (o : Obj) (hp : p.block < w.heap.size) : (w.alloc o).setCell p v = (w.setCell p v).alloc o := by
  simp only [World.setCell, World.alloc]
  congr 1
  apply Array.ext_getElem?
  intro i
  simp only [Array.getElem?_modify, Array.getElem?_push, Array.size_modify]
  by_cases h1 : p.block = i
  · subst h1
    have : ¬ p.block = w.heap.size := by omega
    simp [this]
  · by_cases h2 : i = w.heap.size
    · subst h2
      simp [h1]
    · simp [h1, h2]
theorem FS.ret {W w : World} {b Z : Nat} {S : Nat → Prop} {t : T} {A : Option Addr} {cap : Nat} (h : FS W b Z S t A cap w) (hW : W.heap.size = b) : RetAny S W (.returned (ndV A t.kids.length cap t.val t.marks)) (w.setRow (b + 1) #[.slice A t.kids.length cap, .int .i64 t.val, .int .i64 t.marks]) :=
  ⟨t, A, cap, rfl, h.hl, h.hc, (h.nk.kept (by simp [World.setRow]) (fun z hz _ => setRow_other _ _ _ _ hz.2.1)).weak fun _ _ hz => hz.1, bl_setRow h.below (by omega) _⟩
def SP.no (base : Nat) (S : Nat → Prop) (ks : List T) : SP := ⟨fun v w => ∃ xs, NO w base S v ks xs ∧ (ks = [] → v = .slice none 0 0), fun v w w' hb ⟨xs, h, h1⟩ => ⟨xs, h.step hb, h1⟩⟩
def SP.nd (base : Nat) (S : Nat → Prop) (ks : List T) (y m : Int) : SP := ⟨fun v w => ∃ u xs, v = .agg #[u, .int .i64 y, .int .i64 m] ∧ NO w base S u ks xs ∧ (ks = [] → u = .slice none 0 0), fun v w w' hb ⟨u, xs, h0, h, h1⟩ => ⟨u, xs, h0, h.step hb, h1⟩⟩
theorem own_ne_box {w : World} {base : Nat} {S : Nat → Prop} {u : Value} {ks : List T} {xs : List Value} {Z : Nat} {p q r : Value} {t : TypeId} {f : Nat × Nat} (h : NO w base S u ks xs) (h0 : ks = [] → u = .slice none 0 0) (h1 : ks.length ≠ 1) (hZ : w.heap[Z]? = some (.cells #[p, q, r] t f)) : u.ownBlock ≠ some Z := by
  by_cases hk : ks = []
  · rw [h0 hk]; simp [Value.ownBlock]
  · have hkl : 0 < ks.length := List.length_pos_iff.2 hk
    obtain ⟨hl, hh⟩ := h.1
    rcases hh with ⟨e1, e2⟩ | ⟨g, cap', cur, g1, g2, g3, g4, g5, g6, g7⟩
    · rw [e1]; simp [Value.ownBlock]
    · intro e
      rw [g1] at e
      simp only [Value.ownBlock, Option.some.injEq] at e
      subst e
      rw [hZ] at g3
      injection g3 with g3
      injection g3 with g3
      subst g3
      simp at g6
      omega
def SP.bx (B : Nat) (o : Obj) : SP := ⟨fun v w => ∃ g, v = .pointer (some ⟨g, 0, none⟩) ∧ B ≤ g ∧ w.heap[g]? = some o, fun v w w' hb ⟨g, h1, h2, h3⟩ => ⟨g, h1, h2, bk_step h3 hb⟩⟩
def SP.ix : SP := ⟨fun v _ => ∃ x, v = .int .i64 x, fun _ _ _ _ h => h⟩
def SP.nk (S : Nat → Prop) : SP := ⟨fun v w => ∃ (t : T) (A : Option Addr) (cap : Nat), v = ndV A t.kids.length cap t.val t.marks ∧ t.kids.length ≤ 1001 ∧ t.kids.length ≤ cap ∧ NK w S A t.kids, fun v w w' hb ⟨t, A, cap, h1, h2, h3, h4⟩ => ⟨t, A, cap, h1, h2, h3, h4.step hb⟩⟩
theorem FS.of0 {W w : World} {b Z : Nat} {S : Nat → Prop} {u0 : Value} {ks' : List T} {y m : Int} {A' : Option Addr} {n' cap' : Nat} (hz : w.heap[Z]? = some (.cells #[u0, .int .i64 y, .int .i64 m] 26 (0, 0))) (hr : w.heap[b + 1]? = some (.cells #[.slice none 0 0, .int .i64 0, .int .i64 0] 26 (0, 0))) (hlt : b + 1 < Z) (hb : Below W.heap.size W w) (hW : W.heap.size = b) (hn : ks'.length = n') (h1 : n' ≤ 1001) (h2 : n' ≤ cap') (hk : NK w (fun z => S z ∧ z ≠ b + 1 ∧ z ≠ Z) A' ks') : FS W b Z S (.mk ks' y m) A' cap' (w.setCell ⟨Z, 0, none⟩ (.slice A' n' cap')) := by
  subst hn
  exact ⟨by have := set_same (i := 0) hz (.slice A' ks'.length cap'); simpa [T.kids, T.val, T.marks] using this, h1, h2, hk.kept (by simp [World.setCell]) (fun z hz _ => Below.heap_setCell _ _ _ z hz.2.2), set_bk hr _ _ (by simp only; omega), hlt, hb.setCell (by simp only; omega) _⟩
theorem NO.cells {w : World} {base : Nat} {S : Nat → Prop} {A : Option Addr} {ks : List T} {xs : List Value} {cap : Nat} (h : NO w base S (.slice A ks.length cap) ks xs) (h0 : 0 < ks.length) : ∃ g, A = some ⟨g, 0, none⟩ ∧ base ≤ g ∧ g < w.heap.size ∧ ∀ j, j < xs.length → w.cell? ⟨g, j, none⟩ = xs[j]? := by
  rcases h.1.2 with ⟨e1, e2⟩ | ⟨g, cap', cur, g1, g2, g3, g4, g5, g6, g7⟩
  · omega
  · injection g1 with e1 e2 e3
    subst e1
    refine ⟨g, rfl, g2, bk_lt g3, fun j hj => ?_⟩
    have := h.2.len
    rw [← g7, List.getElem?_take, if_pos (by omega)]
    simp [World.cell?, g3]
set_option maxRecDepth 100000 in
set_option maxHeartbeats 4000000 in
theorem spoil_step (ks : List T) (A : Option Addr) (cap : Nat) (y m : Int) (S : Nat → Prop) (at_ by_ : Int) (w : World) (hn : ks.length ≤ 1000) (hcap : ks.length ≤ cap) (hk : NK w S A ks) (hS : ∀ b, w.heap.size ≤ b → S b) (hn1 : ks.length ≠ 1)
    (hkid : ∀ (i : Nat) (k : T), ks[i]? = some k → ∀ w', Below w.heap.size w w' → ∀ A' c1 a' b' S', NK w' S' A' k.kids → k.kids.length ≤ c1 → (∀ z, w'.heap.size ≤ z → S' z) → Calls Try.prog 39 #[ndV A' k.kids.length c1 k.val k.marks, .int .i64 a', .int .i64 b'] w' (RetAny S' w')) :
    Calls Try.prog 39 #[ndV A ks.length cap y m, .int .i64 at_, .int .i64 by_] w (RetAny S w) := by
  have HKID := Lib.hid hkid
  have HSS := Lib.hid hS
  obtain ⟨b, hb⟩ : ∃ b, b = w.heap.size := ⟨_, rfl⟩
  have HBe := Lib.hid hb
  have HK := Lib.hid (hk.weak (S' := fun z => S z ∧ z < b) fun z hz h => ⟨h, by omega⟩)
  have HX0 := Lib.hid (bk_alloc (heap_alloc_at w (.cells #[.slice A ks.length cap, .int .i64 y, .int .i64 m] 26)) (.cells #[.slice none 0 0, .int .i64 0, .int .i64 0] 26))
  have HR0 := Lib.hid (heap_at_new (w.alloc (.cells #[.slice A ks.length cap, .int .i64 y, .int .i64 m] 26)) (.cells #[.slice none 0 0, .int .i64 0, .int .i64 0] 26) (w.heap.size + 1) (by simp))
  have HW0 := Lib.hid (bl_alloc (bl_alloc (Below.refl w.heap.size w) (.cells #[.slice A ks.length cap, .int .i64 y, .int .i64 m] 26)) (.cells #[.slice none 0 0, .int .i64 0, .int .i64 0] 26))
  rw [← hb] at HX0 HR0
  clear hkid hS hb hk
  go_enter Try.func39, Try.ntmps39
  go_upto_region 1 with fail
  have hpt : (⟨w.heap.size, 0, none⟩ : Addr) = ⟨b, 0, none⟩ := by rw [HBe.out]
  go_cut [3, 6, 7] (fun s3 s6 s7 wx => ∃ (Z : Nat) (u : Value) (xs : List Value), s6 = .pointer (some ⟨b + 1, 0, none⟩) ∧ s7 = .pointer (some ⟨Z, 0, none⟩) ∧ b + 1 < Z ∧ wx.heap[Z]? = some (.cells #[u, .int .i64 y, .int .i64 m] 26 (0, 0)) ∧ u.ownBlock ≠ some Z ∧ NO wx (b + 2) (fun z => S z ∧ z ≠ b + 1 ∧ z ≠ Z) u ks xs ∧ wx.heap[b + 1]? = some (.cells #[.slice none 0 0, .int .i64 0, .int .i64 0] 26 (0, 0)) ∧ Below w.heap.size w wx)
  case first =>
    obtain ⟨W, hWe⟩ : ∃ W, (w.alloc (.cells #[.slice A ks.length cap, .int .i64 y, .int .i64 m] 26)).alloc (.cells #[.slice none 0 0, .int .i64 0, .int .i64 0] 26) = W := ⟨_, rfl⟩
    have HKW := Lib.hid (show NK W (fun z => S z ∧ z < b) A ks by rw [← hWe]; exact (HK.out.alloc _).alloc _)
    have hbs : b + 2 ≤ W.heap.size := by rw [← hWe, HBe.out]; simp
    rw [hWe] at HX0 HR0 HW0 ⊢
    clear hWe
    have x0 := cells_at HX0.out 0
    have x1 := cells_at HX0.out 1
    have x2 := cells_at HX0.out 2
    simp only [List.getElem?_toArray, List.getElem?_cons_zero, List.getElem?_cons_succ] at x0 x1 x2
    have lX := bk_lt HX0.out
    obtain ⟨i0, hi, hz0, hz1, hz2⟩ := info_parts node_info
    rw [hpt]
    refine wp_region_sp 9 78 [SP.eq (.pointer (some ⟨b, 0, none⟩)), SP.eq (.slice A ks.length cap), SP.no (b + 2) (fun z => S z ∧ z < b) ks, SP.eq (.pointer (some ⟨b, 1, none⟩)), SP.eq (.int .i64 y), SP.eq (.pointer (some ⟨b, 2, none⟩)), SP.eq (.int .i64 m), SP.nd (b + 2) (fun z => S z ∧ z < b) ks y m, SP.bx (b + 2) (.cells #[.slice none 0 0, .int .i64 0, .int .i64 0] 26 (0, 0))] (by kernel_rfl) (by kernel_rfl) rfl ?_
    simp only [List.take_succ_cons, List.take_zero, List.drop_succ_cons, List.drop_zero]
    refine relWalk_cons (fun x hC hd K hK => ?_) (fun v0 => ?_)
    · go_simp
      exact hK _ _ hC (Below.refl _ _) rfl
    simp only [Act.put, List.setIfInBounds_toArray, List.set_cons_zero, List.set_cons_succ]
    refine relWalk_cons (fun x hC hd K hK => ?_) (fun v1 => ?_)
    · obtain rfl : v0 = _ := hd 0 (by kernel_rfl)
      have hcell := (hC.cell (p := ⟨b, _, none⟩) lX).trans x0
      go_simp
      exact hK _ _ hC (Below.refl _ _) rfl
    simp only [Act.put, List.setIfInBounds_toArray, List.set_cons_zero, List.set_cons_succ]
    refine relWalk_cons (fun x hC hd K hK => ?_) (fun v2 => ?_)
    · obtain rfl : v1 = _ := hd 1 (by kernel_rfl)
      by_cases hne : ks = []
      · subst hne
        rw [show ([] : List T).length = 0 from rfl]
        refine wp_append_empty _ _ rfl A cap rfl rfl ?_
        exact hK _ _ hC (Below.refl _ _) ⟨[], NO.nil _ _ _, fun _ => rfl⟩
      · obtain ⟨p, o, xs, rfl, hnl, hcs⟩ := (HKW.out.step hC).row hne
        have hkl : 0 < ks.length := List.length_pos_iff.2 hne
        refine wp_append_lies x _ _ 24 rfl (b + 2) 26 i0 _ 3 40 Try.underlying24 hi hz0 hz1 hz2 rfl (by omega) (.slice none 0 0) 0 [] rfl (World.ownsRow_nil _ _ _ _) ⟨p, o, none⟩ ks.length cap xs rfl hnl.len hcs hnl.one hkl (by unfold maxLen; omega) (by omega) (by have := hC.size; omega) _ rfl ?_
        intro gg cap3 w3 hown hg hat hlt
        have hb3 : Below x.heap.size x w3 := ⟨hg.os, hg.tape, hg.output, hg.size, fun k hk => hg.block k hk (by simp [Value.ownBlock])⟩
        simp only [Nat.zero_add, List.nil_append] at hown
        have hgb := (hown.lt gg rfl).1
        refine hK _ _ (bl_step hC hb3) hb3 ⟨xs, ⟨by rw [Nat.zero_add]; exact hown, (hnl.step hb3).kept (Nat.le_refl _) (fun _ _ _ => rfl) fun z _ hz => ⟨hz, fun e => by simp only [Value.ownBlock, Option.some.injEq] at e; have := hz.2; omega⟩⟩, fun e => absurd e hne⟩
    simp only [Act.put, List.setIfInBounds_toArray, List.set_cons_zero, List.set_cons_succ]
    refine relWalk_cons (fun x hC hd K hK => ?_) (fun v3 => ?_)
    · go_simp
      exact hK _ _ hC (Below.refl _ _) rfl
    simp only [Act.put, List.setIfInBounds_toArray, List.set_cons_zero, List.set_cons_succ]
    refine relWalk_cons (fun x hC hd K hK => ?_) (fun v4 => ?_)
    · obtain rfl : v3 = _ := hd 3 (by kernel_rfl)
      have hcell := (hC.cell (p := ⟨b, _, none⟩) lX).trans x1
      go_simp
      exact hK _ _ hC (Below.refl _ _) rfl
    simp only [Act.put, List.setIfInBounds_toArray, List.set_cons_zero, List.set_cons_succ]
    refine relWalk_cons (fun x hC hd K hK => ?_) (fun v5 => ?_)
    · go_simp
      exact hK _ _ hC (Below.refl _ _) rfl
    simp only [Act.put, List.setIfInBounds_toArray, List.set_cons_zero, List.set_cons_succ]
    refine relWalk_cons (fun x hC hd K hK => ?_) (fun v6 => ?_)
    · obtain rfl : v5 = _ := hd 5 (by kernel_rfl)
      have hcell := (hC.cell (p := ⟨b, _, none⟩) lX).trans x2
      go_simp
      exact hK _ _ hC (Below.refl _ _) rfl
    simp only [Act.put, List.setIfInBounds_toArray, List.set_cons_zero, List.set_cons_succ]
    refine relWalk_cons (fun x hC hd K hK => ?_) (fun v7 => ?_)
    · obtain ⟨xs, hno, hn0⟩ := hd 2 (by kernel_rfl)
      obtain rfl : v4 = _ := hd 4 (by kernel_rfl)
      obtain rfl : v6 = _ := hd 6 (by kernel_rfl)
      obtain ⟨A3, c3, rfl⟩ := own_slice hno.1
      have HNO := Lib.hid hno
      have HN0 := Lib.hid hn0
      clear hno hn0
      go_simp
      exact hK _ _ hC (Below.refl _ _) ⟨_, xs, rfl, HNO.out, HN0.out⟩
    simp only [Act.put, List.setIfInBounds_toArray, List.set_cons_zero, List.set_cons_succ]
    refine relWalk_cons (fun x hC hd K hK => ?_) (fun v8 => ?_)
    · go_simp
      exact hK _ _ (bl_alloc hC _) ((Below.refl _ _).alloc (Nat.le_refl _) _) ⟨_, rfl, by have := hC.size; omega, heap_alloc_new _ _⟩
    simp only [Act.put, List.setIfInBounds_toArray, List.set_cons_zero, List.set_cons_succ]
    refine relWalk_nil ?_
    intro x hC hG
    obtain ⟨u, xs, e7, hno, hn0⟩ := hG 7 (by omega)
    obtain rfl : v7 = _ := e7
    obtain ⟨Z, e8, hZ1, hZ⟩ := hG 8 (by omega)
    obtain rfl : v8 = _ := e8
    obtain ⟨A3, c3, rfl⟩ := own_slice hno.1
    have HC := Lib.hid hC
    have HZ := Lib.hid hZ
    have HNO := Lib.hid hno
    have HN0 := Lib.hid hn0
    clear hG hC hZ hno hn0
    go_wp2_with (refine wpList_store_rowTo rfl 26 (.tmp 7) (.tmp 16) rfl rfl (Z) #[.slice A3 ks.length c3, .int .i64 y, .int .i64 m] rfl rfl 26 _ (HZ.out) node_size rfl (node_one _ _ _ _ _) ?_)
    go_meet
    case rel =>
      have hown := HNO.out.1
      have hne : (Value.slice A3 ks.length c3).ownBlock ≠ some Z := own_ne_box HNO.out HN0.out hn1 HZ.out
      refine ⟨Z, .slice A3 ks.length c3, xs, by rw [HBe.out], rfl, by omega, setRow_heap _ _ _ _ _ _ HZ.out, hne, ⟨own_gb' HNO.out.1 (gb_setRow _ _ _) (fun k hk e => hne (by rw [hk, e])), HNO.out.2.kept (by simp [World.setRow]) (fun z hz _ => setRow_other _ _ _ _ (by have := hz.1.2; omega)) fun z _ hz => ⟨⟨hz.1.1, by have := hz.1.2; omega, by have := hz.1.2; omega⟩, hz.2⟩⟩, (setRow_other _ _ _ _ (by omega)).trans (bk_step HR0.out HC.out), bl_setRow (bl_step HW0.out HC.out) (by have := HBe.out; omega) _⟩
  case rest =>
    clear HX0 HR0 HW0 HK
    obtain ⟨Z, u, xs, rfl, rfl, hbZ, hZ, hne, hno, hR, hW⟩ := hcut
    obtain ⟨A3, c3, rfl⟩ := own_slice hno.1
    have HZ := Lib.hid hZ
    have HNE := Lib.hid hne
    have HNO := Lib.hid hno
    have HR := Lib.hid hR
    have HW := Lib.hid hW
    clear hZ hne hno hR hW
    obtain ⟨W, hWe⟩ : ∃ W : World, W = wc := ⟨_, rfl⟩
    subst hWe
    have x0 := cells_at HZ.out 0; have x1 := cells_at HZ.out 1; have x2 := cells_at HZ.out 2; simp only [List.getElem?_toArray, List.getElem?_cons_zero, List.getElem?_cons_succ] at x0 x1 x2
    go_upto_region 2 with fail
    go_cut [25] (fun s25 wx => ∃ t, s25 = .bool t ∧ (t = true → 0 < ks.length) ∧ W = wx)
    case first =>
      have h3 := fun w => cut_w at_ 3 w (by omega) (by omega)
      by_cases h0 : 0 < ks.length
      · have k0 : (0 : Int) < (ks.length : Int) := by omega
        go_wp2_with (go_at_call 28; (with_reducible refine Calls.mono (h3 _) ?_); rintro e w1 ⟨rfl, rfl⟩)
        go_meet
        case rel => exact ⟨_, rfl, fun _ => h0, rfl⟩
      · have h00 : ks.length = 0 := by omega
        rw [h00] at x0
        go_wp2
        go_meet
        case rel => exact ⟨_, rfl, fun e => (by cases e), rfl⟩
    case rest =>
      obtain ⟨t, rfl, ht, rfl⟩ := hcut
      cases t with
      | true =>
        have hpos := ht rfl
        clear ht
        have hcl := fun x w => cut_w x (ks.length : Int) w (by omega) (by omega)
        go_upto_region 3 with fail
        go_cut [8] (fun s8 wx => ∃ j : Nat, s8 = .int .i64 (j : Int) ∧ j < ks.length ∧ W = wx)
        case first =>
          go_wp2_with (go_at_call 28; (with_reducible refine Calls.mono (hcl _ _) ?_); rintro e w1 ⟨rfl, rfl⟩)
          go_meet
          case rel =>
            generalize wrap64 (at_.tdiv 3) = q
            obtain ⟨q1, q2⟩ := cutI_range q (ks.length : Int) (by omega)
            generalize cutI q (ks.length : Int) = z at q1 q2 ⊢
            obtain ⟨j, rfl⟩ : ∃ j : Nat, z = (j : Int) := ⟨z.toNat, by omega⟩
            exact ⟨j, rfl, by omega, rfl⟩
        case rest =>
          obtain ⟨j, rfl, hj, rfl⟩ := hcut
          obtain ⟨G, rfl, hG2, hGl, hcs⟩ := HNO.out.cells hpos
          obtain ⟨k, hkj⟩ : ∃ k, ks[j]? = some k := ⟨_, List.getElem?_eq_getElem hj⟩
          obtain ⟨A', cap', c0, c1, c2, hkm, hkc, hkk⟩ := HNO.out.2.get hkj
          have hxl := HNO.out.2.len
          have y0 := (hcs (j * 3) (by omega)).trans c0
          have y1 := (hcs (j * 3 + 1) (by omega)).trans c1
          have y2 := (hcs (j * 3 + 2) (by omega)).trans c2
          have HKK := Lib.hid hkk
          have HKJ := Lib.hid hkj
          have lZ := bk_lt HZ.out
          have hGZ : G ≠ Z := fun e => HNE.out (by rw [e]; rfl)
          have HGZ := Lib.hid hGZ
          clear hcl hcs c0 c1 c2 hkk hkj hGZ
          go_wp2_with fail
          refine wp_region_sp 13 78 [SP.eq (.pointer (some ⟨Z, 0, none⟩)), SP.eq (.slice (some ⟨G, 0, none⟩) ks.length c3), SP.eq (.int .i64 j), SP.eq (.pointer (some ⟨Z, 0, none⟩)), SP.eq (.slice (some ⟨G, 0, none⟩) ks.length c3), SP.eq (.int .i64 j), SP.eq (.pointer (some ⟨G, j * 3, none⟩)), SP.eq (ndV A' k.kids.length cap' k.val k.marks), SP.eq (.int .i64 at_), SP.ix, SP.eq (.int .i64 by_), SP.nk (fun z => (S z ∧ z ≠ b + 1 ∧ z ≠ Z) ∧ z ≠ G), SP.eq (.pointer (some ⟨G, j * 3, none⟩))] (by kernel_rfl) (by kernel_rfl) rfl ?_
          simp only [List.take_succ_cons, List.take_zero, List.drop_succ_cons, List.drop_zero]
          refine relWalk_cons (fun x hC hd K hK => ?_) (fun v0 => ?_)
          · go_simp
            exact hK _ _ hC (Below.refl _ _) rfl
          simp only [Act.put, List.setIfInBounds_toArray, List.set_cons_zero, List.set_cons_succ]
          refine relWalk_cons (fun x hC hd K hK => ?_) (fun v1 => ?_)
          · obtain rfl : v0 = _ := hd 0 (by kernel_rfl)
            have hcell := (hC.cell (p := ⟨Z, _, none⟩) lZ).trans x0
            go_simp
            exact hK _ _ hC (Below.refl _ _) rfl
          simp only [Act.put, List.setIfInBounds_toArray, List.set_cons_zero, List.set_cons_succ]
          refine relWalk_cons (fun x hC hd K hK => ?_) (fun v2 => ?_)
          · go_simp
            exact hK _ _ hC (Below.refl _ _) rfl
          simp only [Act.put, List.setIfInBounds_toArray, List.set_cons_zero, List.set_cons_succ]
          refine relWalk_cons (fun x hC hd K hK => ?_) (fun v3 => ?_)
          · go_simp
            exact hK _ _ hC (Below.refl _ _) rfl
          simp only [Act.put, List.setIfInBounds_toArray, List.set_cons_zero, List.set_cons_succ]
          refine relWalk_cons (fun x hC hd K hK => ?_) (fun v4 => ?_)
          · obtain rfl : v3 = _ := hd 3 (by kernel_rfl)
            have hcell := (hC.cell (p := ⟨Z, _, none⟩) lZ).trans x0
            go_simp
            exact hK _ _ hC (Below.refl _ _) rfl
          simp only [Act.put, List.setIfInBounds_toArray, List.set_cons_zero, List.set_cons_succ]
          refine relWalk_cons (fun x hC hd K hK => ?_) (fun v5 => ?_)
          · go_simp
            exact hK _ _ hC (Below.refl _ _) rfl
          simp only [Act.put, List.setIfInBounds_toArray, List.set_cons_zero, List.set_cons_succ]
          refine relWalk_cons (fun x hC hd K hK => ?_) (fun v6 => ?_)
          · obtain rfl : v4 = _ := hd 4 (by kernel_rfl)
            obtain rfl : v5 = _ := hd 5 (by kernel_rfl)
            go_simp
            exact hK _ _ hC (Below.refl _ _) rfl
          simp only [Act.put, List.setIfInBounds_toArray, List.set_cons_zero, List.set_cons_succ]
          refine relWalk_cons (fun x hC hd K hK => ?_) (fun v7 => ?_)
          · obtain rfl : v6 = _ := hd 6 (by kernel_rfl)
            have q0 := (hC.cell (p := ⟨G, _, none⟩) hGl).trans y0
            have q1 := (hC.cell (p := ⟨G, _, none⟩) hGl).trans y1
            have q2 := (hC.cell (p := ⟨G, _, none⟩) hGl).trans y2
            go_simp
            exact hK _ _ hC (Below.refl _ _) rfl
          simp only [Act.put, List.setIfInBounds_toArray, List.set_cons_zero, List.set_cons_succ]
          refine relWalk_cons (fun x hC hd K hK => ?_) (fun v8 => ?_)
          · go_simp
            exact hK _ _ hC (Below.refl _ _) rfl
          simp only [Act.put, List.setIfInBounds_toArray, List.set_cons_zero, List.set_cons_succ]
          refine relWalk_cons (fun x hC hd K hK => ?_) (fun v9 => ?_)
          · obtain rfl : v8 = _ := hd 8 (by kernel_rfl)
            go_simp
            exact hK _ _ hC (Below.refl _ _) ⟨_, rfl⟩
          simp only [Act.put, List.setIfInBounds_toArray, List.set_cons_zero, List.set_cons_succ]
          refine relWalk_cons (fun x hC hd K hK => ?_) (fun v10 => ?_)
          · go_simp
            exact hK _ _ hC (Below.refl _ _) rfl
          simp only [Act.put, List.setIfInBounds_toArray, List.set_cons_zero, List.set_cons_succ]
          refine relWalk_cons (fun x hC hd K hK => ?_) (fun v11 => ?_)
          · obtain rfl : v7 = _ := hd 7 (by kernel_rfl)
            obtain ⟨q9, e9⟩ := hd 9 (by kernel_rfl)
            obtain rfl : v9 = _ := e9
            obtain rfl : v10 = _ := hd 10 (by kernel_rfl)
            go_simp
            go_at_call 39
            refine (HKID.out j k HKJ.out x (bl_step HW.out hC) A' cap' q9 by_ (fun z => (S z ∧ z ≠ b + 1 ∧ z ≠ Z) ∧ z ≠ G) ((HKK.out.step hC).weak fun z _ hz => ⟨hz.1, fun e => hz.2 (by rw [e]; rfl)⟩) hkc (fun z hz => ⟨⟨HSS.out z (by have := hC.size; have := HBe.out; omega), by have := hC.size; omega, by have := hC.size; omega⟩, by have := hC.size; omega⟩)).mono ?_
            rintro e w1 ⟨t, A2, cap2, rfl, hl2, hc2, hk2, hb1⟩
            exact hK _ _ (bl_step hC hb1) hb1 ⟨t, A2, cap2, rfl, hl2, hc2, hk2⟩
          simp only [Act.put, List.setIfInBounds_toArray, List.set_cons_zero, List.set_cons_succ]
          refine relWalk_cons (fun x hC hd K hK => ?_) (fun v12 => ?_)
          · obtain rfl : v1 = _ := hd 1 (by kernel_rfl)
            obtain rfl : v2 = _ := hd 2 (by kernel_rfl)
            go_simp
            exact hK _ _ hC (Below.refl _ _) rfl
          simp only [Act.put, List.setIfInBounds_toArray, List.set_cons_zero, List.set_cons_succ]
          refine relWalk_nil ?_
          intro x hC hG
          obtain ⟨t, A2, cap2, e11, hl2, hc2, hk2⟩ := hG 11 (by omega)
          obtain rfl : v11 = _ := e11
          obtain rfl : v12 = _ := hG 12 (by omega)
          have hput := (HNO.out.step hC).put hj t A2 cap2 (by unfold maxLen; omega) hc2 hk2
          have HP := Lib.hid hput.1
          have hth := hput.2
          have HZ1 := Lib.hid ((heap_setCells G [.slice A2 t.kids.length cap2, .int .i64 t.val, .int .i64 t.marks] (j * 3) x Z (HGZ.out ∘ Eq.symm)).trans (bk_step HZ.out hC))
          have HR1 := Lib.hid ((heap_setCells G [.slice A2 t.kids.length cap2, .int .i64 t.val, .int .i64 t.marks] (j * 3) x (b + 1) (by omega)).trans (bk_step HR.out hC))
          have HB1 := Lib.hid (bl_setCells (bl_step HW.out hC) (by have := HBe.out; omega : w.heap.size ≤ G) (j * 3) [.slice A2 t.kids.length cap2, .int .i64 t.val, .int .i64 t.marks])
          clear hput hk2 hG hC x0 x1 x2 y0 y1 y2
          have x0 := cells_at HZ1.out 0; have x1 := cells_at HZ1.out 1; have x2 := cells_at HZ1.out 2; simp only [List.getElem?_toArray, List.getElem?_cons_zero, List.getElem?_cons_succ] at x0 x1 x2
          go_wp2_with (first | (refine wpList_store_mid rfl 26 (.tmp 44) (.tmp 43) rfl G (j * 3) #[.slice A2 t.kids.length cap2, .int .i64 t.val, .int .i64 t.marks] rfl rfl (hth) node_size (node_one _ _ _ _ _) ?_) | (refine wpList_store_rowTo rfl 26 (.tmp 6) (.tmp 45) rfl rfl (b + 1) #[.slice (some ⟨G, 0, none⟩) ks.length c3, .int .i64 y, .int .i64 m] rfl rfl 26 _ (HR1.out) node_size rfl (node_one _ _ _ _ _) ?_))
          show bodyPost Try.prog Try.f39 _ _ _ _
          refine bodyPost_ret (node_res rfl _ _ (b + 1) _ _ _ _ _ rfl (setRow_heap _ _ _ _ _ _ HR1.out)) rfl ?_
          have hnk := HP.out.nk' (S' := fun z => S z ∧ z ≠ b + 1 ∧ z ≠ Z) (fun z hz => hz) (fun g hg => by
            simp only [Value.ownBlock, Option.some.injEq] at hg
            subst hg
            exact ⟨HSS.out _ (by have := HBe.out; omega), by omega, HGZ.out⟩)
          rw [List.length_set] at hnk
          obtain ⟨A', cap', e, hc', hk'⟩ := hnk
          injection e with e1 e2 e3
          subst e1 e3
          have hF : FS w b Z S (.mk (ks.set j t) y m) (some ⟨G, 0, none⟩) c3 _ := ⟨by rw [HZ1.out]; simp [T.kids, T.val, T.marks], by simp [T.kids]; omega, by simpa [T.kids] using hc', hk', HR1.out, hbZ, HB1.out⟩
          have := hF.ret HBe.out.symm
          simpa [T.kids, T.val, T.marks] using this
      | false =>
        clear ht
        have h5 := fun w => cut_w by_ 5 w (by omega) (by omega)
        have ⟨q0, q1⟩ := cutI_range by_ 5 (by omega)
        generalize cutI by_ 5 = q at h5 q0 q1
        have hF0 : FS w b Z S (.mk ks y m) A3 c3 W := by
          have hno := HNO.out
          obtain ⟨A', cap', e, hc', hk'⟩ := hno.nk' (S' := fun z => S z ∧ z ≠ b + 1 ∧ z ≠ Z) (fun z hz => hz) (fun g hg => by
            have := (hno.1.lt g hg).1
            exact ⟨HSS.out g (by have := HBe.out; omega), by omega, fun e => HNE.out (by rw [hg, e])⟩)
          injection e with e1 e2 e3
          subst e1 e3
          exact ⟨HZ.out, by show ks.length ≤ 1001; omega, hc', hk', HR.out, hbZ, HW.out⟩
        have HF0 := Lib.hid hF0
        clear hF0
        go_upto_block 0 with (go_at_call 28; (with_reducible refine Calls.mono (h5 _) ?_); rintro e w1 ⟨rfl, rfl⟩)
        go_cut [] (fun wx => ∃ t A c, FS w b Z S t A c wx)
        case first =>
          have h5b := fun x w => cut_w x 5 w (by omega) (by omega)
          have h10 := fun x w => cut_w x 10 w (by omega) (by omega)
          have e0 := free_at HZ.out 0
          have e1 := free_at HZ.out 1
          have e2 := free_at HZ.out 2
          have hbw := HBe.out
          have hcases : q = 0 ∨ q = 1 ∨ q = 2 ∨ q = 3 ∨ q = 4 := by omega
          clear q0 q1 hbw
          rcases hcases with rfl | rfl | rfl | rfl | rfl
          · go_wp2_with (go_at_call 28; (with_reducible refine Calls.mono (h5b _ _) ?_); rintro e w1 ⟨rfl, rfl⟩)
            go_meet
            case rel => exact ⟨_, A3, c3, HF0.out.set1 HBe.out.symm _⟩
          · go_wp2_with (go_at_call 28; (with_reducible refine Calls.mono (h10 _ _) ?_); rintro e w1 ⟨rfl, rfl⟩)
            go_meet
            case rel => exact ⟨_, A3, c3, HF0.out.set2 HBe.out.symm _⟩
          · obtain ⟨i0, hi, hz0, hz1, hz2⟩ := info_parts node_info
            have lZ := bk_lt HZ.out
            have lW := HW.out.size
            have lR := bk_lt HR.out
            have hno2 := HNO.out.alloc (.cells #[.slice none 0 0, .int .i64 0, .int .i64 0] 26)
            have HNO2 := Lib.hid hno2
            have hnZ := Lib.hid (fun g (hg : (Value.slice A3 ks.length c3).ownBlock = some g) => (⟨(HNO.out.1.lt g hg).1, fun e => HNE.out (by rw [hg, e])⟩ : b + 2 ≤ g ∧ g ≠ Z))
            clear hno2
            go_wp2_with (at_builtin; go_must (refine wpList_append_lies _ rfl (.tmp 65) (.tmp 67) 24 rfl (b + 2) 26 i0 _ 3 40 Try.underlying24 hi hz0 hz1 hz2 rfl (by omega) (.slice A3 ks.length c3) ks.length xs rfl HNO2.out.1 ⟨_, 0, none⟩ 1 1 [.slice none 0 0, .int .i64 0, .int .i64 0] rfl rfl (World.news_of_block (heap_alloc_new _ _)) (by simp [Value.oneCell']) (by omega) (by unfold maxLen; omega) (by omega) (by simp; have := HBe.out; omega) _ rfl ?_); intro gg cap4 w4 hown4 hg4 hat4 hlt4; go_must (have HX4 := Lib.hid ((hg4.block Z (by simp; omega) (fun e => (hnZ.out Z e.symm).2 rfl)).trans (bk_alloc HZ.out _))); have f0 := free_at HX4.out 0; have x0 := cells_at HX4.out 0; simp only [List.getElem?_toArray, List.getElem?_cons_zero] at x0)
            go_meet
            case rel =>
              have hsn := HNO2.out.snoc (k := .nil) none 0 (by simp [T.nil, T.kids]) (by simp [T.nil, T.kids]) (.nil _) hown4 hg4 hat4
              obtain ⟨A', cap', e, hc', hk'⟩ := hsn.nk' (S' := fun z => S z ∧ z ≠ b + 1 ∧ z ≠ Z) (fun z hz => hz) (fun g hg => by
                simp only [Value.ownBlock, Option.some.injEq] at hg
                subst hg
                rcases hat4 with h | h
                · have := hnZ.out _ h
                  exact ⟨HSS.out _ (by have := HBe.out; omega), by omega, this.2⟩
                · simp at h
                  exact ⟨HSS.out _ (by omega), by omega, by omega⟩)
              injection e with e1 e2 e3
              subst e1 e3
              exact ⟨_, _, _, FS.of0 HX4.out ((hg4.block (b + 1) (by simp; omega) (fun e => by have := (hnZ.out _ e.symm).1; omega)).trans (bk_alloc HR.out _)) HF0.out.lt ((bl_alloc HW.out _).grown hg4 (by simp; omega) (fun z hz => by have := (hnZ.out z hz).1; have := HBe.out; omega)) HBe.out.symm (by simp) (by omega) (by simpa using hc') hk'⟩
          · go_wp2
            go_meet
            case rel => exact ⟨_, none, 0, HF0.out.set0 HBe.out.symm (ks' := []) rfl (by omega) (by omega) (.nil _)⟩
          · have hmk : ∀ w, (Instr.makeSlice 24 (.int .i64 4) (.int .i64 4)).run Try.prog w = .ok (.slice (some ⟨w.heap.size, 0, none⟩) 4 4) (w.alloc (.cells #[.slice none 0 0, .int .i64 0, .int .i64 0, .slice none 0 0, .int .i64 0, .int .i64 0, .slice none 0 0, .int .i64 0, .int .i64 0, .slice none 0 0, .int .i64 0, .int .i64 0] 26)) := fun _ => by kernel_rfl
            have lZ := bk_lt HZ.out
            have lW := HW.out.size
            go_wp2
            go_meet
            case rel =>
              have hk := (KR.new (S := fun z => S z ∧ z ≠ b + 1 ∧ z ≠ Z) (heap_alloc_new W (.cells #[.slice none 0 0, .int .i64 0, .int .i64 0, .slice none 0 0, .int .i64 0, .int .i64 0, .slice none 0 0, .int .i64 0, .int .i64 0, .slice none 0 0, .int .i64 0, .int .i64 0] 26))).nk (S' := fun z => S z ∧ z ≠ b + 1 ∧ z ≠ Z) ⟨HSS.out _ (by omega), by omega, by omega⟩ (fun _ h => h)
              rw [← set_alloc _ _ _ _ lZ]
              exact ⟨_, some ⟨W.heap.size, 0, none⟩, 4, (HF0.out.step (bl_alloc (Below.refl _ _) _)).set0 HBe.out.symm (ks' := (List.range 4).map fun _ => .nil) (by simp) (by omega) (by omega) hk⟩
        case rest =>
          obtain ⟨t, A, c, hF⟩ := hcut
          have HF := Lib.hid hF
          clear hF x0 x1 x2
          have x0 := cells_at HF.out.z 0; have x1 := cells_at HF.out.z 1; have x2 := cells_at HF.out.z 2; simp only [List.getElem?_toArray, List.getElem?_cons_zero, List.getElem?_cons_succ] at x0 x1 x2
          go_wp2_with (refine wpList_store_rowTo rfl 26 (.tmp 6) (.tmp 77) rfl rfl (b + 1) #[.slice A t.kids.length c, .int .i64 t.val, .int .i64 t.marks] rfl rfl 26 _ (HF.out.r) node_size rfl (node_one _ _ _ _ _) ?_)
          show bodyPost Try.prog Try.f39 _ _ _ _
          exact bodyPost_ret (node_res rfl _ _ (b + 1) _ _ _ _ _ rfl (setRow_heap _ _ _ _ _ _ HF.out.r)) rfl (HF.out.ret HBe.out.symm)

end Go.Proofs.Ytpoagdffpajdjaa
