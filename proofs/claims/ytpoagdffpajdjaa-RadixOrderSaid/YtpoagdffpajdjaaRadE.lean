/-
  Entries of a tree: plain lists, and how they lie in memory.
-/
import Derived.Test.YtpoagdffpajdjaaRad9
namespace Go.Proofs.Ytpoagdffpajdjaa
open Go.RowKit
set_option linter.unusedVariables false
set_option linter.unusedSimpArgs false

/-- An entry: index, value, marks. -/
abbrev En := Int × Int × Int
def ens : List En → List Value
  | [] => []
  | (i, v, m) :: l => .int .i64 i :: .int .i64 v :: .int .i64 m :: ens l
theorem ens_app (l l' : List En) : ens (l ++ l') = ens l ++ ens l' := by
  induction l with
  | nil => rfl
  | cons a l ih => obtain ⟨x, y, z⟩ := a; simp [ens, ih]
theorem ens_len (l : List En) : (ens l).length = l.length * 3 := by
  induction l with
  | nil => rfl
  | cons a l ih => obtain ⟨x, y, z⟩ := a; simp [ens, ih]; omega
theorem ens_one (l : List En) : ∀ u ∈ ens l, u.oneCell' = true := by
  induction l with
  | nil => intro u hu; simp [ens] at hu
  | cons a l ih =>
    obtain ⟨x, y, z⟩ := a
    intro u hu
    simp only [ens, List.mem_cons] at hu
    rcases hu with rfl | rfl | rfl | hu
    · rfl
    · rfl
    · rfl
    · exact ih u hu
theorem ens_get : ∀ (l : List En) (i : Nat) (d s c : Int), l[i]? = some (d, s, c) → (ens l)[i * 3]? = some (.int .i64 d) ∧ (ens l)[i * 3 + 1]? = some (.int .i64 s) ∧ (ens l)[i * 3 + 2]? = some (.int .i64 c)
  | [], i, d, s, c, h => by simp at h
  | (x, y, z) :: l, 0, d, s, c, h => by simp at h; obtain ⟨rfl, rfl, rfl⟩ := h; simp [ens]
  | (x, y, z) :: l, i + 1, d, s, c, h => by
    have h1 := ens_get l i d s c (by simpa using h)
    rw [show (i + 1) * 3 = i * 3 + 3 from by omega, show i * 3 + 3 + 1 = i * 3 + 1 + 3 from by omega, show i * 3 + 3 + 2 = i * 3 + 2 + 3 from by omega]
    simpa [ens] using h1
/-- A slice of entries lies in memory, in a block of S. -/
def EA (w : World) (S : Nat → Prop) (v : Value) (l : List En) : Prop :=
  ∃ A cap, v = .slice A l.length cap ∧ l.length ≤ cap ∧ cap ≤ maxLen ∧ (l = [] ∨ ∃ b o, A = some ⟨b, o, none⟩ ∧ b < w.heap.size ∧ S b ∧ ∀ i d s c, l[i]? = some (d, s, c) →
    w.cell? ⟨b, o + i * 3, none⟩ = some (.int .i64 d) ∧ w.cell? ⟨b, o + i * 3 + 1, none⟩ = some (.int .i64 s) ∧ w.cell? ⟨b, o + i * 3 + 2, none⟩ = some (.int .i64 c))
theorem EA.kept {w w' : World} {S : Nat → Prop} {v : Value} {l : List En} (h : EA w S v l) (hs : w.heap.size ≤ w'.heap.size) (hb : ∀ b, S b → b < w.heap.size → w'.heap[b]? = w.heap[b]?) : EA w' S v l := by
  obtain ⟨A, cap, e, hc, hm, h⟩ := h
  refine ⟨A, cap, e, hc, hm, ?_⟩
  rcases h with h | ⟨b, o, h1, h2, h0, h3⟩
  · exact .inl h
  · refine .inr ⟨b, o, h1, by omega, h0, fun i d s c hi => ?_⟩
    obtain ⟨c0, c1, c2⟩ := h3 i d s c hi
    exact ⟨(World.cell?_of_block (a := ⟨b, _, none⟩) (hb b h0 h2)).trans c0, (World.cell?_of_block (a := ⟨b, _, none⟩) (hb b h0 h2)).trans c1, (World.cell?_of_block (a := ⟨b, _, none⟩) (hb b h0 h2)).trans c2⟩
theorem EA.step {w w' : World} {S : Nat → Prop} {v : Value} {l : List En} (h : EA w S v l) (hb : Below w.heap.size w w') : EA w' S v l := h.kept hb.size fun b _ hlt => hb.block b hlt
theorem EA.weak {w : World} {S S' : Nat → Prop} {v : Value} {l : List En} (h : EA w S v l) (hs : ∀ b, b < w.heap.size → S b → S' b) : EA w S' v l := by
  obtain ⟨A, cap, e, hc, hm, h⟩ := h
  refine ⟨A, cap, e, hc, hm, ?_⟩
  rcases h with h | ⟨b, o, h1, h2, h0, h3⟩
  · exact .inl h
  · exact .inr ⟨b, o, h1, h2, hs b h2 h0, h3⟩
theorem EA.of_own {w : World} {base : Nat} {v : Value} {l : List En} {t : TypeId} {S : Nat → Prop} (h : w.ownsRow base t 3 v l.length (ens l)) (hS : ∀ b, v.ownBlock = some b → S b) : EA w S v l := by
  rcases h.2 with ⟨h1, h2⟩ | ⟨g, cap, cur, h1, h2, h3, h4, h5, h6, h7⟩
  · exact ⟨none, 0, by rw [h1, h2], by omega, by unfold maxLen; omega, .inl (List.eq_nil_of_length_eq_zero h2)⟩
  · refine ⟨_, cap, h1, h4, h5, .inr ⟨g, 0, rfl, bk_lt h3, hS g (by rw [h1]; rfl), fun i d s c hi => ?_⟩⟩
    have hil : i < l.length := (List.getElem?_eq_some_iff.1 hi).1
    obtain ⟨x0, x1, x2⟩ := ens_get l i d s c hi
    have hx : ∀ j, j < l.length * 3 → w.cell? ⟨g, j, none⟩ = (ens l)[j]? := fun j hj => by
      rw [← h7, List.getElem?_take, if_pos hj]
      simp [World.cell?, h3]
    rw [Nat.zero_add]
    exact ⟨(hx _ (by omega)).trans x0, (hx _ (by omega)).trans x1, (hx _ (by omega)).trans x2⟩
theorem EA.at_ {w : World} {S : Nat → Prop} {v : Value} {l : List En} (h : EA w S v l) {i : Nat} (hi : i < l.length) : ∃ b o cap d s c, v = .slice (some ⟨b, o, none⟩) l.length cap ∧ l.length ≤ cap ∧ cap ≤ maxLen ∧ b < w.heap.size ∧ l[i]? = some (d, s, c) ∧
    w.cell? ⟨b, o + i * 3, none⟩ = some (.int .i64 d) ∧ w.cell? ⟨b, o + i * 3 + 1, none⟩ = some (.int .i64 s) ∧ w.cell? ⟨b, o + i * 3 + 2, none⟩ = some (.int .i64 c) := by
  obtain ⟨A, cap, e, hc, hm, h⟩ := h
  rcases h with h | ⟨b, o, h1, h2, h0, h3⟩
  · subst h; simp at hi
  · subst h1
    have he : l[i]? = some l[i] := List.getElem?_eq_getElem hi
    obtain ⟨c0, c1, c2⟩ := h3 i _ _ _ he
    exact ⟨b, o, cap, _, _, _, e, hc, hm, h2, he, c0, c1, c2⟩
theorem EA.nil (w : World) (S : Nat → Prop) : EA w S (.slice none 0 0) [] := ⟨none, 0, rfl, by simp, by unfold maxLen; omega, .inl rfl⟩
theorem entry_info : (Try.prog.info? 48).map (fun i => (i.zero, i.size, i.bytes)) = some (some (.agg #[.int .i64 0, .int .i64 0, .int .i64 0]), 3, 24) := by kernel_rfl

/-- The entries among the first n indices. -/
def ents (base n : Nat) (c : Cn) : List En := (List.range n).filterMap fun j => if c j = (0, 0) then none else some (((base + j : Nat) : Int), (c j).1, (c j).2)
theorem ents_add (base a b : Nat) (c : Cn) : ents base (a + b) c = ents base a c ++ ents (base + a) b (sh c a) := by
  unfold ents
  rw [List.range_add, List.filterMap_append, List.filterMap_map]
  congr 1
  refine congrArg (fun f => List.filterMap f (List.range b)) (funext fun j => ?_)
  simp only [Function.comp, sh, Nat.add_assoc]
theorem ents_zero (base : Nat) (c : Cn) : ents base 0 c = [] := rfl
theorem ents_none {base n : Nat} {c : Cn} (h : noneB n c = true) : ents base n c = [] := by
  unfold ents
  rw [List.filterMap_eq_nil_iff]
  intro j hj
  rw [if_pos (noneB_true.1 h j (List.mem_range.1 hj))]
theorem ents_len (base n : Nat) (c : Cn) : (ents base n c).length ≤ n := by
  unfold ents
  have := List.length_filterMap_le (fun j => if c j = (0, 0) then none else some (((base + j : Nat) : Int), (c j).1, (c j).2)) (List.range n)
  simpa using this
theorem ents_one {base : Nat} {c : Cn} (h : noneB 1 c = false) : ents base 1 c = [((base : Int), (c 0).1, (c 0).2)] := by
  obtain ⟨i, hi, hne⟩ := noneB_false.1 h
  obtain rfl : i = 0 := by omega
  unfold ents
  simp [hne]
/-- The entries of the first k kids. -/
def entK (base p k : Nat) (c : Cn) : List En := ents base (k * p) c
theorem entK_succ (base p k : Nat) (c : Cn) : ents base ((k + 1) * p) c = ents base (k * p) c ++ ents (base + k * p) p (sh c (k * p)) := by
  rw [Nat.add_mul, Nat.one_mul, ents_add]

/-- A list of entries of the call's own, on the way: from v at world W to vk at world wx. -/
structure LS (W : World) (v : Value) (B : Nat) (L : List En) (vk : Value) (wx : World) : Prop where
  own : wx.ownsRow B 48 3 vk L.length (ens L)
  gr : W.grownBy wx v.ownBlock
  ob : vk.ownBlock = v.ownBlock ∨ ∀ g, vk.ownBlock = some g → W.heap.size ≤ g
theorem LS.refl {W : World} {v : Value} {B : Nat} {L : List En} (h : W.ownsRow B 48 3 v L.length (ens L)) : LS W v B L v W := ⟨h, ⟨rfl, rfl, rfl, Nat.le_refl _, fun _ _ _ => rfl⟩, .inl rfl⟩
theorem LS.trans {W wx wy : World} {v vk vl : Value} {B : Nat} {L L' : List En} (h : LS W v B L vk wx) (h' : LS wx vk B L' vl wy) : LS W v B L' vl wy := by
  refine ⟨h'.own, ⟨h'.gr.os.trans h.gr.os, h'.gr.tape.trans h.gr.tape, h'.gr.output.trans h.gr.output, Nat.le_trans h.gr.size h'.gr.size, fun k hk hn => (h'.gr.block k (Nat.lt_of_lt_of_le hk h.gr.size) fun e => ?_).trans (h.gr.block k hk hn)⟩, ?_⟩
  · rcases h.ob with h1 | h1
    · exact hn (by rw [e]; exact h1)
    · have := h1 k e.symm; omega
  · rcases h'.ob with h1 | h1
    · rw [h1]; exact h.ob
    · exact .inr fun g hg => Nat.le_trans h.gr.size (h1 g hg)
theorem LS.step {W wx wy : World} {v vk : Value} {B : Nat} {L : List En} (h : LS W v B L vk wx) (hb : Below wx.heap.size wx wy) : LS W v B L vk wy :=
  h.trans ⟨own_step h.own hb, ⟨hb.os, hb.tape, hb.output, hb.size, fun k hk _ => hb.block k hk⟩, .inl rfl⟩
/-- The tree is not touched. -/
theorem LS.nk {W wx : World} {v vk : Value} {B : Nat} {L : List En} (h : LS W v B L vk wx) {A : Option Addr} {ks : List T} (hk : NK W (fun z => v.ownBlock ≠ some z) A ks) : NK wx (fun z => vk.ownBlock ≠ some z) A ks := by
  have h1 := (hk.weak (S' := fun z => v.ownBlock ≠ some z ∧ vk.ownBlock ≠ some z) fun b hlt hb => ⟨hb, fun e => by
    rcases h.ob with h1 | h1
    · exact hb (h1 ▸ e)
    · have := h1 b e; omega⟩).kept h.gr.size (fun b hb hlt => h.gr.block b hlt fun e => hb.1 e.symm)
  exact h1.weak fun b _ hb => hb.2
theorem LS.bk {W wx : World} {v vk : Value} {B : Nat} {L : List En} (h : LS W v B L vk wx) {g : Nat} {o : Obj} (hg : W.heap[g]? = some o) (hn : v.ownBlock ≠ some g) : wx.heap[g]? = some o := (h.gr.block g (bk_lt hg) fun e => hn e.symm).trans hg
theorem LS.ne {W wx : World} {v vk : Value} {B : Nat} {L : List En} (h : LS W v B L vk wx) {g : Nat} (hg : g < W.heap.size) (hn : v.ownBlock ≠ some g) : vk.ownBlock ≠ some g := fun e => by
  rcases h.ob with h1 | h1
  · exact hn (h1 ▸ e)
  · have := h1 g e; omega
/-- Behind an append of one entry. -/
theorem LS.snoc {W wx wy : World} {v vk : Value} {B g n cap : Nat} {L : List En} {i x m : Int} (h : LS W v B L vk wx) (hown : wy.ownsRow B 48 3 (.slice (some ⟨g, 0, none⟩) n cap) (L.length + 1) (ens L ++ [.int .i64 i, .int .i64 x, .int .i64 m])) (hg : wx.grownBy wy vk.ownBlock) (hat : vk.ownBlock = some g ∨ g = wx.heap.size) :
    LS W v B (L ++ [(i, x, m)]) (.slice (some ⟨g, 0, none⟩) n cap) wy :=
  h.trans ⟨by rw [ens_app]; simpa [ens] using hown, hg, by
    rcases hat with hat | hat
    · exact .inl hat.symm
    · exact .inr fun g' hg' => by simp only [Value.ownBlock, Option.some.injEq] at hg'; omega⟩
/-- A longer list comes back. -/
def RetL (B : Nat) (L : List En) (v : Value) (w : World) (e : Ending) (w' : World) : Prop := ∃ v', e = .returned v' ∧ LS w v B L v' w'

end Go.Proofs.Ytpoagdffpajdjaa
