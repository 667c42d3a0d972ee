/-
  What the writers of a tree answer, the program's and the reference's: the same; Tape.End; the state of RadixWrites' loop.
-/
import Derived.Test.YtpoagdffpajdjaaRadY
import Derived.Deep.CutRange
namespace Go.Proofs.Ytpoagdffpajdjaa
open Go.RowKit
set_option linter.unusedVariables false
set_option linter.unusedSimpArgs false

/-- A tape over a slice that was there in W. -/
def TpP (W : World) (b : Nat) (w : World) : Prop :=
  (∃ (a : Option Addr) (len cap k : Nat), w.heap[b]? = some (.cells #[.slice a len cap, .int .i64 (k : Int)] 32 (0, 0)) ∧ k ≤ len ∧ len ≤ maxLen ∧
    ∀ i, i < len → ∃ (c o : Nat) (x : Int), a = some ⟨c, o, none⟩ ∧ c < W.heap.size ∧ w.cell? ⟨c, o + i, none⟩ = some (.int .i64 x)) ∧ Below W.heap.size W w ∧ W.heap.size ≤ b
theorem TpP.lt {W w : World} {b : Nat} (h : TpP W b w) : b < w.heap.size := by obtain ⟨⟨a, len, cap, k, h1, _⟩, _⟩ := h; exact bk_lt h1
/-- One block above W's is changed, not the tape's own. -/
theorem TpP.gb {W w w' : World} {b : Nat} {r : Option Nat} (h : TpP W b w) (hg : w.grownBy w' r) (hr : ∀ k, r = some k → W.heap.size ≤ k ∧ k ≠ b) : TpP W b w' := by
  obtain ⟨⟨a, len, cap, k, h1, h2, h3, h4⟩, hB, hWb⟩ := h
  refine ⟨⟨a, len, cap, k, (hg.block b (bk_lt h1) fun e => (hr b e.symm).2 rfl).trans h1, h2, h3, fun i hi => ?_⟩, hB.grown hg hB.size (fun k hk => (hr k hk).1), hWb⟩
  obtain ⟨c, o, x, ha, hc, hx⟩ := h4 i hi
  exact ⟨c, o, x, ha, hc, hg.cell hx (fun e => by have := (hr c e.symm).1; omega)⟩
theorem TpP.step {W w w' : World} {b : Nat} (h : TpP W b w) (hb : Below w.heap.size w w') : TpP W b w' := h.gb (gb_of_below hb none) (fun k hk => by cases hk)
theorem TpP.start {W w : World} {a : Option Addr} {len cap : Nat} {zs : List Int} (h : IsRow .i64 W a len cap zs) (hB : Below W.heap.size W w) : TpP W w.heap.size (w.alloc (.cells #[.slice a len cap, .int .i64 0] 32)) := by
  refine ⟨⟨a, len, cap, 0, heap_alloc_new _ _, Nat.zero_le _, ?_, ?_⟩, bl_alloc hB _, hB.size⟩
  · rcases h with ⟨_, rfl, _⟩ | ⟨x, _, h1, h2, _⟩
    · exact Nat.zero_le _
    · exact Nat.le_trans h1 h2
  · intro i hi
    rcases h with ⟨_, rfl, _⟩ | ⟨x, rfl, h1, h2, h3, h4, h5⟩
    · omega
    · obtain ⟨c, o, sp⟩ := x
      have hc := h4 i (by omega)
      have hc0 := h4 0 (by omega)
      have hsp : sp = none := by simpa [Addr.add] using World.cell?_spot hc0
      subst hsp
      rw [Addr.add_mid] at hc
      have hlt := World.block_lt_of_cell? W ⟨c, o + i, none⟩ hc
      exact ⟨c, o, zs.getD i 0, rfl, hlt, ((bl_alloc hB _).cell hlt).trans hc⟩
theorem next_p (n : Int) (W w : World) (b : Nat) (h1n : 1 ≤ n) (h2n : n ≤ 9223372036854775807) (h : TpP W b w) :
    Calls Try.prog 12 #[.pointer (some ⟨b, 0, none⟩), .int .i64 n] w fun e w' => ∃ x, e = .returned (.int .i64 x) ∧ 0 ≤ x ∧ x < n ∧ TpP W b w' ∧ w.grownBy w' (some b) := by
  obtain ⟨⟨a, len, cap, k, h1, h2, h3, h4⟩, hB, hWb⟩ := h
  have c0 : w.cell? ⟨b, 0, none⟩ = some (.slice a len cap) := by rw [cells_at h1]; rfl
  have c1 : w.cell? ⟨b, 1, none⟩ = some (.int .i64 (k : Int)) := by rw [cells_at h1]; rfl
  by_cases hk : k < len
  · obtain ⟨c, o, x, rfl, hc, hx⟩ := h4 k hk
    refine (next_more n w b len cap c o k x h1n h2n c0 c1 (free_at h1 1) h3 hk hx (by omega)).mono ?_
    rintro e w' ⟨rfl, m, rfl⟩
    have hr := cutI_range x n h1n
    have hg : w.grownBy ((w.setCell ⟨b, 1, none⟩ (.int .i64 (k + 1))).drewN m) (some b) := grownBy_trans (grownBy_setCell w ⟨b, 1, none⟩ _) (grownBy_drewN _ _ _)
    refine ⟨_, rfl, hr.1, hr.2, ⟨⟨some ⟨c, o, none⟩, len, cap, k + 1, ?_, hk, h3, ?_⟩, hB.grown hg hB.size (fun k hk => by injection hk with hk; omega), hWb⟩, hg⟩
    · show (w.setCell ⟨b, 1, none⟩ (.int .i64 (k + 1))).heap[b]? = _
      simp [World.setCell, Array.getElem?_modify, h1]
    · intro i hi
      obtain ⟨c', o', x', ha, hc', hx'⟩ := h4 i hi
      exact ⟨c', o', x', ha, hc', hg.cell hx' (by simp; omega)⟩
  · obtain rfl : k = len := by omega
    refine (next_end n w b k cap a c0 c1 h3).mono ?_
    rintro e w' ⟨rfl, m, rfl⟩
    exact ⟨0, rfl, by omega, by omega, ⟨⟨a, k, cap, k, h1, Nat.le_refl _, h3, h4⟩, below_drewN hB _, hWb⟩, grownBy_drewN _ _ _⟩
theorem end_p (W w : World) (b : Nat) (hT : TpP W b w) : Calls Try.prog 29 #[.pointer (some ⟨b, 0, none⟩)] w fun e w' => ∃ q, e = .returned (.bool q) ∧ Below w.heap.size w w' := by
  obtain ⟨⟨a, len, cap, k, h1, h2, h3, h4⟩, _, _⟩ := hT
  have x0 := cells_at h1 0
  have x1 := cells_at h1 1
  simp only [List.getElem?_toArray, List.getElem?_cons_zero, List.getElem?_cons_succ] at x0 x1
  clear h1 h4
  go_enter Try.func29, Try.ntmps29
  go_wp2
  go_quiet (fail)
  go_wp2
  go_ret
  exact ⟨_, rfl, below_drewN (Below.refl _ _) _⟩
/-- What the writers answer about a tree. -/
structure Wr (x : Value) (S : Nat → Prop) (fs fm fu : Int → Int → Cn × Int) (w : World) : Prop where
  st : ∀ i y w', Below w.heap.size w w' → Calls Try.prog 30 #[x, .int .i64 i, .int .i64 y] w' (RetTE (fs i y).1 (fs i y).2 S w')
  rst : ∀ i y w', Below w.heap.size w w' → Calls Try.prog 31 #[x, .int .i64 i, .int .i64 y] w' (RetTE (fs i y).1 (fs i y).2 S w')
  ma : ∀ i y w', Below w.heap.size w w' → Calls Try.prog 32 #[x, .int .i64 i, .int .i64 y] w' (RetTE (fm i y).1 (fm i y).2 S w')
  rma : ∀ i y w', Below w.heap.size w w' → Calls Try.prog 33 #[x, .int .i64 i, .int .i64 y] w' (RetTE (fm i y).1 (fm i y).2 S w')
  un : ∀ i y w', Below w.heap.size w w' → Calls Try.prog 34 #[x, .int .i64 i, .int .i64 y] w' (RetTE (fu i y).1 (fu i y).2 S w')
  run : ∀ i y w', Below w.heap.size w w' → Calls Try.prog 35 #[x, .int .i64 i, .int .i64 y] w' (RetTE (fu i y).1 (fu i y).2 S w')
theorem Wr.of {hI : Int} {t : T} {A : Option Addr} {cap : Nat} {S : Nat → Prop} {w : World} (hm : t.kids.length ≤ maxLen) (hcap : t.kids.length ≤ cap) (hk : NK w S A t.kids) (hS : ∀ z, w.heap.size ≤ z → S z) :
    ∃ fs fm fu, Wr (trV hI A t.kids.length cap t.val t.marks) S fs fm fu w := by
  cases hv : validT hI t with
  | false =>
    exact ⟨fun _ _ => (zeroC, 1), fun _ _ => (zeroC, 1), fun _ _ => (zeroC, 1), fun i y w' hb => set_bad hI t A cap S w' hm hcap (hk.step hb) hv i y, fun i y w' hb => rSet_bad hI t A cap S w' hm hcap (hk.step hb) hv i y, fun i y w' hb => mrk_bad hI t A cap S w' hm hcap (hk.step hb) hv i y, fun i y w' hb => rMark_bad hI t A cap S w' hm hcap (hk.step hb) hv (fun z hz => hS z (Nat.le_trans hb.size hz)) i y, fun i y w' hb => unmrk_bad hI t A cap S w' hm hcap (hk.step hb) hv i y, fun i y w' hb => rUnmark_bad hI t A cap S w' hm hcap (hk.step hb) hv (fun z hz => hS z (Nat.le_trans hb.size hz)) i y⟩
  | true =>
    obtain ⟨h, c, rfl, hl, ht, rfl⟩ := of_valid hv
    have k : ∀ {w'}, Below w.heap.size w w' → ∀ z, w'.heap.size ≤ z → S z := fun hb z hz => hS z (Nat.le_trans hb.size hz)
    exact ⟨setR c, markR c, unmarkR c, fun i y w' hb => set_w h c A cap S i y w' hl ht hcap (hk.step hb) (k hb), fun i y w' hb => rSet_w h c A cap S i y w' hl ht hcap (hk.step hb) (k hb), fun i y w' hb => mrk_w h c A cap S i y w' hl ht hcap (hk.step hb) (k hb), fun i y w' hb => rMark_w h c A cap S i y w' hl ht hcap (hk.step hb) (k hb), fun i y w' hb => unmrk_w h c A cap S i y w' hl ht hcap (hk.step hb) (k hb), fun i y w' hb => rUnmark_w h c A cap S i y w' hl ht hcap (hk.step hb) (k hb)⟩
theorem Wr.step {x : Value} {S : Nat → Prop} {fs fm fu : Int → Int → Cn × Int} {w w' : World} (h : Wr x S fs fm fu w) (hb : Below w.heap.size w w') : Wr x S fs fm fu w' :=
  ⟨fun i y w2 h2 => h.st i y w2 (bl_step hb h2), fun i y w2 h2 => h.rst i y w2 (bl_step hb h2), fun i y w2 h2 => h.ma i y w2 (bl_step hb h2), fun i y w2 h2 => h.rma i y w2 (bl_step hb h2), fun i y w2 h2 => h.un i y w2 (bl_step hb h2), fun i y w2 h2 => h.run i y w2 (bl_step hb h2)⟩
/-- A tree in box Z over a tape in box b. -/
structure RS (W : World) (b Z : Nat) (hI : Int) (t : T) (wx : World) : Prop where
  tr : TR wx (fun z => W.heap.size ≤ z ∧ z ≠ Z ∧ z ≠ b) Z hI t
  tp : TpP W b wx
  ne : Z ≠ b
  le : W.heap.size ≤ Z
theorem RS.step {W w w' : World} {b Z : Nat} {hI : Int} {t : T} (h : RS W b Z hI t w) (hb : Below w.heap.size w w') : RS W b Z hI t w' := ⟨h.tr.step hb, h.tp.step hb, h.ne, h.le⟩
theorem RS.alloc {W w : World} {b Z : Nat} {hI : Int} {t : T} (h : RS W b Z hI t w) (o : Obj) : RS W b Z hI t (w.alloc o) := h.step ((Below.refl _ _).alloc (Nat.le_refl _) _)
theorem RS.drew {W w w' : World} {b Z : Nat} {hI : Int} {t : T} (h : RS W b Z hI t w) (hT : TpP W b w') (hg : w.grownBy w' (some b)) : RS W b Z hI t w' :=
  ⟨h.tr.kept hg.size fun z hz hlt => hg.block z hlt (by have := h.ne; rcases hz with hz | rfl <;> simp <;> omega), hT, h.ne, h.le⟩
theorem RS.free {W w : World} {b Z : Nat} {hI : Int} {t : T} (h : RS W b Z hI t w) : ∀ z, w.heap.size ≤ z → W.heap.size ≤ z ∧ z ≠ Z ∧ z ≠ b := fun z hz => by
  have h1 := h.tr.lt
  have h2 := h.tp.lt
  have h3 := h.tp.2.1.size
  omega
/-- Another tree is laid into the box. -/
theorem RS.put {W w : World} {b Z : Nat} {hI hI' : Int} {t t' : T} (h : RS W b Z hI t w) {A : Option Addr} {cap : Nat} (h1 : t'.kids.length ≤ maxLen) (h2 : t'.kids.length ≤ cap) (hk : NK w (fun z => W.heap.size ≤ z ∧ z ≠ Z ∧ z ≠ b) A t'.kids) :
    RS W b Z hI' t' (w.setRow Z #[.int .i64 hI', .slice A t'.kids.length cap, .int .i64 t'.val, .int .i64 t'.marks]) := by
  obtain ⟨A0, c0, g0, _⟩ := h.tr
  exact ⟨⟨A, cap, setRow_heap _ _ _ _ _ _ g0, h1, h2, hk.kept (by simp [World.setRow]) (fun z hz _ => setRow_other _ _ _ _ hz.2.1)⟩, h.tp.gb (gb_setRow _ _ _) (fun k hk => by injection hk with hk; subst hk; exact ⟨h.le, h.ne⟩), h.ne, h.le⟩
abbrev SW (W : World) (b Z : Nat) : Nat → Prop := fun z => W.heap.size ≤ z ∧ z ≠ Z ∧ z ≠ b
/-- A round's six answers. -/
theorem RS.all {W w : World} {b Z : Nat} {hI : Int} {t : T} (h : RS W b Z hI t w) (i y m : Int) : ∃ (A : Option Addr) (cap : Nat) (c1 : Cn) (e1 : Int) (c2 : Cn) (e2 : Int) (c3 : Cn) (e3 : Int),
    w.heap[Z]? = some (.cells #[.int .i64 hI, .slice A t.kids.length cap, .int .i64 t.val, .int .i64 t.marks] 28 (0, 0)) ∧
    (∀ w', Below w.heap.size w w' → Calls Try.prog 30 #[trV hI A t.kids.length cap t.val t.marks, .int .i64 i, .int .i64 y] w' (RetTE c1 e1 (SW W b Z) w')) ∧
    (∀ w', Below w.heap.size w w' → Calls Try.prog 31 #[trV hI A t.kids.length cap t.val t.marks, .int .i64 i, .int .i64 y] w' (RetTE c1 e1 (SW W b Z) w')) ∧
    (∀ w', Below w.heap.size w w' → Calls Try.prog 32 #[trV hI A t.kids.length cap t.val t.marks, .int .i64 i, .int .i64 m] w' (RetTE c2 e2 (SW W b Z) w')) ∧
    (∀ w', Below w.heap.size w w' → Calls Try.prog 33 #[trV hI A t.kids.length cap t.val t.marks, .int .i64 i, .int .i64 m] w' (RetTE c2 e2 (SW W b Z) w')) ∧
    (∀ w', Below w.heap.size w w' → Calls Try.prog 34 #[trV hI A t.kids.length cap t.val t.marks, .int .i64 i, .int .i64 m] w' (RetTE c3 e3 (SW W b Z) w')) ∧
    (∀ w', Below w.heap.size w w' → Calls Try.prog 35 #[trV hI A t.kids.length cap t.val t.marks, .int .i64 i, .int .i64 m] w' (RetTE c3 e3 (SW W b Z) w')) := by
  obtain ⟨A, cap, hX, hm, hcap, hk⟩ := h.tr
  obtain ⟨fs, fm, fu, hwr⟩ := Wr.of hm hcap hk h.free
  exact ⟨A, cap, _, _, _, _, _, _, hX, hwr.st i y, hwr.rst i y, hwr.ma i m, hwr.rma i m, hwr.un i m, hwr.run i m⟩
end Go.Proofs.Ytpoagdffpajdjaa
