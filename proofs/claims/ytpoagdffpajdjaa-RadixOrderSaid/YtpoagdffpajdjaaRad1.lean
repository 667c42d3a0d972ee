/-
  Nodes of radix trees: plain trees, how they lie in memory; empty and leaf, by contracts.
-/
import Derived.Test.YtpoagdffpajdjaaInts
namespace Go.Proofs.Ytpoagdffpajdjaa
open Go.RowKit
set_option linter.unusedVariables false
set_option linter.unusedSimpArgs false

/-- A node: kids, value, marks. -/
inductive T where
  | mk (kids : List T) (v m : Int)
def T.kids : T → List T | .mk ks _ _ => ks
def T.val : T → Int | .mk _ v _ => v
def T.marks : T → Int | .mk _ _ m => m
/-- The empty node. -/
def T.nil : T := .mk [] 0 0
def emI (n : Nat) (v m : Int) : Bool := decide (n = 0) && (decide (v = 0) && decide (m = 0))
def T.emB (t : T) : Bool := emI t.kids.length t.val t.marks
def lfI (n : Nat) (v m : Int) : Bool := decide (n = 0 ∧ v ≠ 0 ∧ 0 ≤ m ∧ m ≤ 7 ∧ (0 < v ∨ m = 0))
def T.lfB (t : T) : Bool := lfI t.kids.length t.val t.marks
/-- A node's value as it stands in a slot. -/
abbrev ndV (A : Option Addr) (n cap : Nat) (v m : Int) : Value := .agg #[.slice A n cap, .int .i64 v, .int .i64 m]

/-- Three cells from o on hold a node's value. -/
def NC (w : World) (b o : Nat) (A : Option Addr) (n cap : Nat) (v m : Int) : Prop :=
  w.cell? ⟨b, o, none⟩ = some (.slice A n cap) ∧ w.cell? ⟨b, o + 1, none⟩ = some (.int .i64 v) ∧ w.cell? ⟨b, o + 2, none⟩ = some (.int .i64 m)
/-- What a slice of nodes holds; all of it lies in blocks of S. -/
inductive NK (w : World) (S : Nat → Prop) : Option Addr → List T → Prop
  | nil (A : Option Addr) : NK w S A []
  | mk (b o : Nat) (ks : List T) (A : Nat → Option Addr) (cap : Nat → Nat) (hb : S b) (hlt : b < w.heap.size)
      (hc : ∀ i k, ks[i]? = some k → NC w b (o + i * 3) (A i) k.kids.length (cap i) k.val k.marks) (hl : ∀ i k, ks[i]? = some k → k.kids.length ≤ maxLen ∧ k.kids.length ≤ cap i)
      (hk : ∀ i k, ks[i]? = some k → NK w S (A i) k.kids) : NK w S (some ⟨b, o, none⟩) ks
theorem NC.block {w w' : World} {b o : Nat} {A : Option Addr} {n cap : Nat} {v m : Int} (h : NC w b o A n cap v m) (hb : w'.heap[b]? = w.heap[b]?) : NC w' b o A n cap v m := by
  obtain ⟨h1, h2, h3⟩ := h
  exact ⟨(World.cell?_of_block (a := ⟨b, _, none⟩) hb).trans h1, (World.cell?_of_block (a := ⟨b, _, none⟩) hb).trans h2, (World.cell?_of_block (a := ⟨b, _, none⟩) hb).trans h3⟩
theorem NK.kept {w w' : World} {S : Nat → Prop} {A : Option Addr} {ks : List T} (h : NK w S A ks) (hs : w.heap.size ≤ w'.heap.size) (hb : ∀ b, S b → b < w.heap.size → w'.heap[b]? = w.heap[b]?) : NK w' S A ks := by
  induction h with
  | nil A => exact .nil A
  | mk b o ks A cap hS hlt hc hl hk ih => exact .mk b o ks A cap hS (by omega) (fun i k hi => (hc i k hi).block (hb b hS hlt)) hl ih
theorem NK.step {w w' : World} {S : Nat → Prop} {A : Option Addr} {ks : List T} (h : NK w S A ks) (hb : Below w.heap.size w w') : NK w' S A ks := h.kept hb.size (fun b _ hlt => hb.block b hlt)
theorem NK.alloc {w : World} {S : Nat → Prop} {A : Option Addr} {ks : List T} (h : NK w S A ks) (o : Obj) : NK (w.alloc o) S A ks := h.step ((Below.refl _ _).alloc (Nat.le_refl _) _)
theorem NK.drewN {w : World} {S : Nat → Prop} {A : Option Addr} {ks : List T} (h : NK w S A ks) (n : Nat) : NK (w.drewN n) S A ks := h.step (below_drewN (Below.refl _ _) _)
theorem NK.weak {w : World} {S S' : Nat → Prop} {A : Option Addr} {ks : List T} (h : NK w S A ks) (hs : ∀ b, b < w.heap.size → S b → S' b) : NK w S' A ks := by
  induction h with
  | nil A => exact .nil A
  | mk b o ks A cap hS hlt hc hl hk ih => exact .mk b o ks A cap (hs b hlt hS) hlt hc hl ih
theorem NK.at_ {w : World} {S : Nat → Prop} {A : Option Addr} {ks : List T} (h : NK w S A ks) {i : Nat} (hi : i < ks.length) : ∃ b o k A' cap, A = some ⟨b, o, none⟩ ∧ S b ∧ b < w.heap.size ∧ ks[i]? = some k ∧
    NC w b (o + i * 3) A' k.kids.length cap k.val k.marks ∧ k.kids.length ≤ maxLen ∧ k.kids.length ≤ cap ∧ NK w S A' k.kids := by
  cases h with
  | nil A => simp at hi
  | mk b o ks A cap hS hlt hc hl hk =>
    have he : ks[i]? = some ks[i] := List.getElem?_eq_getElem hi
    exact ⟨b, o, _, _, _, rfl, hS, hlt, he, hc i _ he, (hl i _ he).1, (hl i _ he).2, hk i _ he⟩
/-- A node as a value. -/
def NV (w : World) (S : Nat → Prop) (x : Value) (t : T) : Prop := ∃ A cap, x = ndV A t.kids.length cap t.val t.marks ∧ t.kids.length ≤ maxLen ∧ t.kids.length ≤ cap ∧ NK w S A t.kids
theorem NV.step {w w' : World} {S : Nat → Prop} {x : Value} {t : T} (h : NV w S x t) (hb : Below w.heap.size w w') : NV w' S x t := by
  obtain ⟨A, cap, e, h1, h2, h⟩ := h
  exact ⟨A, cap, e, h1, h2, h.step hb⟩
theorem NV.kept {w w' : World} {S : Nat → Prop} {x : Value} {t : T} (h : NV w S x t) (hs : w.heap.size ≤ w'.heap.size) (hb : ∀ b, S b → b < w.heap.size → w'.heap[b]? = w.heap[b]?) : NV w' S x t := by
  obtain ⟨A, cap, e, h1, h2, h⟩ := h
  exact ⟨A, cap, e, h1, h2, h.kept hs hb⟩
theorem NV.weak {w : World} {S S' : Nat → Prop} {x : Value} {t : T} (h : NV w S x t) (hs : ∀ b, b < w.heap.size → S b → S' b) : NV w S' x t := by
  obtain ⟨A, cap, e, h1, h2, h⟩ := h
  exact ⟨A, cap, e, h1, h2, h.weak hs⟩
theorem NV.alloc {w : World} {S : Nat → Prop} {x : Value} {t : T} (h : NV w S x t) (o : Obj) : NV (w.alloc o) S x t := h.step ((Below.refl _ _).alloc (Nat.le_refl _) _)
theorem NV.leaf (w : World) (S : Nat → Prop) (A : Option Addr) (cap : Nat) (v m : Int) : NV w S (ndV A 0 cap v m) (.mk [] v m) := ⟨A, cap, rfl, Nat.zero_le _, Nat.zero_le _, .nil A⟩
/-- Any block. -/
def Any (_ : Nat) : Prop := True
theorem NV.any {w : World} {S : Nat → Prop} {x : Value} {t : T} (h : NV w S x t) : NV w Any x t := h.weak fun _ _ _ => trivial

section
set_option maxHeartbeats 1000000
theorem empty_w (A : Option Addr) (n cap : Nat) (v m : Int) (w : World) : Calls Try.prog 59 #[ndV A n cap v m] w (RetB (emI n v m) w) := by
    have HB := Lib.hid ((Below.refl w.heap.size w).alloc (Nat.le_refl _) (.cells #[.slice A n cap, .int .i64 v, .int .i64 m] 26))
    unfold emI
    rcases n with _ | n
    · by_cases h1 : v = 0
      · subst h1
        by_cases h2 : m = 0
        · subst h2
          go_enter Try.func59, Try.ntmps59
          go_wp2
          go_ret
          exact ⟨by simp, HB.out⟩
        · have hd : decide (m = 0) = false := decide_eq_false h2
          go_enter Try.func59, Try.ntmps59
          go_wp2
          go_ret
          exact ⟨by simp [h2], HB.out⟩
      · have hd : decide (v = 0) = false := decide_eq_false h1
        go_enter Try.func59, Try.ntmps59
        go_wp2
        go_ret
        exact ⟨by simp [h1], HB.out⟩
    · have h0 : ((n : Int) + 1 = 0) = False := by simp; omega
      go_enter Try.func59, Try.ntmps59
      go_wp2
      go_ret
      exact ⟨by simp, HB.out⟩
theorem rEmpty_w (A : Option Addr) (n cap : Nat) (v m : Int) (w : World) : Calls Try.prog 60 #[ndV A n cap v m] w (RetB (emI n v m) w) := by
    have HB := Lib.hid ((Below.refl w.heap.size w).alloc (Nat.le_refl _) (.cells #[.slice A n cap, .int .i64 v, .int .i64 m] 26))
    unfold emI
    rcases n with _ | n
    · by_cases h1 : v = 0
      · subst h1
        by_cases h2 : m = 0
        · subst h2
          go_enter Try.func60, Try.ntmps60
          go_wp2
          go_ret
          exact ⟨by simp, HB.out⟩
        · have hd : decide (m = 0) = false := decide_eq_false h2
          go_enter Try.func60, Try.ntmps60
          go_wp2
          go_ret
          exact ⟨by simp [h2], HB.out⟩
      · have hd : decide (v = 0) = false := decide_eq_false h1
        go_enter Try.func60, Try.ntmps60
        go_wp2
        go_ret
        exact ⟨by simp [h1], HB.out⟩
    · have h0 : ((n : Int) + 1 = 0) = False := by simp; omega
      go_enter Try.func60, Try.ntmps60
      go_wp2
      go_ret
      exact ⟨by simp, HB.out⟩
theorem leaf_w (A : Option Addr) (n cap : Nat) (v m : Int) (w : World) : Calls Try.prog 58 #[ndV A n cap v m] w (RetB (lfI n v m) w) := by
  have HB := Lib.hid ((Below.refl w.heap.size w).alloc (Nat.le_refl _) (.cells #[.slice A n cap, .int .i64 v, .int .i64 m] 26))
  rcases n with _ | n
  · by_cases h1 : v = 0
    · have HR := Lib.hid (show lfI 0 v m = false from decide_eq_false (by omega))
      subst h1
      go_enter Try.func58, Try.ntmps58
      go_wp2
      go_ret
      exact ⟨ret_bool HR.out.symm, HB.out⟩
    · have d1 : decide (v = 0) = false := decide_eq_false h1
      have d1' : (v == 0) = false := by simpa using h1
      by_cases h2 : 0 ≤ m
      · by_cases h3 : m ≤ 7
        · by_cases h4 : 0 < v
          · have HR := Lib.hid (show lfI 0 v m = true from decide_eq_true (by omega))
            go_enter Try.func58, Try.ntmps58
            go_wp2
            go_ret
            exact ⟨ret_bool (by rw [HR.out]; simpa using h1), HB.out⟩
          · by_cases h5 : m = 0
            · have HR := Lib.hid (show lfI 0 v m = true from decide_eq_true (by omega))
              subst h5
              go_enter Try.func58, Try.ntmps58
              go_wp2
              go_ret
              exact ⟨ret_bool (by rw [HR.out]; simpa using h1), HB.out⟩
            · have HR := Lib.hid (show lfI 0 v m = false from decide_eq_false (by omega))
              have d5 : decide (m = 0) = false := decide_eq_false h5
              go_enter Try.func58, Try.ntmps58
              go_wp2
              go_ret
              exact ⟨ret_bool (HR.out.symm ▸ by first | rfl | assumption | simp [h5]), HB.out⟩
        · have HR := Lib.hid (show lfI 0 v m = false from decide_eq_false (by omega))
          go_enter Try.func58, Try.ntmps58
          go_wp2
          go_ret
          exact ⟨ret_bool HR.out.symm, HB.out⟩
      · have HR := Lib.hid (show lfI 0 v m = false from decide_eq_false (by omega))
        go_enter Try.func58, Try.ntmps58
        go_wp2
        go_ret
        exact ⟨ret_bool HR.out.symm, HB.out⟩
  · have HR := Lib.hid (show lfI (n + 1) v m = false from decide_eq_false (by omega))
    have h0 : ((n : Int) + 1 = 0) = False := by simp; omega
    go_enter Try.func58, Try.ntmps58
    go_wp2
    go_ret
    exact ⟨ret_bool HR.out.symm, HB.out⟩
end

end Go.Proofs.Ytpoagdffpajdjaa
