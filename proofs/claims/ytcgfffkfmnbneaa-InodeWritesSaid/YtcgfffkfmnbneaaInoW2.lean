/-
  The law InodeWrites in plain Lean: what is chosen of the last sector that was written and of another one.
-/
import Derived.Test.YtcgfffkfmnbneaaInoW1
namespace Go.Proofs.Ytcgfffkfmnbneaa
open Go.RowKit
set_option linter.unusedVariables false
set_option linter.unusedSimpArgs false

def RetG (q s b n : Int) (w : World) (e : Ending) (w' : World) : Prop := e = .returned (.tuple #[.agg #[.int .i64 q, .int .i64 s, .int .i64 b], .int .i64 n, .bool true]) ∧ Below w.heap.size w w'
/-- What the other sector may hold: an older inode, one that was tried since, or nothing that is decoded. -/
def Oth (O : ByteArray) (f gq last : Int) (L : List (Int × Int × Int)) : Prop :=
  Safe O f last ∧ (decOk O f = true → decQ O f < gq ∨ (gq < decQ O f ∧ (decQ O f, decS O f, decB O f) ∈ L))
theorem writes_pick {gq gs gz f last : Int} {O : ByteArray} {L : List (Int × Int × Int)} (hv : vaB gq gs gz = true) (f0 : 0 ≤ f) (f1 : f < 8) (hO : Oth O f gq last L) :
    ∃ q3 s3 z3 n m, ((q3, s3, z3) = (gq, gs, gz) ∨ (q3, s3, z3) ∈ L) ∧ (∀ w, Calls Try.prog 15 #[.string (secI gq gs gz f), .string O, .int .i64 f] w (RetG q3 s3 z3 n w)) ∧
      (∀ w, Calls Try.prog 15 #[.string O, .string (secI gq gs gz f), .int .i64 f] w (RetG q3 s3 z3 m w)) := by
  obtain ⟨g0, g1, g2, g3⟩ := (mixed hv hv f0 f1 _ rfl).1 ⟨rfl, rfl, rfl⟩
  have g0' : decOk (secI gq gs gz f) f = true := g0
  have g1' : decQ (secI gq gs gz f) f = gq := g1
  have g2' : decS (secI gq gs gz f) f = gs := g2
  have g3' : decB (secI gq gs gz f) f = gz := g3
  obtain ⟨hs, hd⟩ := hO
  have c1 := fun w => choose_w (secI gq gs gz f) O f w (secH_size _ _ _ _ _) hs.size
  have c2 := fun w => choose_w O (secI gq gs gz f) f w hs.size (secH_size _ _ _ _ _)
  unfold RetCh RetC at c1 c2
  rw [g0', g1', g2', g3'] at c1 c2
  cases ho : decOk O f with
  | false =>
    rw [ho] at c1 c2
    exact ⟨gq, gs, gz, 0, 1, .inl rfl, c1, c2⟩
  | true =>
    rw [ho] at c1 c2
    rcases hd ho with h | ⟨h, hm⟩
    · have p1 : pk true true gq (decQ O f) = false := by simp [pk]; omega
      have p2 : pk true true (decQ O f) gq = true := by simp [pk]; omega
      rw [p1] at c1
      rw [p2] at c2
      exact ⟨gq, gs, gz, 0, 1, .inl rfl, c1, c2⟩
    · have p1 : pk true true gq (decQ O f) = true := by simp [pk]; omega
      have p2 : pk true true (decQ O f) gq = false := by simp [pk]; omega
      rw [p1] at c1
      rw [p2] at c2
      exact ⟨decQ O f, decS O f, decB O f, 1, 0, .inr hm, c1, c2⟩
/-- The three ways that a write may leave the other sector in. -/
theorem Oth.keep {O : ByteArray} {f gq last last' : Int} {L : List (Int × Int × Int)} {x : Int × Int × Int} (h : Oth O f gq last L) (hl : last ≤ last') : Oth O f gq last' (L ++ [x]) :=
  ⟨h.1.mono hl, fun ho => (h.2 ho).imp id fun ⟨a, b⟩ => ⟨a, List.mem_append_left _ b⟩⟩
theorem Oth.wrote {q s z f gq last : Int} {L : List (Int × Int × Int)} (hv : vaB q s z = true) (hq : q ≤ last) (hg : gq < q) (f0 : 0 ≤ f) (f1 : f < 8) : Oth (secI q s z f) f gq last (L ++ [(q, s, z)]) := by
  obtain ⟨g0, g1, g2, g3⟩ := (mixed hv hv f0 f1 _ rfl).1 ⟨rfl, rfl, rfl⟩
  refine ⟨safe_enc hv hq f0 f1, fun _ => .inr ?_⟩
  rw [show decQ (secI q s z f) f = q from g1, show decS (secI q s z f) f = s from g2, show decB (secI q s z f) f = z from g3]
  exact ⟨hg, List.mem_append_right _ (List.mem_singleton.2 rfl)⟩
theorem Oth.older {q s z f gq last : Int} {L : List (Int × Int × Int)} (hv : vaB q s z = true) (hq : q ≤ last) (hg : q < gq) (f0 : 0 ≤ f) (f1 : f < 8) : Oth (secI q s z f) f gq last L := by
  obtain ⟨g0, g1, _⟩ := (mixed hv hv f0 f1 _ rfl).1 ⟨rfl, rfl, rfl⟩
  exact ⟨safe_enc hv hq f0 f1, fun _ => .inl (by rw [show decQ (secI q s z f) f = q from g1]; exact hg)⟩
theorem Oth.torn {O : ByteArray} {q s z f gq last last' k : Int} {L L' : List (Int × Int × Int)} (h : Oth O f gq last L) (hv : vaB q s z = true) (h1 : last < q) (h2 : q ≤ 100) (h3 : q ≤ last') (f0 : 0 ≤ f) (f1 : f < 8) (hk : k = 0 ∨ k = 1) :
    Oth (toS O (secI q s z f) k) f gq last' L' ∧ toE O (secI q s z f) k = 0 := by
  obtain ⟨a, b, c⟩ := torn_safe h.1 hv h1 h2 h3 f0 f1 hk
  exact ⟨⟨c, fun ho => by rw [a] at ho; cases ho⟩, b⟩

end Go.Proofs.Ytcgfffkfmnbneaa
