/-
  The functions of packages inode and pagecacheref03 on numbers alone, by contracts.
-/
import Derived.Test.YtcgfffkfmnbneaaTape
import Derived.Laws.Cover3
import Derived.Laws.IdiomStrings
import Derived.Outline
namespace Go.Proofs.Ytcgfffkfmnbneaa
open Go.RowKit
set_option linter.unusedVariables false

/-- A valid inode. -/
def vaB (q s b : Int) : Bool := decide (0 ≤ q ∧ q ≤ 65535 ∧ 0 ≤ s ∧ s ≤ 128 ∧ 0 ≤ b ∧ b ≤ 255)
theorem va_t {q s b : Int} (h : vaB q s b = true) : 0 ≤ q ∧ q ≤ 65535 ∧ 0 ≤ s ∧ s ≤ 128 ∧ 0 ≤ b ∧ b ≤ 255 := by simpa [vaB] using h
theorem va_f {q s b : Int} (h : vaB q s b = false) : ¬ (0 ≤ q ∧ q ≤ 65535 ∧ 0 ≤ s ∧ s ≤ 128 ∧ 0 ≤ b ∧ b ≤ 255) := by simpa [vaB] using h
theorem valid_w (q s b : Int) (w : World) : Calls Try.prog 24 #[.agg #[.int .i64 q, .int .i64 s, .int .i64 b]] w (RetB (vaB q s b) w) := by
  go_enter Try.func24, Try.ntmps24
  go_wp2
  all_goals go_ret
  all_goals exact ⟨ret_bool (by rw [Bool.eq_iff_iff]; simp [vaB]; try omega), (Below.refl _ _).alloc (Nat.le_refl _) _⟩
theorem rvalid_w (q s b : Int) (w : World) : Calls Try.prog 28 #[.agg #[.int .i64 q, .int .i64 s, .int .i64 b]] w (RetB (vaB q s b) w) := by
  go_enter Try.func28, Try.ntmps28
  go_wp2
  all_goals go_ret
  all_goals exact ⟨ret_bool (by rw [Bool.eq_iff_iff]; simp [vaB]; try omega), (Below.refl _ _).alloc (Nat.le_refl _) _⟩

theorem known_w (f : Int) (w : World) : Calls Try.prog 25 #[.int .i64 f] w fun e w' => e = .returned (.bool (decide (0 ≤ f ∧ f < 8))) ∧ w = w' := by
  go_enter Try.func25, Try.ntmps25
  go_wp2
  all_goals go_ret
  all_goals exact ⟨ret_bool (by simp; try omega), rfl⟩

/-- A number as a byte. -/
def by8 (n : Int) : UInt8 := UInt8.ofNat n.toNat
theorem by8_nat {n : Int} (h0 : 0 ≤ n) (h1 : n < 256) : ((by8 n).toNat : Int) = n := by
  unfold by8
  rw [UInt8.toNat_ofNat', Nat.mod_eq_of_lt (by omega)]
  omega
theorem by8_to (c : UInt8) : by8 (c.toNat : Int) = c := by
  unfold by8
  simp
/-- The byte that stands behind a byte, for a file. -/
def nbI (c f : Int) : Int := (255 - bits BinOp.xor IntKind.u8 c f) % 256
def nbU (c : UInt8) (f : Int) : UInt8 := by8 (nbI c.toNat f)
theorem nb_nat (c : UInt8) (f : Int) : nbI c.toNat f = ((nbU c f).toNat : Int) := (by8_nat (by unfold nbI; omega) (by unfold nbI; omega)).symm
theorem nb_check : ((List.range 256).all fun c => (List.range 8).all fun f => nbI (nbI c f) f == c && nbI (nbI c f) c == f) = true := by kernel_rfl
theorem nb_inv {c f : Int} (h0 : 0 ≤ c) (h1 : c < 256) (h2 : 0 ≤ f) (h3 : f < 8) : nbI (nbI c f) f = c ∧ nbI (nbI c f) c = f := by
  obtain ⟨c, rfl⟩ := Int.eq_ofNat_of_zero_le h0
  obtain ⟨f, rfl⟩ := Int.eq_ofNat_of_zero_le h2
  have h := List.all_eq_true.1 (List.all_eq_true.1 nb_check c (by simp; omega)) f (by simp; omega)
  simpa using h
theorem nb_inj {c d : UInt8} {f : Int} (h2 : 0 ≤ f) (h3 : f < 8) (h : nbU c f = nbU d f) : c = d := by
  have hc := (nb_inv (c := c.toNat) (by omega) (by have := c.toNat_lt; omega) h2 h3).1
  have hd := (nb_inv (c := d.toNat) (by omega) (by have := d.toNat_lt; omega) h2 h3).1
  rw [nb_nat, h, ← nb_nat, hd] at hc
  have : c.toNat = d.toNat := by omega
  exact UInt8.toNat_inj.1 this
theorem nb_file {c : UInt8} {f g : Int} (h2 : 0 ≤ f) (h3 : f < 8) (h4 : 0 ≤ g) (h5 : g < 8) (h : nbU c f = nbU c g) : f = g := by
  have hc := (nb_inv (c := c.toNat) (by omega) (by have := c.toNat_lt; omega) h2 h3).2
  have hd := (nb_inv (c := c.toNat) (by omega) (by have := c.toNat_lt; omega) h4 h5).2
  rw [nb_nat, h, ← nb_nat, hd] at hc
  exact hc.symm

/-- A half of a sector. -/
abbrev hv (a b c d : UInt8) : Value := .agg #[.int .u8 a.toNat, .int .u8 b.toNat, .int .u8 c.toNat, .int .u8 d.toNat]
def RetV (v : Value) (w : World) (e : Ending) (w' : World) : Prop := e = .returned v ∧ Below w.heap.size w w'
theorem first_w (q s b : Int) (w : World) (h : vaB q s b = true) : Calls Try.prog 26 #[.agg #[.int .i64 q, .int .i64 s, .int .i64 b]] w (RetV (hv (by8 (q / 256)) (by8 (q % 256)) (by8 s) (by8 b)) w) := by
  obtain ⟨h1, h2, h3, h4, h5, h6⟩ := va_t h
  go_enter Try.func26, Try.ntmps26
  go_wp2
  refine bodyPost_ret (v := .agg #[.int .u8 (q / 256), .int .u8 (q % 256), .int .u8 s, .int .u8 b]) (by simp [results, Try.results26, go_sem]) rfl ⟨?_, ((Below.refl _ _).alloc (Nat.le_refl _) _).alloc (by simp) _⟩
  unfold hv
  rw [by8_nat (by omega) (by omega), by8_nat (by omega) (by omega), by8_nat (by omega) (by omega), by8_nat (by omega) (by omega)]

theorem second_w (c0 c1 c2 c3 : UInt8) (f : Int) (w : World) (h1 : 0 ≤ f) (h2 : f < 8) : Calls Try.prog 27 #[hv c0 c1 c2 c3, .int .i64 f] w (RetV (hv (nbU c0 f) (nbU c1 f) (nbU c2 f) (nbU c3 f)) w) := by
  have i0 : ∀ w, (Instr.index 54 (.agg #[.int .u8 c0.toNat, .int .u8 c1.toNat, .int .u8 c2.toNat, .int .u8 c3.toNat]) (.int .i64 0)).run Try.prog w = .ok (.int .u8 c0.toNat) w := fun _ => by kernel_rfl
  have i1 : ∀ w, (Instr.index 54 (.agg #[.int .u8 c0.toNat, .int .u8 c1.toNat, .int .u8 c2.toNat, .int .u8 c3.toNat]) (.int .i64 1)).run Try.prog w = .ok (.int .u8 c1.toNat) w := fun _ => by kernel_rfl
  have i2 : ∀ w, (Instr.index 54 (.agg #[.int .u8 c0.toNat, .int .u8 c1.toNat, .int .u8 c2.toNat, .int .u8 c3.toNat]) (.int .i64 2)).run Try.prog w = .ok (.int .u8 c2.toNat) w := fun _ => by kernel_rfl
  have i3 : ∀ w, (Instr.index 54 (.agg #[.int .u8 c0.toNat, .int .u8 c1.toNat, .int .u8 c2.toNat, .int .u8 c3.toNat]) (.int .i64 3)).run Try.prog w = .ok (.int .u8 c3.toNat) w := fun _ => by kernel_rfl
  unfold hv
  go_enter Try.func27, Try.ntmps27
  go_wp2
  refine wp_loop_rounds 5 ?_
  rw [rounds_succ]
  go_wp2
  rw [rounds_succ]
  go_wp2
  rw [rounds_succ]
  go_wp2
  rw [rounds_succ]
  go_wp2
  rw [rounds_succ]
  go_wp2
  refine bodyPost_ret (v := .agg #[.int .u8 (nbI c0.toNat f), .int .u8 (nbI c1.toNat f), .int .u8 (nbI c2.toNat f), .int .u8 (nbI c3.toNat f)]) (by simp [results, Try.results27, go_sem, nbI]) rfl ⟨?_, ((Below.refl _ _).alloc (Nat.le_refl _) _).alloc (by simp) _⟩
  rw [nb_nat, nb_nat, nb_nat, nb_nat]

end Go.Proofs.Ytcgfffkfmnbneaa
