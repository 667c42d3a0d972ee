/-
  Two halves of a sector are compared; the first two bytes as one number.
-/
import Derived.Test.YtcgfffkfmnbneaaIno2
import Derived.Laws.StructEq
import Derived.ChangeKeysEq
import Derived.Laws.BitsAllLaws
namespace Go.Proofs.Ytcgfffkfmnbneaa
open Go.RowKit
set_option linter.unusedVariables false
set_option linter.unusedSimpArgs false

theorem info_of {P : Program} {t : TypeId} {n : Nat} (h : (P.info? t).map (·.size) = some n) : ∃ j, P.info? t = some j ∧ j.size = n := by
  cases hj : P.info? t with
  | none => rw [hj] at h; cases h
  | some j => rw [hj] at h; exact ⟨j, rfl, by simpa using h⟩
theorem part_u8 (xs : Array Value) (i : Nat) (n : Int) (w : World) (h : xs[i]? = some (.int .u8 n)) : (part 5 xs i).run Try.prog w = .ok (.int .u8 n) w := by
  simp [part, isAgg, run_underlying Try.underlying5, go_sem, h]
theorem item_u8 (d : Nat) (xs ys : Array Value) (is : List Nat) (w : World) (i : Nat) (x y : Int) (hx : xs[i]? = some (.int .u8 x)) (hy : ys[i]? = some (.int .u8 y)) :
    (Op.eqItems (d + 1) 5 1 xs ys (i :: is)).run Try.prog w = if x == y then (Op.eqItems (d + 1) 5 1 xs ys is).run Try.prog w else .ok false w := by
  have h1 := part_u8 xs i x w hx
  have h2 := part_u8 ys i y w hy
  have h3 := run_equalIn_int w d 5 .u8 .u8 x y Try.underlying5
  simp only [Op.eqItems, Nat.mul_one, Sem.run_ite, Sem.run_bind, h1, h2, h3, Result.andThen_ok]
  by_cases h : x = y
  · subst h; simp
  · simp [h, Sem.run_pure]
theorem half_neq (a b c d e g h i : UInt8) (w : World) :
    (binOp .neq 54 (hv a b c d) (hv e g h i)).run Try.prog w = .ok (.bool (!(a == e && b == g && c == h && d == i))) w := by
  obtain ⟨k, hk, hks⟩ := info_of (P := Try.prog) (t := 5) (n := 1) (by kernel_rfl)
  have hc : Try.prog.cellsOf 5 = 1 := by kernel_rfl
  rw [run_neq_struct, show (10000 : Nat) = 9999 + 1 from rfl, run_equalIn_array w 9999 _ _ Try.underlying54 hk, hc]
  rw [show List.range 4 = [0, 1, 2, 3] from rfl, show (9999 : Nat) = 9998 + 1 from rfl]
  rw [item_u8 9998 _ _ _ w 0 a.toNat e.toNat rfl rfl, item_u8 9998 _ _ _ w 1 b.toNat g.toNat rfl rfl, item_u8 9998 _ _ _ w 2 c.toNat h.toNat rfl rfl, item_u8 9998 _ _ _ w 3 d.toNat i.toNat rfl rfl]
  have q : ∀ x y : UInt8, ((x.toNat : Int) == (y.toNat : Int)) = (x == y) := fun x y => by
    rw [Bool.eq_iff_iff]
    simp only [beq_iff_eq]
    constructor
    · intro h; exact UInt8.toNat_inj.1 (by omega)
    · rintro rfl; rfl
  rw [q, q, q, q]
  cases a == e <;> cases b == g <;> cases c == h <;> cases d == i <;> simp [Op.eqItems, Sem.run_pure]

theorem bits_or_i64_nat (a b : Nat) (ha : a < 9223372036854775808) (hb : b < 9223372036854775808) :
    bits .or .i64 (a : Int) (b : Int) = ((a ||| b : Nat) : Int) := by
  have hx : a ||| b < 2 ^ 63 := Nat.or_lt_two_pow (by omega) (by omega)
  have h1 : (BitVec.ofInt 64 (a : Int)).toNat = a := by
    rw [BitVec.ofInt_natCast, BitVec.toNat_ofNat]; exact Nat.mod_eq_of_lt (by omega)
  have h2 : (BitVec.ofInt 64 (b : Int)).toNat = b := by
    rw [BitVec.ofInt_natCast, BitVec.toNat_ofNat]; exact Nat.mod_eq_of_lt (by omega)
  show IntKind.i64.wrap ((BitVec.ofInt 64 (a : Int) ||| BitVec.ofInt 64 (b : Int)).toNat : Int) = _
  rw [BitVec.toNat_or, h1, h2]
  exact IntWalk.i64_in _ (by omega)
theorem or_bytes (a b : UInt8) : bits .or .i64 ((a.toNat : Int) * 256) (b.toNat : Int) = (a.toNat : Int) * 256 + b.toNat := by
  have ha := a.toNat_lt
  have hb := b.toNat_lt
  have e : ((a.toNat : Int) * 256) = ((a.toNat * 256 : Nat) : Int) := by omega
  rw [e, bits_or_i64_nat _ _ (by omega) (by omega), nat_join 8 _ _ (by omega) (by omega)]
  omega
theorem byte_le (a : UInt8) : (a.toNat : Int) ≤ 255 := by have := a.toNat_lt; omega

theorem heap_drew (w : World) (i : Nat) : w.drew.heap[i]? = w.heap[i]? := rfl
theorem heap_at_new (w : World) (o : Obj) (n : Nat) (h : w.heap.size = n) : (w.alloc o).heap[n]? = some o := by
  subst h
  exact heap_alloc_new w o
theorem heap_at_old (w : World) (o : Obj) (n : Nat) (h : n < w.heap.size) : (w.alloc o).heap[n]? = w.heap[n]? := Below.heap_alloc w o n h

/-- Eight bytes are the sector of an inode. -/
def ok8 (a b c d e g h i : UInt8) (f : Int) : Bool := (nbU a f == e && nbU b f == g && nbU c f == h && nbU d f == i) && decide ((c.toNat : Int) ≤ 128)
/-- What Decode answers. -/
def RetDec (ok : Bool) (q s b : Int) (w : World) (e : Ending) (w' : World) : Prop := e = .returned (.tuple #[.agg (if ok = true then #[.int .i64 q, .int .i64 s, .int .i64 b] else #[.int .i64 0, .int .i64 0, .int .i64 0]), .bool ok]) ∧ Below w.heap.size w w'

end Go.Proofs.Ytcgfffkfmnbneaa
