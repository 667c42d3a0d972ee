/-
  Decode and Choose at any strings, by contracts; the law's sanity check.
-/
import Derived.Test.YtcgfffkfmnbneaaIno4
import Derived.Test.YtcgfffkfmnbneaaIno7
import Derived.Test.YtcgfffkfmnbneaaIno8
namespace Go.Proofs.Ytcgfffkfmnbneaa
open Go.RowKit
set_option linter.unusedVariables false
set_option linter.unusedSimpArgs false

theorem decode_w (s : ByteArray) (f : Int) (w : World) (hm : s.size ≤ maxLen) : Calls Try.prog 13 #[.string s, .int .i64 f] w (RetX s f w) := by
  by_cases h : s.size = 8 ∧ 0 ≤ f ∧ f < 8
  · obtain ⟨h8, h1, h2⟩ := h
    obtain ⟨a, b, c, d, e, g, h, i, rfl⟩ := size8 s h8
    exact (decode_8 a b c d e g h i f w h1 h2).mono fun en w' H => retx_of a b c d e g h i f h1 h2 w en w' H
  · exact (decode_bad s f w h hm).mono fun en w' H => retx_bad s f h w en w' H
theorem dec_zero (s : ByteArray) (f : Int) (h : decOk s f = false) : decQ s f = 0 ∧ decS s f = 0 ∧ decB s f = 0 := by simp [decQ, decS, decB, h]
abbrev RetCh (a b : ByteArray) (f : Int) (w : World) : Ending → World → Prop := RetC (decOk a f) (decOk b f) (decQ a f) (decS a f) (decB a f) (decQ b f) (decS b f) (decB b f) w
theorem choose_w (a b : ByteArray) (f : Int) (w : World) (ha : a.size ≤ maxLen) (hb : b.size ≤ maxLen) : Calls Try.prog 15 #[.string a, .string b, .int .i64 f] w (RetCh a b f w) :=
  choose_any a b f w _ _ _ _ _ _ _ _ (dec_zero a f) (fun w => decode_w a f w ha) (fun w => decode_w b f w hb)
theorem rchoose_w (a b : ByteArray) (f : Int) (w : World) (ha : a.size ≤ maxLen) (hb : b.size ≤ maxLen) : Calls Try.prog 16 #[.string a, .string b, .int .i64 f] w (RetCh a b f w) :=
  rchoose_any a b f w _ _ _ _ _ _ _ _ (dec_zero a f) (fun w => rdecode_w a f w ha) (fun w => rdecode_w b f w hb)


end Go.Proofs.Ytcgfffkfmnbneaa
