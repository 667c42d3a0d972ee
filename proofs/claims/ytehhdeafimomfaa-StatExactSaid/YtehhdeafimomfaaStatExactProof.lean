/-
  The law StatExact returns true for every input, and each argument reads behind the call as it read before. No condition.
-/
import Derived.Test.YtehhdeafimomfaaRows
import Derived.Test.YtehhdeafimomfaaStat9
import Derived.ChangeOld
import Derived.Below
import Derived.WalkKit
import Derived.ProofKit
import Derived.OpenShut
import Derived.ShutString
namespace Go.Proofs.Ytehhdeafimomfaa.statExact
open Go.ChangeShapes Go.WideShapes Go.ChangeAt Go.RowKit
open Go.ChangeMaps (open_string shut_string)
set_option linter.unusedVariables false

theorem own : ownKnob Try.prog.godebug = none := by kernel_rfl
theorem laidOut : laidOutB Try.prog = true := by kernel_rfl

theorem list_take1 {l : List Value} {i : Nat} {v : Value} (h : (l.drop i).take 1 = [v]) : l[i]? = some v := by
  have := congrArg (·[0]?) h
  simpa [List.getElem?_take] using this
/-- A tally by value is a row of 21 numbers. -/
theorem open_tally {H : Type} {enc : TypeId × Value → H} {W : World} {r : Reach} {b0 base : Nat} {spare : Nat → Bool} {held : Bool} {v : Value} {d : DataW H} {p : List MemPlace}
    (hv : Value.okWide Try.prog W r b0 25 v) (h : DataW.Trod enc Try.prog W base spare held 25 v d p) : ∃ L : List Int, v = .agg (ic L) ∧ L.length = 21 := by
  obtain ⟨cs, rfl, hsz⟩ := okWide_struct Try.underlying25 hv
  have hs : cs.size = 21 := hsz.trans (by kernel_rfl)
  obtain ⟨fuel, hf⟩ := h
  obtain ⟨xs, n, _, _, hl, hxl, hg⟩ := DataW.trod_struct Try.underlying25 hf
  have hint : ∀ (m : Nat) (l : List Value) (y : DataW H × List MemPlace), DataW.trod enc Try.prog W base spare held m 3 l = some y → ∃ z, l = [.int .i64 z] := fun m l y hy => by
    obtain ⟨z, hz, _⟩ := DataW.trod_int Try.underlying3 hy
    exact ⟨z, hz⟩
  have hone : Try.prog.cellsOf 3 = 1 := by kernel_rfl
  have hxs : xs.length = 6 := hxl
  have hcs : (Value.agg cs).cells.toList = cs.toList := by simp [Value.cells]
  rw [hcs] at hg
  have cell : ∀ (m o : Nat) (l : List Value) (ys : List (DataW H × List MemPlace)) (k : Nat), k < ys.length → DataW.trod enc Try.prog W base spare held m 3 ((l.drop o).take (Try.prog.cellsOf 3)) = ys[k]? → ∃ z, l[o]? = some (.int .i64 z) := fun m o l ys k hk hy => by
    rw [List.getElem?_eq_getElem hk, hone] at hy
    obtain ⟨z, hz⟩ := hint _ _ _ hy
    exact ⟨z, list_take1 hz⟩
  have hall : ∀ i, i < 21 → ∃ z, cs[i]? = some (.int .i64 z) := by
    intro i hi
    by_cases h5 : i < 5
    · have := show ∃ z, cs.toList[i]? = some (.int .i64 z) by
        match i, h5 with
        | 0, _ => exact cell n 0 _ xs 0 (by omega) (hg 0 _ rfl)
        | 1, _ => exact cell n 1 _ xs 1 (by omega) (hg 1 _ rfl)
        | 2, _ => exact cell n 2 _ xs 2 (by omega) (hg 2 _ rfl)
        | 3, _ => exact cell n 3 _ xs 3 (by omega) (hg 3 _ rfl)
        | 4, _ => exact cell n 4 _ xs 4 (by omega) (hg 4 _ rfl)
      simpa using this
    · have h6 : DataW.trod enc Try.prog W base spare held n 23 ((cs.toList.drop 5).take (Try.prog.cellsOf 23)) = xs[5]? := hg 5 _ rfl
      rw [List.getElem?_eq_getElem (by omega)] at h6
      obtain ⟨ys, m, _, _, hl2, hyl, ha⟩ := DataW.trod_array Try.underlying23 h6
      have h7 := ha (i - 5) (by omega)
      obtain ⟨z, hz⟩ := cell m ((i - 5) * Try.prog.cellsOf 3) _ ys (i - 5) (by omega) h7
      refine ⟨z, ?_⟩
      rw [hone, show Try.prog.cellsOf 23 = 16 from by kernel_rfl] at hz
      rw [List.getElem?_take, if_pos (by omega), List.getElem?_drop] at hz
      have e : (5 : Nat) + (i - 5) * 1 = i := by omega
      simp only [e] at hz
      simpa using hz
  refine ⟨(List.range 21).map fun i => match cs[i]? with | some (Value.int _ z) => z | _ => 0, ?_, by simp⟩
  congr 1
  apply Array.ext
  · simp [ic, hs]
  · intro i h1 h2
    obtain ⟨z, hz⟩ := hall i (by omega)
    have hz' := hz
    rw [Array.getElem?_eq_getElem h1] at hz'
    injection hz' with hz'
    rw [hz']
    simp [ic, hz]

theorem walk (a0 a1 a2 a3 a4 a5 a6 : Int) (L : List Int) (w : World) (w0 : (Lit.int .i64 a0).wf = true) (hL : L.length = 21) :
    Calls Try.prog 6 #[.int .i64 a0, .int .i64 a1, .int .i64 a2, .int .i64 a3, .int .i64 a4, .int .i64 a5, .int .i64 a6, .agg (ic L)] w fun e w' => e = .returned (.bool true) ∧ Below w.heap.size w w' :=
  statExact_walk a0 a1 a2 a3 a4 a5 a6 L w (by simp [Lit.wf, IntKind.min, IntKind.max, IntKind.signed, IntKind.bits] at w0; omega) hL

set_option maxRecDepth 100000 in
theorem lifted (os : Os) (started : os.Started) (H : Type) (enc : TypeId × Value → H) :
    ReturnsInHanded {} Try.checked os 6 .any (Rows.statExactSpec.pre6 enc Try.prog Try.f6 Rows.statExactRow.domain false) (Rows.statExactSpec.post enc Try.prog Try.f6 false true false false) := by
  refine returnsInHanded_of_change (C := Try.checked) own started (by kernel_rfl) Try.func6
    (ChangeSpec.witness6 (enc := enc) (C := Try.checked) false ⟨#[], #[.int .i64 0, .int .i64 0, .int .i64 0, .int .i64 0, .int .i64 0, .int .i64 0, .int .i64 0, .agg (ic T0)], []⟩ 8 (by kernel_rfl) (by kernel_rfl) (by kernel_rfl) (by kernel_rfl)) ?_
  intro W base args ds gs before hval0 hW hcnd _
  have hval : ∀ (j : Nat) t v, Try.f6.params[j]? = some t → args[j]? = some v → Value.okWide Try.prog W .any base t v := hval0
  have hW' := hW
  obtain ⟨p, q, hA0, hV, rfl, hfz, hnd⟩ := hW
  have hA : DataW.TrodAll enc Try.prog W 0 (fun _ => true) true Try.f6.params.toList args.toList ds p := hA0
  rw [Try.params6] at hA hval
  obtain ⟨v0, vs0, d0, ds0, p0, q0, hargs, rfl, rfl, h0, r0⟩ := trodAll_cons hA
  obtain ⟨v1, vs1, d1, ds1, p1, q1, rfl, rfl, rfl, h1, r1⟩ := trodAll_cons r0
  obtain ⟨v2, vs2, d2, ds2, p2, q2, rfl, rfl, rfl, h2, r2⟩ := trodAll_cons r1
  obtain ⟨v3, vs3, d3, ds3, p3, q3, rfl, rfl, rfl, h3, r3⟩ := trodAll_cons r2
  obtain ⟨v4, vs4, d4, ds4, p4, q4, rfl, rfl, rfl, h4, r4⟩ := trodAll_cons r3
  obtain ⟨v5, vs5, d5, ds5, p5, q5, rfl, rfl, rfl, h5, r5⟩ := trodAll_cons r4
  obtain ⟨v6, vs6, d6, ds6, p6, q6, rfl, rfl, rfl, h6, r6⟩ := trodAll_cons r5
  obtain ⟨v7, vs7, d7, ds7, p7, q7, rfl, rfl, rfl, h7, r7⟩ := trodAll_cons r6
  obtain ⟨rfl, rfl, rfl⟩ := trodAll_nil r7
  obtain rfl : args = #[v0, v1, v2, v3, v4, v5, v6, v7] := by cases args; simp_all
  obtain ⟨rfl, rfl⟩ := trodVars_none hV
  obtain ⟨a0, rfl, rfl, rfl, w0⟩ := open_int Try.underlying3 (hval 0 3 v0 rfl rfl) h0
  obtain ⟨a1, rfl, rfl, rfl, w1⟩ := open_int Try.underlying3 (hval 1 3 v1 rfl rfl) h1
  obtain ⟨a2, rfl, rfl, rfl, w2⟩ := open_int Try.underlying3 (hval 2 3 v2 rfl rfl) h2
  obtain ⟨a3, rfl, rfl, rfl, w3⟩ := open_int Try.underlying3 (hval 3 3 v3 rfl rfl) h3
  obtain ⟨a4, rfl, rfl, rfl, w4⟩ := open_int Try.underlying3 (hval 4 3 v4 rfl rfl) h4
  obtain ⟨a5, rfl, rfl, rfl, w5⟩ := open_int Try.underlying3 (hval 5 3 v5 rfl rfl) h5
  obtain ⟨a6, rfl, rfl, rfl, w6⟩ := open_int Try.underlying3 (hval 6 3 v6 rfl rfl) h6
  have k7 := h7
  have lt7 : ∀ x ∈ p7, x.block < W.heap.size := by obtain ⟨m, hm⟩ := k7; exact DataW.trod_lt m _ _ _ hm
  obtain ⟨L, rfl, hL⟩ := open_tally (hval 7 25 v7 rfl rfl) h7
  clear hA0 hval0
  refine (walk a0 a1 a2 a3 a4 a5 a6 L W w0 hL).mono fun e W' ⟨he, bel⟩ => ?_
  subst he
  exact ⟨_, rfl, _, _, _, [], _, [], hW', trodAll_mk1 (shut_bool Try.underlying4 _), (trodAll_cons_mk (shut_int Try.underlying3 w0) (trodAll_cons_mk (shut_int Try.underlying3 w1) (trodAll_cons_mk (shut_int Try.underlying3 w2) (trodAll_cons_mk (shut_int Try.underlying3 w3) (trodAll_cons_mk (shut_int Try.underlying3 w4) (trodAll_cons_mk (shut_int Try.underlying3 w5) (trodAll_cons_mk (shut_int Try.underlying3 w6) (trodAll_cons_mk (Below.trod laidOut (by kernel_rfl) (of_decide_eq_true (by kernel_rfl)) k7 bel lt7) trodAll_mk0)))))))), rfl, bel.frame _, fun h => by cases h⟩

theorem over : Rows.statExactRow.holds Try.pinned (OpenSpec.ofChange Rows.statExactSpec) :=
  OpenClaim.holds_of_wide 6 Try.f6 rfl rfl rfl rfl rfl rfl rfl ⟨rfl, rfl, rfl, rfl, rfl⟩ rfl rfl rfl rfl rfl (by kernel_rfl) Try.func6 (by kernel_rfl)
    (of_decide_eq_true (by kernel_rfl)) (by unfold Func.isWrapper; first | (rw [if_pos (by decide +kernel)]; kernel_rfl) | (rw [if_neg (by decide +kernel)]; exact ⟨rfl, rfl⟩))
    (fun os started H enc _ => lifted os started H enc)

/-- ████ THE STATEMENT ████ -/
theorem proved : Rows.StatExactSaid := over
#print axioms proved
end Go.Proofs.Ytehhdeafimomfaa.statExact
