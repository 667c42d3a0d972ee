/-
  The law VolumeExact returns true for every input, and each argument reads behind the call as it read before. No condition.
-/
import Derived.Test.YtdeggdbaeeamiaaRows
import Derived.Test.YtdeggdbaeeamiaaVolV
import Derived.ChangeOld
import Derived.Below
import Derived.WalkKit
import Derived.ProofKit
import Derived.OpenShut
import Derived.ShutString
namespace Go.Proofs.Ytdeggdbaeeamiaa.volumeExact
open Go.ChangeShapes Go.WideShapes Go.ChangeAt Go.RowKit
open Go.ChangeMaps (open_string shut_string)
set_option linter.unusedVariables false

theorem own : ownKnob Try.prog.godebug = none := by kernel_rfl
theorem laidOut : laidOutB Try.prog = true := by kernel_rfl

theorem list_take1 {l : List Value} {i : Nat} {v : Value} (h : (l.drop i).take 1 = [v]) : l[i]? = some v := by
  have := congrArg (·[0]?) h
  simpa [List.getElem?_take] using this
theorem seg_list {f : Nat → Seg → Prop} : ∀ m, (∀ i, i < m → ∃ x, f i x) → ∃ L : List Seg, L.length = m ∧ ∀ i x, L[i]? = some x → f i x
  | 0, _ => ⟨[], rfl, fun i x h => by simp at h⟩
  | m + 1, h => by
    obtain ⟨L, hl, hL⟩ := seg_list m (fun i hi => h i (by omega))
    obtain ⟨x, hx⟩ := h m (by omega)
    refine ⟨L ++ [x], by simp [hl], fun i y hy => ?_⟩
    by_cases hi : i < m
    · rw [List.getElem?_append_left (by omega)] at hy
      exact hL i y hy
    · rw [List.getElem?_append_right (by omega)] at hy
      have hil := (List.getElem?_eq_some_iff.1 hy).1
      simp at hil
      have : i = m := by omega
      subst this
      simp [hl] at hy
      rw [← hy]; exact hx
/-- A part, in three cells. -/
theorem open_seg {H : Type} {enc : TypeId × Value → H} {W : World} {base n : Nat} {spare : Nat → Bool} {held : Bool} {a : Addr} {y : DataW H × List MemPlace}
    (h : (W.cells? base a (Try.prog.cellsOf 35)).bind (DataW.trod enc Try.prog W base spare held n 35) = some y) :
    ∃ x : Seg, a.block < W.heap.size ∧ W.cell? (a.add 0) = some (.int .i64 x.1) ∧ W.cell? (a.add 1) = some (.int .i64 x.2.1) ∧ W.cell? (a.add 2) = some (.int .i64 x.2.2) := by
  rw [show Try.prog.cellsOf 35 = 3 from by kernel_rfl, Option.bind_eq_some_iff] at h
  obtain ⟨cs, hcs, hy⟩ := h
  have hbl := World.cells?_block hcs (by omega)
  obtain ⟨_, hl, hc⟩ := World.cells?_some hcs
  obtain ⟨xs, m, _, _, _, hxl, hg⟩ := DataW.trod_struct Try.underlying35 hy
  have hone : Try.prog.cellsOf 3 = 1 := by kernel_rfl
  have hxs : xs.length = 3 := hxl
  have cell : ∀ (o k : Nat), k < xs.length → DataW.trod enc Try.prog W base spare held m 3 ((cs.drop o).take (Try.prog.cellsOf 3)) = xs[k]? → ∃ z, cs[o]? = some (.int .i64 z) := fun o k hk hy => by
    rw [List.getElem?_eq_getElem hk, hone] at hy
    obtain ⟨z, hz, _⟩ := DataW.trod_int Try.underlying3 hy
    exact ⟨z, list_take1 hz⟩
  obtain ⟨z0, h0⟩ := cell 0 0 (by omega) (hg 0 _ rfl)
  obtain ⟨z1, h1⟩ := cell 1 1 (by omega) (hg 1 _ rfl)
  obtain ⟨z2, h2⟩ := cell 2 2 (by omega) (hg 2 _ rfl)
  exact ⟨(z0, z1, z2), hbl, (hc 0 (by omega)).trans h0, (hc 1 (by omega)).trans h1, (hc 2 (by omega)).trans h2⟩
/-- A volume by value: two numbers and a slice of parts. -/
theorem open_volume {H : Type} {enc : TypeId × Value → H} {W : World} {r : Reach} {b0 base : Nat} {spare : Nat → Bool} {held : Bool} {v : Value} {d : DataW H} {p : List MemPlace}
    (hv : Value.okWide Try.prog W r b0 24 v) (h : DataW.Trod enc Try.prog W base spare held 24 v d p) : ∃ kd ch A L cap, v = volV kd ch A L.length cap ∧ L.length ≤ cap ∧ L.length ≤ maxLen ∧ PA W A L := by
  obtain ⟨cs, rfl, hsz⟩ := okWide_struct Try.underlying24 hv
  have hs : cs.size = 3 := hsz.trans (by kernel_rfl)
  obtain ⟨fuel, hf⟩ := h
  obtain ⟨xs, n, _, _, hl, hxl, hg⟩ := DataW.trod_struct Try.underlying24 hf
  have hone : Try.prog.cellsOf 3 = 1 := by kernel_rfl
  have hone2 : Try.prog.cellsOf 22 = 1 := by kernel_rfl
  have hxs : xs.length = 3 := hxl
  have hcs : (Value.agg cs).cells.toList = cs.toList := by simp [Value.cells]
  rw [hcs] at hg
  have cell : ∀ (o k : Nat), k < xs.length → DataW.trod enc Try.prog W base spare held n 3 ((cs.toList.drop o).take (Try.prog.cellsOf 3)) = xs[k]? → ∃ z, cs.toList[o]? = some (.int .i64 z) := fun o k hk hy => by
    rw [List.getElem?_eq_getElem hk, hone] at hy
    obtain ⟨z, hz, _⟩ := DataW.trod_int Try.underlying3 hy
    exact ⟨z, list_take1 hz⟩
  obtain ⟨kd, h0⟩ := cell 0 0 (by omega) (hg 0 _ rfl)
  obtain ⟨ch, h1⟩ := cell 1 1 (by omega) (hg 1 _ rfl)
  have h2 : DataW.trod enc Try.prog W base spare held n 22 ((cs.toList.drop 2).take (Try.prog.cellsOf 22)) = xs[2]? := hg 2 _ rfl
  rw [List.getElem?_eq_getElem (show 2 < xs.length by omega), hone2] at h2
  have hlist : ∀ sv, cs.toList[2]? = some sv → Value.agg cs = .agg #[.int .i64 kd, .int .i64 ch, sv] := fun sv h3 => by
    congr 1
    apply Array.ext
    · simp [hs]
    · intro i hi1 hi2
      have : i = 0 ∨ i = 1 ∨ i = 2 := by omega
      rcases this with rfl | rfl | rfl
      · have := h0; rw [Array.getElem?_toList, Array.getElem?_eq_getElem hi1] at this; injection this
      · have := h1; rw [Array.getElem?_toList, Array.getElem?_eq_getElem hi1] at this; injection this
      · have := h3; rw [Array.getElem?_toList, Array.getElem?_eq_getElem hi1] at this; injection this
  rcases DataW.trod_slice Try.underlying22 h2 with ⟨e, _⟩ | ⟨a, len, cap, elems, rest, m, _, e, _, _, hlc, hcm, hel, hE, _⟩
  · exact ⟨kd, ch, none, [], 0, hlist _ (list_take1 e), Nat.le_refl _, by simp, .inl rfl⟩
  · have hseg : ∀ i, i < len → ∃ x : Seg, (a.add (i * 3)).block < W.heap.size ∧ W.cell? ((a.add (i * 3)).add 0) = some (.int .i64 x.1) ∧ W.cell? ((a.add (i * 3)).add 1) = some (.int .i64 x.2.1) ∧ W.cell? ((a.add (i * 3)).add 2) = some (.int .i64 x.2.2) := fun i hi => by
      have := hE i hi
      rw [List.getElem?_eq_getElem (by omega)] at this
      have h3 := open_seg this
      rw [show Try.prog.cellsOf 35 = 3 from by kernel_rfl] at h3
      exact h3
    obtain ⟨L, hLl, hL⟩ := seg_list len hseg
    refine ⟨kd, ch, some a, L, cap, ?_, by omega, by omega, ?_⟩
    · rw [hLl]; exact hlist _ (list_take1 e)
    · by_cases h0 : L = []
      · exact .inl h0
      · have hlen : 0 < len := by rw [← hLl]; exact List.length_pos_iff.2 h0
        obtain ⟨c, o, sp⟩ := a
        cases sp with
        | none =>
          have hadd : ∀ i j, ((⟨c, o, none⟩ : Addr).add i).add j = ⟨c, o + i + j, none⟩ := fun i j => by
            have h1 : ∀ o i, (⟨c, o, none⟩ : Addr).add i = ⟨c, o + i, none⟩ := fun o i => by unfold Addr.add; split <;> simp_all
            rw [h1, h1]
          have hadd1 : ∀ i, ((⟨c, o, none⟩ : Addr).add i).block = c := fun i => by unfold Addr.add; split <;> rfl
          refine .inr ⟨c, o, rfl, ?_, fun i d s ct hi => ?_⟩
          · obtain ⟨_, hb, _⟩ := hseg 0 hlen
            rw [hadd1] at hb
            exact hb
          · obtain ⟨_, g0, g1, g2⟩ := hL i _ hi
            rw [hadd] at g0 g1 g2
            exact ⟨by simpa using g0, g1, g2⟩
        | some s =>
          exfalso
          obtain ⟨_, _, g0, _⟩ := hseg 0 hlen
          simp [World.cell?, Addr.add] at g0
          split at g0 <;> cases g0

set_option maxRecDepth 100000 in
theorem lifted (os : Os) (started : os.Started) (H : Type) (enc : TypeId × Value → H) :
    ReturnsInHanded {} Try.checked os 8 .any (Rows.volumeExactSpec.pre6 enc Try.prog Try.f8 Rows.volumeExactRow.domain false) (Rows.volumeExactSpec.post enc Try.prog Try.f8 false true false false) := by
  refine returnsInHanded_of_change (C := Try.checked) own started (by kernel_rfl) Try.func8
    (ChangeSpec.witness6 (enc := enc) (C := Try.checked) false ⟨#[], #[.agg #[.int .i64 0, .int .i64 0, .slice none 0 0], .slice none 0 0, .int .i64 0, .int .i64 0, .int .i64 0, .int .i64 0], []⟩ 8 (by kernel_rfl) (by kernel_rfl) (by kernel_rfl) (by kernel_rfl)) ?_
  intro W base args ds gs before hval0 hW hcnd _
  have hval : ∀ (j : Nat) t v, Try.f8.params[j]? = some t → args[j]? = some v → Value.okWide Try.prog W .any base t v := hval0
  have hW' := hW
  obtain ⟨p, q, hA0, hV, rfl, hfz, hnd⟩ := hW
  have hA : DataW.TrodAll enc Try.prog W 0 (fun _ => true) true Try.f8.params.toList args.toList ds p := hA0
  rw [Try.params8] at hA hval
  obtain ⟨v0, vs0, d0, ds0, p0, q0, hargs, rfl, rfl, h0, r0⟩ := trodAll_cons hA
  obtain ⟨v1, vs1, d1, ds1, p1, q1, rfl, rfl, rfl, h1, r1⟩ := trodAll_cons r0
  obtain ⟨v2, vs2, d2, ds2, p2, q2, rfl, rfl, rfl, h2, r2⟩ := trodAll_cons r1
  obtain ⟨v3, vs3, d3, ds3, p3, q3, rfl, rfl, rfl, h3, r3⟩ := trodAll_cons r2
  obtain ⟨v4, vs4, d4, ds4, p4, q4, rfl, rfl, rfl, h4, r4⟩ := trodAll_cons r3
  obtain ⟨v5, vs5, d5, ds5, p5, q5, rfl, rfl, rfl, h5, r5⟩ := trodAll_cons r4
  obtain ⟨rfl, rfl, rfl⟩ := trodAll_nil r5
  obtain rfl : args = #[v0, v1, v2, v3, v4, v5] := by cases args; simp_all
  obtain ⟨rfl, rfl⟩ := trodVars_none hV
  obtain ⟨a2, rfl, rfl, rfl, w2⟩ := open_int Try.underlying3 (hval 2 3 v2 rfl rfl) h2
  obtain ⟨a3, rfl, rfl, rfl, w3⟩ := open_int Try.underlying3 (hval 3 3 v3 rfl rfl) h3
  obtain ⟨a4, rfl, rfl, rfl, w4⟩ := open_int Try.underlying3 (hval 4 3 v4 rfl rfl) h4
  obtain ⟨a5, rfl, rfl, rfl, w5⟩ := open_int Try.underlying3 (hval 5 3 v5 rfl rfl) h5
  have k0 := h0
  have lt0 : ∀ x ∈ p0, x.block < W.heap.size := by obtain ⟨m, hm⟩ := k0; exact DataW.trod_lt m _ _ _ hm
  obtain ⟨kd, ch, A, L, cap, rfl, hLc, hLm, hPA⟩ := open_volume (hval 0 24 v0 rfl rfl) h0
  obtain ⟨B, len1, cap1, rfl⟩ := okWide_slice Try.underlying43 (hval 1 43 v1 rfl rfl)
  have k1 := h1
  have lt1 : ∀ x ∈ p1, x.block < W.heap.size := by obtain ⟨m, hm⟩ := k1; exact DataW.trod_lt m _ _ _ hm
  obtain ⟨z1, w1⟩ : ∃ zs, IsRow .i64 W B len1 cap1 zs := by
    obtain ⟨fuel, hf⟩ := h1
    rcases open_ints Try.underlying43 Try.underlying3 (by kernel_rfl) hf with ⟨hcs, _⟩ | ⟨x, l, c, zs, hcs, _, hl, hm, hz, _, hcell, hwz⟩
    · simp [Value.cells] at hcs
      obtain ⟨rfl, rfl, rfl⟩ := hcs
      exact ⟨[], .inl ⟨rfl, rfl, rfl, rfl⟩⟩
    · simp [Value.cells] at hcs
      obtain ⟨rfl, rfl, rfl⟩ := hcs
      exact ⟨zs, .inr ⟨_, rfl, hl, hm, by simpa using hz, hcell, hwz⟩⟩
  obtain ⟨zs, rfl, hzm, hZA⟩ := row_za w1
  clear hA0 hval0
  refine (volumeExact_walk kd ch A L cap B zs cap1 a2 a3 a4 a5 W hPA hLm hLc hZA hzm).mono fun e W' ⟨he, bel⟩ => ?_
  subst he
  exact ⟨_, rfl, _, _, _, [], _, [], hW', trodAll_mk1 (shut_bool Try.underlying4 _), (trodAll_cons_mk (Below.trod laidOut (by kernel_rfl) (of_decide_eq_true (by kernel_rfl)) k0 bel lt0) (trodAll_cons_mk (Below.trod laidOut (by kernel_rfl) (of_decide_eq_true (by kernel_rfl)) k1 bel lt1) (trodAll_cons_mk (shut_int Try.underlying3 w2) (trodAll_cons_mk (shut_int Try.underlying3 w3) (trodAll_cons_mk (shut_int Try.underlying3 w4) (trodAll_cons_mk (shut_int Try.underlying3 w5) trodAll_mk0)))))), rfl, bel.frame _, fun h => by cases h⟩

theorem over : Rows.volumeExactRow.holds Try.pinned (OpenSpec.ofChange Rows.volumeExactSpec) :=
  OpenClaim.holds_of_wide 8 Try.f8 rfl rfl rfl rfl rfl rfl rfl ⟨rfl, rfl, rfl, rfl, rfl⟩ rfl rfl rfl rfl rfl (by kernel_rfl) Try.func8 (by kernel_rfl)
    (of_decide_eq_true (by kernel_rfl)) (by unfold Func.isWrapper; first | (rw [if_pos (by decide +kernel)]; kernel_rfl) | (rw [if_neg (by decide +kernel)]; exact ⟨rfl, rfl⟩))
    (fun os started H enc _ => lifted os started H enc)

/-- ████ THE STATEMENT ████ -/
theorem proved : Rows.VolumeExactSaid := over
#print axioms proved
end Go.Proofs.Ytdeggdbaeeamiaa.volumeExact
