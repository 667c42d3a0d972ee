/-
  The law StatOrder: the walk.
-/
import Derived.Test.YtehhdeafimomfaaStat5
namespace Go.Proofs.Ytehhdeafimomfaa
open Go.RowKit
set_option linter.unusedVariables false

theorem wpQuiet_eql {P : Program} {ops : Array Oper} {C : World → Prop} {rest : List Oper} {o : Oper} {a : Act} {Q : Act → Prop} (hgd : o.guard = none) (ty rt : TypeId) (x y : Operand) (ho : o.op = .binOp .eql ty x y rt)
    (xs : Array Value) (hx : a.eval x = .agg xs) (hy : a.eval y = .agg xs) (hm : P.eqGuardType P.depth ty = false) (hs : ∀ w, (binOp .eql ty (.agg xs) (.agg xs)).run P w = .ok (.bool true) w)
    (h : wpQuiet P ops C Q rest (a.put o.dst (.bool true))) : wpQuiet P ops C Q (o :: rest) a :=
  wpQuiet_step fun K hK => by
    rw [if_pos (by simp [Region.wanted, hgd])]
    refine ⟨.bool true, fun w hw => ?_, hK _ h⟩
    unfold Oper.quietAt execOp
    simp only [ho, hx, hy, Sem.run_bind, run_eqGuard_agg _ .eql ty x y xs xs hm, Result.andThen_ok, hs, Sem.run_pure]
    exact ⟨rfl, rfl⟩

theorem row_fact {w : World} {a : Option Addr} {len cap : Nat} {zs : List Int} (h : IsRow .i64 w a len cap zs) :
    len ≤ maxLen ∧ ∀ i, i < len → ∃ c o x, a = some ⟨c, o, none⟩ ∧ c < w.heap.size ∧ w.cell? ⟨c, o + i, none⟩ = some (.int .i64 x) := by
  refine ⟨?_, ?_⟩
  · rcases h with ⟨_, rfl, _⟩ | ⟨x, _, h1, h2, _⟩
    · exact Nat.zero_le _
    · exact Nat.le_trans h1 h2
  · intro i hi
    rcases h with ⟨_, rfl, _⟩ | ⟨x, rfl, h1, h2, h3, h4, h5⟩
    · omega
    · obtain ⟨c, o, sp⟩ := x
      have hc := h4 i (by omega)
      have hc0 := h4 0 (by omega)
      have hsp : sp = none := by simpa [Addr.add] using World.cell?_spot hc0
      subst hsp
      have e : (⟨c, o, none⟩ : Addr).add i = ⟨c, o + i, none⟩ := by
        unfold Addr.add
        split
        · rename_i h; subst h; rfl
        · rfl
      rw [e] at hc
      exact ⟨c, o, zs.getD i 0, rfl, World.block_lt_of_cell? w ⟨c, o + i, none⟩ hc, hc⟩

theorem lget_set (L : List Int) (i j : Nat) (v : Int) (hi : i < L.length) : lget (L.set i v) j = if i = j then v else lget L j := by
  unfold lget
  by_cases h : i = j
  · subst h; simp [hi]
  · simp [h, List.getElem?_set_ne h]
theorem len1 (L : List Int) : (note1 L).length = L.length := by simp [note1]
theorem len2 (K : Nat) (L : List Int) : (note2 K L).length = L.length := by simp [note2]
theorem len3 (c e : Int) (L : List Int) : (note3 c e L).length = L.length := by unfold note3; split <;> simp
theorem len4 (x : Int) (L : List Int) : (note4 x L).length = L.length := by simp [note4]
theorem len5 (x : Int) (L : List Int) : (note5 x L).length = L.length := by simp [note5]
theorem noteL_len (L : List Int) (c e x : Int) : (noteL L c e x).length = L.length := by
  unfold noteL
  rw [len5, len4, len3, len2, len1]
theorem get1 (L : List Int) (hL : L.length = 21) (j : Nat) : lget (note1 L) j = if 0 = j then wrap64 (lget L 0 + 1) else lget L j := lget_set _ _ _ _ (by omega)
theorem get2 (K : Nat) (hK : K ≤ 15) (L : List Int) (hL : L.length = 21) (j : Nat) : lget (note2 K L) j = if 5 + K = j then wrap64 (lget L (5 + K) + 1) else lget L j := lget_set _ _ _ _ (by omega)
theorem get3 (c e : Int) (L : List Int) (hL : L.length = 21) (j : Nat) : lget (note3 c e L) j = if e = 0 then (if 1 = j then wrap64 (lget L 1 + clI c) else lget L j) else (if 2 = j then wrap64 (lget L 2 + 1) else lget L j) := by
  unfold note3
  split
  · exact lget_set _ _ _ _ (by omega)
  · exact lget_set _ _ _ _ (by omega)
theorem get4 (x : Int) (L : List Int) (hL : L.length = 21) (j : Nat) : lget (note4 x L) j = if 3 = j then wrap64 (lget L 3 + clI x) else lget L j := lget_set _ _ _ _ (by omega)
theorem get5 (x : Int) (L : List Int) (hL : L.length = 21) (j : Nat) : lget (note5 x L) j = if 4 = j then max (lget L 4) (clI x) else lget L j := lget_set _ _ _ _ (by omega)
theorem note_get (L : List Int) (hL : L.length = 21) (c e x : Int) (j : Nat) (hj : j < 21) :
    lget (noteL L c e x) j = if j = 0 then wrap64 (lget L 0 + 1) else if j = 1 then (if e = 0 then wrap64 (lget L 1 + clI c) else lget L 1) else if j = 2 then (if e = 0 then lget L 2 else wrap64 (lget L 2 + 1))
      else if j = 3 then wrap64 (lget L 3 + clI x) else if j = 4 then max (lget L 4) (clI x) else if j = 5 + bkN (clI x).toNat then wrap64 (lget L j + 1) else lget L j := by
  have hk : bkN (clI x).toNat ≤ 15 := aux_le 15 _
  generalize hK : bkN (clI x).toNat = K at hk
  unfold noteL
  rw [hK]
  have l1 : (note1 L).length = 21 := by rw [len1, hL]
  have l2 : (note2 K (note1 L)).length = 21 := by rw [len2, l1]
  have l3 : (note3 c e (note2 K (note1 L))).length = 21 := by rw [len3, l2]
  have l4 : (note4 x (note3 c e (note2 K (note1 L)))).length = 21 := by rw [len4, l3]
  have g1 := get1 L hL
  have g2 := get2 K hk (note1 L) l1
  have g3 := get3 c e _ l2
  have g4 := get4 x _ l3
  have g5 := get5 x _ l4
  have z0 : ¬ 5 + K = 0 := by omega
  have z1 : ¬ 5 + K = 1 := by omega
  have z2 : ¬ 5 + K = 2 := by omega
  have z3 : ¬ 5 + K = 3 := by omega
  have z4 : ¬ 5 + K = 4 := by omega
  have y0 : ¬ 0 = 5 + K := by omega
  rcases (by omega : j = 0 ∨ j = 1 ∨ j = 2 ∨ j = 3 ∨ j = 4 ∨ 5 ≤ j) with rfl | rfl | rfl | rfl | rfl | h5
  · simp only [g5, g4, g3, g2, g1, z0]; simp
  · simp only [g5, g4, g3, g2, g1, z0, z1]; simp
  · simp only [g5, g4, g3, g2, g1, z0, z1, z2]; simp
  · simp only [g5, g4, g3, g2, g1, z0, z1, z2, z3]; simp
  · simp only [g5, g4, g3, g2, g1, z0, z1, z2, z3, z4]; simp
  · have a0 : ¬ j = 0 := by omega
    have a1 : ¬ j = 1 := by omega
    have a2 : ¬ j = 2 := by omega
    have a3 : ¬ j = 3 := by omega
    have a4 : ¬ j = 4 := by omega
    have b0 : ¬ 0 = j := by omega
    have b1 : ¬ 1 = j := by omega
    have b2 : ¬ 2 = j := by omega
    have b3 : ¬ 3 = j := by omega
    have b4 : ¬ 4 = j := by omega
    simp only [g5, g4, g3, g2, g1, a0, a1, a2, a3, a4, b0, b1, b2, b3, b4, y0, if_false, ite_self]
    by_cases hj5 : j = 5 + K
    · subst hj5; simp
    · rw [if_neg hj5, if_neg (fun h => hj5 h.symm)]
theorem w64_comm (a b c : Int) : wrap64 (wrap64 (a + b) + c) = wrap64 (wrap64 (a + c) + b) := by unfold wrap64; omega
theorem note_comm (L : List Int) (hL : L.length = 21) (p q v u : Int) : noteL (noteL L p 0 v) q 10 u = noteL (noteL L q 10 u) p 0 v := by
  apply List.ext_getElem (by simp only [noteL_len])
  intro j h1 h2
  simp only [noteL_len, hL] at h1
  have g : ∀ (M : List Int) (h : j < M.length), M[j] = lget M j := fun M h => by simp [lget, h]
  rw [g, g, note_get (noteL L p 0 v) (by rw [noteL_len, hL]) q 10 u j h1, note_get (noteL L q 10 u) (by rw [noteL_len, hL]) p 0 v j h1]
  have k := fun (c e x : Int) (i : Nat) (hi : i < 21) => note_get L hL c e x i hi
  rcases (by omega : j = 0 ∨ j = 1 ∨ j = 2 ∨ j = 3 ∨ j = 4 ∨ 5 ≤ j) with rfl | rfl | rfl | rfl | rfl | h5
  · simp [k]
  · simp [k]
  · simp [k]
  · simp [k]; exact w64_comm _ _ _
  · simp [k]; omega
  · have a0 : ¬ j = 0 := by omega
    have a1 : ¬ j = 1 := by omega
    have a2 : ¬ j = 2 := by omega
    have a3 : ¬ j = 3 := by omega
    have a4 : ¬ j = 4 := by omega
    simp only [k _ _ _ j h1, a0, a1, a2, a3, a4, if_false]
    split <;> split <;> first | rfl | (rw [w64_comm]; done)

theorem order_pack (L : List Int) (hL : L.length = 21) (p q v u : Int) : ∃ A B R : List Int, R.length = 21 ∧
    (∀ w, Calls Try.prog 9 #[.agg (ic L), .int .i64 p, .int .i64 0, .int .i64 v] w fun e w' => e = .returned (.agg (ic A)) ∧ Below w.heap.size w w') ∧
    (∀ w, Calls Try.prog 9 #[.agg (ic A), .int .i64 q, .int .i64 10, .int .i64 u] w fun e w' => e = .returned (.agg (ic R)) ∧ Below w.heap.size w w') ∧
    (∀ w, Calls Try.prog 9 #[.agg (ic L), .int .i64 q, .int .i64 10, .int .i64 u] w fun e w' => e = .returned (.agg (ic B)) ∧ Below w.heap.size w w') ∧
    (∀ w, Calls Try.prog 9 #[.agg (ic B), .int .i64 p, .int .i64 0, .int .i64 v] w fun e w' => e = .returned (.agg (ic R)) ∧ Below w.heap.size w w') :=
  ⟨noteL L p 0 v, noteL L q 10 u, noteL (noteL L p 0 v) q 10 u, by rw [noteL_len, noteL_len, hL], fun w => note_w L p 0 v w hL, fun w => note_w _ q 10 u w (by rw [noteL_len, hL]),
    fun w => note_w L q 10 u w hL, fun w => by rw [note_comm L hL]; exact note_w _ p 0 v w (by rw [noteL_len, hL])⟩

set_option maxRecDepth 100000 in
set_option maxHeartbeats 1000000 in
theorem statOrder_walk (a0 : Option Addr) (len0 cap0 : Nat) (z0 : List Int) (a1 a2 a3 a4 : Int) (w : World) (w0 : IsRow .i64 w a0 len0 cap0 z0) :
    Calls Try.prog 4 #[.slice a0 len0 cap0, .int .i64 a1, .int .i64 a2, .int .i64 a3, .int .i64 a4] w fun e w' => e = .returned (.bool true) ∧ Below w.heap.size w w' := by
  obtain ⟨hlen, hrow⟩ := row_fact w0
  have hlen' : len0 ≤ 9223372036854775807 := by unfold maxLen at hlen; omega
  clear w0
  have r9 := fun (x : Int) (w : World) => (round_w x 9 w (by omega) (by omega)).mono (fun _ _ h => (⟨h.1, h.2.symm⟩ : _ = Ending.returned (.int .i64 (cutI x 9)) ∧ _ = w))
  have r300 := fun (x : Int) (w : World) => (round_w x 300 w (by omega) (by omega)).mono (fun _ _ h => (⟨h.1, h.2.symm⟩ : _ = Ending.returned (.int .i64 (cutI x 300)) ∧ _ = w))
  go_enter Try.func4, Try.ntmps4
  go_upto_region 1 with fail
  go_cut [11] (fun s wx => s = .pointer (some ⟨w.heap.size, 0, none⟩) ∧ wx.heap[w.heap.size]? = some (.cells (ic T0) 25 (0, 0)) ∧ Below w.heap.size w wx)
  case first =>
    go_wp2
    go_meet
    case rel => exact ⟨rfl, by rw [ic0]; exact heap_alloc_new _ _, (Below.refl _ _).alloc (Nat.le_refl _) _⟩
  case rest =>
    obtain ⟨rfl, h0, hB⟩ := hcut
    go_wp2
    go_loopw [12] (fun i wr => ∃ (n : Nat) (L : List Int), n ≤ 10 ∧ i = .int .i64 n ∧ L.length = 21 ∧ wr.heap[w.heap.size]? = some (.cells (ic L) 25 (0, 0)) ∧ Below w.heap.size w wr) (fun i _ => 10 - (intOf i).toNat)
    case atStart => exact ⟨0, T0, by omega, rfl, rfl, h0, hB⟩
    case round =>
      clear h0 hB
      obtain ⟨n, L, hn, rfl, hL, h0, hB⟩ := hrel
      by_cases h12 : n < len0 ∧ n < 10
      · obtain ⟨h1, h2⟩ := h12
        · obtain ⟨c, o, x, rfl, hc, hx⟩ := hrow n h1
          clear hrow
          have hx' := (hB.cell (p := ⟨c, o + n, none⟩) hc).trans hx
          clear hx
          go_upto_region 5 with fail
          refine wp_region_still_tail 12 (by kernel_rfl) (by kernel_rfl) ?_
          simp only [List.take_succ_cons, List.take_zero, List.drop_succ_cons, List.drop_zero]
          change wpStill _ _ (World.drew _) (fun a' => wpList _ _ _ _ a' (World.drew _)) _ _
          generalize hG : World.drew _ = W2
          have hx2 : W2.cell? ⟨c, o + n, none⟩ = some (.int .i64 x) := by rw [← hG]; exact hx'
          have h02 : W2.heap[w.heap.size]? = some (.cells (ic L) 25 (0, 0)) := by rw [← hG]; exact h0
          have hB2 : Below w.heap.size w W2 := by rw [← hG]; exact hB.drew
          clear hG hx' h0 hB
          refine wpStill_load_row rfl 25 _ rfl w.heap.size rfl 25 _ (0, 0) _ h02 Try.underlying25 rfl (by rw [ic_size, hL]; kernel_rfl) ?_
          iterate 4 (refine wpStill_step (fun K hK => ?_); go_simp; (with_reducible refine hK _ ?_); clear hK K)
          (refine wpStill_step (fun K hK => ?_); go_simp; (with_reducible refine ⟨_, r9 _ _, hK _ ?_⟩); clear hK K)
          iterate 5 (refine wpStill_step (fun K hK => ?_); go_simp; (with_reducible refine hK _ ?_); clear hK K)
          (refine wpStill_step (fun K hK => ?_); go_simp; (with_reducible refine ⟨_, r300 _ _, hK _ ?_⟩); clear hK K)
          refine wpStill_nil ?_
          go_wp2_with (first
            | (go_at_call 9; (with_reducible refine Calls.mono (note_w L _ _ _ _ hL) ?_); rintro e w3 ⟨rfl, hb3⟩)
            | (refine wpList_store_row rfl 25 _ _ rfl w.heap.size (ic (noteL L _ _ _)) rfl rfl 25 (ic L) ((hb3.block _ (Array.getElem?_eq_some_iff.1 h02).1).trans h02) ?_ ?_ (ic_one _) ?_; (rw [ic_size, noteL_len, hL]; kernel_rfl); (rw [ic_size, ic_size, noteL_len])))
          go_roundw
          case rel => exact ⟨n + 1, _, by omega, by go_num, by rw [noteL_len, hL], setRow_heap _ _ _ _ _ _ ((hb3.block _ (Array.getElem?_eq_some_iff.1 h02).1).trans h02), below_setRow (bl_step hB2 hb3) (Nat.le_refl _) _⟩
          case measure => simp [intOf]; omega
      · have hx : ¬ n < len0 ∨ (n < len0 ∧ n = 10) := by omega
        clear h12 hrow
        obtain ⟨p, hp⟩ : ∃ p, p = cutI a1 9 := ⟨_, rfl⟩
        obtain ⟨q, hq⟩ : ∃ p, p = cutI a2 9 := ⟨_, rfl⟩
        obtain ⟨v, hv⟩ : ∃ p, p = cutI a3 400 := ⟨_, rfl⟩
        obtain ⟨u, hu⟩ : ∃ p, p = cutI a4 400 := ⟨_, rfl⟩
        have r1 := fun w => round_w a1 9 w (by omega) (by omega)
        have r2 := fun w => round_w a2 9 w (by omega) (by omega)
        have r3 := fun w => round_w a3 400 w (by omega) (by omega)
        have r4 := fun w => round_w a4 400 w (by omega) (by omega)
        rw [← hp] at r1
        rw [← hq] at r2
        rw [← hv] at r3
        rw [← hu] at r4
        obtain ⟨A, B, R, hR, nA, nR, nB, nS⟩ := order_pack L hL p q v u
        clear hp hq hv hu r9 r300
        rcases hx with h1 | ⟨h1, rfl⟩
        all_goals go_upto_region 8 with (go_at_call 8; first | ((with_reducible refine Calls.mono (r1 _) ?_); rintro e w' ⟨rfl, rfl⟩) | ((with_reducible refine Calls.mono (r2 _) ?_); rintro e w' ⟨rfl, rfl⟩) | ((with_reducible refine Calls.mono (r3 _) ?_); rintro e w' ⟨rfl, rfl⟩) | ((with_reducible refine Calls.mono (r4 _) ?_); rintro e w' ⟨rfl, rfl⟩))
        all_goals refine wp_region_ext (by kernel_rfl) (by kernel_rfl) ?_
        all_goals refine wpQuiet_load_row rfl 25 _ rfl w.heap.size rfl 25 _ (0, 0) _ (by rintro _ ⟨z, rfl⟩; rw [ext_block _ _ _ (Array.getElem?_eq_some_iff.1 h0).1]; exact h0) Try.underlying25 rfl (by rw [ic_size, hL]; kernel_rfl) ?_
        all_goals (refine wpQuiet_step (fun K hK => ?_); go_simp; (with_reducible refine hK _ ?_); clear hK K)
        all_goals (refine wpQuiet_step (fun K hK => ?_); go_simp; (with_reducible refine hK _ ?_); clear hK K)
        all_goals (refine wpQuiet_step (fun K hK => ?_); go_simp; apply Exists.intro; refine ⟨fun _ => ?_, hK _ ?_⟩; (with_reducible exact ext_call (nA _)); clear hK K)
        all_goals (refine wpQuiet_step (fun K hK => ?_); go_simp; (with_reducible refine hK _ ?_); clear hK K)
        all_goals (refine wpQuiet_step (fun K hK => ?_); go_simp; (with_reducible refine hK _ ?_); clear hK K)
        all_goals (refine wpQuiet_step (fun K hK => ?_); go_simp; apply Exists.intro; refine ⟨fun _ => ?_, hK _ ?_⟩; (with_reducible exact ext_call (nR _)); clear hK K)
        all_goals refine wpQuiet_load_row rfl 25 _ rfl w.heap.size rfl 25 _ (0, 0) _ (by rintro _ ⟨z, rfl⟩; rw [ext_block _ _ _ (Array.getElem?_eq_some_iff.1 h0).1]; exact h0) Try.underlying25 rfl (by rw [ic_size, hL]; kernel_rfl) ?_
        all_goals (refine wpQuiet_step (fun K hK => ?_); go_simp; (with_reducible refine hK _ ?_); clear hK K)
        all_goals (refine wpQuiet_step (fun K hK => ?_); go_simp; (with_reducible refine hK _ ?_); clear hK K)
        all_goals (refine wpQuiet_step (fun K hK => ?_); go_simp; apply Exists.intro; refine ⟨fun _ => ?_, hK _ ?_⟩; (with_reducible exact ext_call (nB _)); clear hK K)
        all_goals (refine wpQuiet_step (fun K hK => ?_); go_simp; (with_reducible refine hK _ ?_); clear hK K)
        all_goals (refine wpQuiet_step (fun K hK => ?_); go_simp; (with_reducible refine hK _ ?_); clear hK K)
        all_goals (refine wpQuiet_step (fun K hK => ?_); go_simp; apply Exists.intro; refine ⟨fun _ => ?_, hK _ ?_⟩; (with_reducible exact ext_call (nS _)); clear hK K)
        all_goals refine wpQuiet_eql rfl 25 25 _ _ rfl (ic R) rfl rfl (by kernel_rfl) (tally_eql R hR) ?_
        all_goals (refine wpQuiet_step (fun K hK => ?_); go_simp; (with_reducible refine hK _ ?_); clear hK K)
        all_goals (refine wpQuiet_step (fun K hK => ?_); go_simp; apply Exists.intro; refine ⟨fun _ => ?_, hK _ ?_⟩; (with_reducible exact ext_call (awake_w _)); clear hK K)
        all_goals (refine wpQuiet_step (fun K hK => ?_); go_simp; (with_reducible refine hK _ ?_); clear hK K)
        all_goals (refine wpQuiet_step (fun K hK => ?_); go_simp; (with_reducible refine hK _ ?_); clear hK K)
        all_goals refine wpQuiet_nil ?_
        all_goals intro w' hw'
        all_goals obtain ⟨z, rfl⟩ := hw'
        all_goals go_wp2
        all_goals go_ret
        all_goals exact ⟨rfl, bl_step hB (below_ext _ _)⟩

end Go.Proofs.Ytehhdeafimomfaa
