/-
  with, by contract.
-/
import Derived.Test.YtpoagdffpajdjaaRad8
namespace Go.Proofs.Ytpoagdffpajdjaa
open Go.RowKit
set_option linter.unusedVariables false
set_option linter.unusedSimpArgs false

theorem tree_size : (Try.prog.info? 28).map (·.size) = some 4 := by kernel_rfl
theorem tree_one (h : Int) (A : Option Addr) (n cap : Nat) (v m : Int) : (#[Value.int .i64 h, Value.slice A n cap, .int .i64 v, .int .i64 m] : Array Value).all (·.oneCell') = true := by simp [Value.oneCell']
theorem tree_res {fn : Func} {p : Tmp} (h : fn.results = #[.cell p 28]) (tmps : Array Value) (w : World) (g : Nat) (t : TypeId) (a b c d : Value) (fr : Nat × Nat)
    (hp : tmps.getD p undef = .pointer (some ⟨g, 0, none⟩)) (hg : w.heap[g]? = some (.cells #[a, b, c, d] t fr)) : (results fn tmps).run Try.prog w = .ok (.agg #[a, b, c, d]) w :=
  results_cell_row h tmps w g t _ fr _ hp hg Try.underlying28 rfl tree_size
theorem set3 {w : World} {b : Nat} {a x y z x' y' z' : Value} {t : TypeId} {fr : Nat × Nat} (h : w.heap[b]? = some (.cells #[a, x, y, z] t fr)) : (w.setCells b 1 [x', y', z']).heap[b]? = some (.cells #[a, x', y', z'] t fr) := by
  have h1 := set_same (i := 1) h x'
  have h2 := set_same (i := 2) h1 y'
  have h3 := set_same (i := 3) h2 z'
  simpa [World.setCells] using h3
theorem there3 {w : World} {b : Nat} {a x y z : Value} {t : TypeId} (h : w.heap[b]? = some (.cells #[a, x, y, z] t (0, 0))) : w.there b 1 3 := fun j hj => by
  rw [cells_at h, free_at h]
  match j, hj with
  | 0, _ => exact ⟨rfl, rfl⟩
  | 1, _ => exact ⟨rfl, rfl⟩
  | 2, _ => exact ⟨rfl, rfl⟩
  | j + 3, hj => omega
/-- A tree with contents c comes back. -/
def RetTr (c : Cn) (S : Nat → Prop) (w : World) (e : Ending) (w' : World) : Prop := ∃ (h : Nat) (A : Option Addr) (cap : Nat), e = .returned (trV h A (cano h c).kids.length cap (cano h c).val (cano h c).marks) ∧ TreeOk h c ∧ (cano h c).kids.length ≤ cap ∧ NK w' S A (cano h c).kids ∧ Below w.heap.size w w'
theorem grow_kids {H : Nat} {c : Cn} (hz : ∀ i, 4 ^ H ≤ i → c i = (0, 0)) : [cano H c, .nil, .nil, .nil] = kidsC H c := by
  have h0 : cano H (sh c (0 * 4 ^ H)) = cano H c := by rw [Nat.zero_mul, sh_zero]
  have h1 : ∀ k, 1 ≤ k → cano H (sh c (k * 4 ^ H)) = .nil := fun k hk => cano_none (noneB_true.2 fun i _ => hz _ (by have : 1 * 4 ^ H ≤ k * 4 ^ H := Nat.mul_le_mul_right _ hk; omega))
  show _ = [cano H (sh c (0 * 4 ^ H)), cano H (sh c (1 * 4 ^ H)), cano H (sh c (2 * 4 ^ H)), cano H (sh c (3 * 4 ^ H))]
  rw [h0, h1 1 (by omega), h1 2 (by omega), h1 3 (by omega)]
theorem grow_em {H : Nat} {c : Cn} (hz : ∀ i, 4 ^ H ≤ i → c i = (0, 0)) (he : (cano H c).emB = true) : cano H c = .nil ∧ cano (H + 1) c = .nil := by
  refine ⟨em_nil he, cano_none (noneB_true.2 fun i _ => ?_)⟩
  rw [emB_cano, noneB_true] at he
  rcases Nat.lt_or_ge i (4 ^ H) with h | h
  · exact he i h
  · exact hz i h
theorem pow_mono {a b : Nat} (h : a ≤ b) : 4 ^ a ≤ 4 ^ b := Nat.pow_le_pow_right (by omega) h
theorem low_of_high {H : Nat} {c : Cn} (hz : ∀ i, 4 ^ (H + 1) ≤ i → c i = (0, 0)) (hh : highT (cano (H + 1) c) = false) : ∀ i, 4 ^ H ≤ i → c i = (0, 0) := fun i hi => by
  rcases Nat.lt_or_ge i (4 ^ (H + 1)) with h | h
  · apply Classical.byContradiction
    intro hc
    rw [high_cano.2 ⟨i, hi, h, hc⟩] at hh
    cases hh
  · exact hz i h
theorem low_kid {H : Nat} {c : Cn} (he : (cano (H + 1) c).emB = false) : (cano (H + 1) c).kids.length = 4 ∧ (cano (H + 1) c).kids[0]? = some (cano H c) := by
  rw [emB_cano] at he
  rw [cano_succ, he, if_neg (by simp)]
  refine ⟨kidsC_len _ _, ?_⟩
  show (kidsC H c)[0]? = _
  rw [kidsC_at (by omega), Nat.zero_mul, sh_zero]
theorem low_em {H : Nat} {c : Cn} (he : (cano (H + 1) c).emB = true) : cano (H + 1) c = .nil ∧ cano H c = .nil := by
  refine ⟨em_nil he, ?_⟩
  rw [emB_cano, none_succ] at he
  have := he 0 (by omega)
  rw [Nat.zero_mul, sh_zero] at this
  exact cano_none this
theorem high_zero {H : Nat} {c : Cn} (hh : highT (cano (H + 1) c) = true) : ∃ i, 4 ^ H ≤ i ∧ c i ≠ (0, 0) := by
  obtain ⟨i, h1, _, h3⟩ := high_cano.1 hh
  exact ⟨i, h1, h3⟩
/-- What is known in the walk of with: the tree's box holds a height and a root. -/
structure WS (W : World) (b g : Nat) (xo po : Obj) (S : Nat → Prop) (H : Nat) (t : T) (A : Option Addr) (cap : Nat) (w : World) : Prop where
  h0 : w.heap[b]? = some (.cells #[.int .i64 H, .slice A t.kids.length cap, .int .i64 t.val, .int .i64 t.marks] 28 (0, 0))
  h1 : w.heap[b + 1]? = some xo
  h2 : w.heap[b + 2]? = some (.cells #[.int .i64 0, .slice none 0 0, .int .i64 0, .int .i64 0] 28 (0, 0))
  h3 : w.heap[g]? = some po
  hc : t.kids.length ≤ cap
  nk : NK w (fun z => S z ∧ z ≠ b ∧ z ≠ b + 2) A t.kids
  below : Below W.heap.size W w
theorem WS.step {W w w' : World} {b g : Nat} {xo po : Obj} {S : Nat → Prop} {H : Nat} {t : T} {A : Option Addr} {cap : Nat} (h : WS W b g xo po S H t A cap w) (hb : Below w.heap.size w w') : WS W b g xo po S H t A cap w' :=
  ⟨bk_step h.h0 hb, bk_step h.h1 hb, bk_step h.h2 hb, bk_step h.h3 hb, h.hc, h.nk.step hb, bl_step h.below hb⟩
theorem WS.setH {W w : World} {b g : Nat} {xo po : Obj} {S : Nat → Prop} {H : Nat} {t : T} {A : Option Addr} {cap : Nat} (h : WS W b g xo po S H t A cap w) (hW : W.heap.size ≤ b) (hg : b + 2 < g) (H' : Nat) (z : Int) (hz : z = (H' : Int)) : WS W b g xo po S H' t A cap (w.setCell ⟨b, 0, none⟩ (.int .i64 z)) := by
  subst hz
  exact
  ⟨by simpa using set_same (i := 0) h.h0 (.int .i64 (H' : Int)), set_bk h.h1 _ _ (by simp), set_bk h.h2 _ _ (by simp), set_bk h.h3 _ _ (by simp; omega), h.hc, h.nk.kept (by simp [World.setCell]) (fun z hz _ => Below.heap_setCell w _ _ z hz.2.1), h.below.setCell (p := ⟨b, 0, none⟩) hW _⟩
theorem WS.setR {W w : World} {b g : Nat} {xo po : Obj} {S : Nat → Prop} {H : Nat} {t : T} {A : Option Addr} {cap : Nat} (h : WS W b g xo po S H t A cap w) (hW : W.heap.size ≤ b) (hg : b + 2 < g) (t' : T) (A' : Option Addr) (cap' : Nat) (hc : t'.kids.length ≤ cap') (nk : NK w (fun z => S z ∧ z ≠ b ∧ z ≠ b + 2) A' t'.kids) :
    WS W b g xo po S H t' A' cap' (w.setCells b 1 [.slice A' t'.kids.length cap', .int .i64 t'.val, .int .i64 t'.marks]) :=
  ⟨set3 h.h0, (heap_setCells b _ _ w _ (by omega)).trans h.h1, (heap_setCells b _ _ w _ (by omega)).trans h.h2, (heap_setCells b _ _ w _ (by omega)).trans h.h3, hc, nk.kept (Nat.le_of_eq (setCells_same b _ _ w).2.2.2.symm) (fun z hz _ => heap_setCells b _ _ w z hz.2.1), bl_setCells h.below hW _ _⟩
theorem WS.setR' {W w : World} {b g : Nat} {xo po : Obj} {S : Nat → Prop} {H : Nat} {t : T} {A : Option Addr} {cap : Nat} (h : WS W b g xo po S H t A cap w) (hW : W.heap.size ≤ b) (hg : b + 2 < g) (t' : T) (A' : Option Addr) (cap' n : Nat) (v m : Int) (hn : t'.kids.length = n) (hv : t'.val = v) (hm : t'.marks = m) (hc : n ≤ cap') (nk : NK w (fun z => S z ∧ z ≠ b ∧ z ≠ b + 2) A' t'.kids) :
    WS W b g xo po S H t' A' cap' (w.setCells b 1 [.slice A' n cap', .int .i64 v, .int .i64 m]) := by
  subst hn hv hm
  exact h.setR hW hg t' A' cap' hc nk
theorem nk4 {w : World} {g : Nat} {S : Nat → Prop} {t : T} {A : Option Addr} {cap : Nat} (h : w.heap[g]? = some (.cells #[.slice A t.kids.length cap, .int .i64 t.val, .int .i64 t.marks, .slice none 0 0, .int .i64 0, .int .i64 0, .slice none 0 0, .int .i64 0, .int .i64 0, .slice none 0 0, .int .i64 0, .int .i64 0] 26 (0, 0))) (hS : S g) (hm : t.kids.length ≤ maxLen) (hc : t.kids.length ≤ cap) (hk : NK w S A t.kids) : NK w S (some ⟨g, 0, none⟩) [t, .nil, .nil, .nil] := by
  have hv := fun i => cells_at h i
  refine .mk g 0 _ (fun i => if i = 0 then A else none) (fun i => if i = 0 then cap else 0) hS (bk_lt h) (fun i k hi => ?_) (fun i k hi => ?_) (fun i k hi => ?_)
  all_goals
    match i with
    | 0 => simp at hi; subst hi; first | exact ⟨(hv _).trans rfl, (hv _).trans rfl, (hv _).trans rfl⟩ | exact ⟨hm, hc⟩ | exact hk
    | 1 => simp at hi; subst hi; first | exact ⟨(hv _).trans rfl, (hv _).trans rfl, (hv _).trans rfl⟩ | exact ⟨Nat.zero_le _, Nat.zero_le _⟩ | exact .nil _
    | 2 => simp at hi; subst hi; first | exact ⟨(hv _).trans rfl, (hv _).trans rfl, (hv _).trans rfl⟩ | exact ⟨Nat.zero_le _, Nat.zero_le _⟩ | exact .nil _
    | 3 => simp at hi; subst hi; first | exact ⟨(hv _).trans rfl, (hv _).trans rfl, (hv _).trans rfl⟩ | exact ⟨Nat.zero_le _, Nat.zero_le _⟩ | exact .nil _
    | i + 4 => simp at hi
theorem ws_bounds (H : Nat) (h : H ≤ 4) : IntKind.i64.wrap ((H : Int) + 1) = ((H + 1 : Nat) : Int) ∧ IntKind.i64.wrap ((H : Int) - 1) = (H : Int) - 1 := ⟨by rw [w64 (by omega)]; omega, w64 (by omega)⟩
/-- The number in the first cell of a block. -/
def hgt (b : Nat) (w : World) : Nat := match w.cell? ⟨b, 0, none⟩ with | some (.int _ n) => n.toNat | _ => 0
theorem hgt_of {b : Nat} {w : World} {H : Nat} {x y z : Value} {t : TypeId} (h : w.heap[b]? = some (.cells #[.int .i64 (H : Int), x, y, z] t (0, 0))) : hgt b w = H := by
  unfold hgt
  rw [cells_at h]
  simp
set_option maxRecDepth 100000 in
set_option maxHeartbeats 4000000 in
theorem with_w (h : Nat) (c : Cn) (A : Option Addr) (cap : Nat) (S : Nat → Prop) (i : Nat) (xa : Option Addr) (xcap : Nat) (x m : Int) (w : World) (hi : i < 256) (ht : TreeOk h c) (hcap : (cano h c).kids.length ≤ cap) (hk : NK w S A (cano h c).kids) (hS : ∀ b, w.heap.size ≤ b → S b) :
    Calls Try.prog 55 #[trV h A (cano h c).kids.length cap (cano h c).val (cano h c).marks, .int .i64 i, ndV xa 0 xcap x m] w (RetTr (upd c i (x, m)) S w) := by
  have h4 := ht.1
  have HT := Lib.hid ht.2.1
  have hr := fun w => route_w i w hi
  have hh := fun w => height_w i w hi
  have hf4 : hf i ≤ 4 := by unfold hf; (repeat' split) <;> omega
  have HLE := Lib.hid (fun H (h4 : H ≤ 4) => hf_le (h := H) hi h4)
  have hp := fun H c A cap S w hH => put_w H c A cap S i xa xcap x m w hH hi
  obtain ⟨b, hb⟩ : ∃ b, b = w.heap.size := ⟨_, rfl⟩
  have HBe := Lib.hid hb
  have HK0 := Lib.hid (fun w' (hb : Below w.heap.size w w') => (hk.weak (S' := fun z => S z ∧ z ≠ b ∧ z ≠ b + 2) fun z hz h => ⟨h, by omega, by omega⟩).step hb)
  have HSS := Lib.hid hS
  obtain ⟨n, hn⟩ : ∃ n, (cano h c).kids.length = n := ⟨_, rfl⟩
  obtain ⟨v, hv⟩ : ∃ v, (cano h c).val = v := ⟨_, rfl⟩
  obtain ⟨mm, hm⟩ : ∃ m, (cano h c).marks = m := ⟨_, rfl⟩
  rw [hn] at hcap
  rw [hn, hv, hm]
  have Hn := Lib.hid hn
  have Hv := Lib.hid hv
  have Hm := Lib.hid hm
  unfold pathV at hp hr hh
  obtain ⟨p0, hp0⟩ : ∃ p : Int, ((i / 4 / 4 / 4 % 4 : Nat) : Int) = p := ⟨_, rfl⟩
  obtain ⟨p1, hp1⟩ : ∃ p : Int, ((i / 4 / 4 % 4 : Nat) : Int) = p := ⟨_, rfl⟩
  obtain ⟨p2, hp2⟩ : ∃ p : Int, ((i / 4 % 4 : Nat) : Int) = p := ⟨_, rfl⟩
  obtain ⟨p3, hp3⟩ : ∃ p : Int, ((i % 4 : Nat) : Int) = p := ⟨_, rfl⟩
  rw [hp0, hp1, hp2, hp3] at hp hr hh
  clear hn hv hm hp0 hp1 hp2 hp3 hk hS hb ht
  go_enter Try.func55, Try.ntmps55
  go_upto_region 1 with fail
  go_cut [3, 5, 6, 7] (fun s3 s5 s6 s7 wx => ∃ (g : Nat), s3 = .pointer (some ⟨b, 0, none⟩) ∧ s5 = .pointer (some ⟨b + 1, 0, none⟩) ∧ s6 = .pointer (some ⟨b + 2, 0, none⟩) ∧ s7 = .pointer (some ⟨g, 0, none⟩) ∧ b + 2 < g ∧ WS w b g (.cells #[.slice xa 0 xcap, .int .i64 x, .int .i64 m] 26 (0, 0)) (.cells #[.int .i64 p0, .int .i64 p1, .int .i64 p2, .int .i64 p3] 76 (0, 0)) S h (cano h c) A cap wx)
  case first =>
    go_wp2_with (go_at_call 62; (with_reducible refine Calls.mono (hr _) ?_); rintro e w1 ⟨rfl, hb1⟩)
    go_meet
    case rel =>
      have hbe := HBe.out
      have hsz := hb1.size
      simp at hsz
      refine ⟨_, by rw [hbe], by rw [hbe], by rw [hbe], rfl, by omega, ?_, ?_, ?_, heap_alloc_new _ _, by rw [Hn.out]; exact hcap, HK0.out _ ?_, ?_⟩
      · rw [Hn.out, Hv.out, Hm.out]
        exact bk_alloc (bk_step (bk_alloc (bk_alloc (heap_at_new _ _ _ hbe.symm) _) _) hb1) _
      · exact bk_alloc (bk_step (bk_alloc (heap_at_new _ _ _ (by simp; omega)) _) hb1) _
      · exact bk_alloc (bk_step (heap_at_new _ _ _ (by simp; omega)) hb1) _
      · exact bl_alloc (bl_step (bl_alloc (bl_alloc (bl_alloc (Below.refl _ _) _) _) _) hb1) _
      · exact bl_alloc (bl_step (bl_alloc (bl_alloc (bl_alloc (Below.refl _ _) _) _) _) hb1) _
  case rest =>
    clear hr
    obtain ⟨g, rfl, rfl, rfl, rfl, hg, hP⟩ := hcut
    have HP := Lib.hid hP
    clear hP
    go_upto_block 0 with fail
    go_cut [] (fun wx => ∃ (H : Nat) (A : Option Addr) (cap : Nat), h ≤ H ∧ hf i ≤ H ∧ H ≤ 4 ∧ WS w b g (.cells #[.slice xa 0 xcap, .int .i64 x, .int .i64 m] 26 (0, 0)) (.cells #[.int .i64 p0, .int .i64 p1, .int .i64 p2, .int .i64 p3] 76 (0, 0)) S H (cano H c) A cap wx)
    case first =>
      go_wp2
      go_loopw [] (fun wx => ∃ (H : Nat) (A : Option Addr) (cap : Nat), h ≤ H ∧ H ≤ 4 ∧ WS w b g (.cells #[.slice xa 0 xcap, .int .i64 x, .int .i64 m] 26 (0, 0)) (.cells #[.int .i64 p0, .int .i64 p1, .int .i64 p2, .int .i64 p3] 76 (0, 0)) S H (cano H c) A cap wx) (fun wx => 4 - hgt b wx)
      case atStart => exact ⟨h, A, cap, Nat.le_refl _, h4, HP.out⟩
      case round =>
        clear HP hcap
        obtain ⟨H, A1, cap1, hH, hH4, hP⟩ := hrel
        have HP := Lib.hid hP
        have hmz := hgt_of hP.h0
        have HM := Lib.hid hmz
        have x0 := cells_at hP.h0 0; have x1 := cells_at hP.h0 1; have x2 := cells_at hP.h0 2; have x3 := cells_at hP.h0 3; simp only [List.getElem?_toArray, List.getElem?_cons_zero, List.getElem?_cons_succ] at x0 x1 x2 x3
        have y0 := cells_at hP.h3 0
        have y1 := cells_at hP.h3 1
        have y2 := cells_at hP.h3 2
        have y3 := cells_at hP.h3 3
        simp only [List.getElem?_toArray, List.getElem?_cons_zero, List.getElem?_cons_succ] at y0 y1 y2 y3
        have lX := bk_lt hP.h0
        have lP := bk_lt hP.h3
        have xe := ext_cell wr
        clear hP hmz
        go_upto_region 2 with fail
        go_cut [14] (fun s14 wx => s14 = .bool (decide (H < hf i)) ∧ WS w b g (.cells #[.slice xa 0 xcap, .int .i64 x, .int .i64 m] 26 (0, 0)) (.cells #[.int .i64 p0, .int .i64 p1, .int .i64 p2, .int .i64 p3] 76 (0, 0)) S H (cano H c) A1 cap1 wx)
        case first =>
          refine wp_region_ext (by kernel_rfl) (by kernel_rfl) ?_
          (refine wpQuiet_step (fun K hK => ?_); go_simp; (with_reducible refine hK _ ?_); clear hK K)
          (refine wpQuiet_step (fun K hK => ?_); go_simp; (with_reducible refine hK _ ?_); clear hK K)
          (refine wpQuiet_step (fun K hK => ?_); go_simp; (with_reducible refine hK _ ?_); clear hK K)
          (refine wpQuiet_step (fun K hK => ?_); go_simp; apply Exists.intro; refine ⟨fun _ => ?_, hK _ ?_⟩; (exact ext_call (hh _)); clear hK K)
          (refine wpQuiet_step (fun K hK => ?_); go_simp; (with_reducible refine hK _ ?_); clear hK K)
          refine wpQuiet_nil ?_
          rintro w' ⟨z, rfl⟩
          go_wp2
          go_meet
          case rel => exact ⟨rfl, HP.out.step (below_ext _ _)⟩
        case rest =>
          clear HP x0 x1 x2 x3 y0 y1 y2 y3 lX lP xe
          obtain ⟨rfl, hP⟩ := hcut
          have HP := Lib.hid hP
          clear hP
          have hem := fun w => empty_w A1 (cano H c).kids.length cap1 (cano H c).val (cano H c).marks w
          rw [show emI (cano H c).kids.length (cano H c).val (cano H c).marks = (cano H c).emB from rfl] at hem
          by_cases hle : H < hf i
          · have hd : decide (H < hf i) = true := decide_eq_true hle
            have HZ := Lib.hid (show ∀ j, 4 ^ H ≤ j → c j = (0, 0) from fun j hj => HT.out j (Nat.le_trans (pow_mono hH) hj))
            have hw5 := w64 (x := (H : Int) + 1) (by omega)
            have x0 := cells_at HP.out.h0 0; have x1 := cells_at HP.out.h0 1; have x2 := cells_at HP.out.h0 2; have x3 := cells_at HP.out.h0 3; simp only [List.getElem?_toArray, List.getElem?_cons_zero, List.getElem?_cons_succ] at x0 x1 x2 x3
            have e0 := free_at HP.out.h0 0
            cases he : (cano H c).emB with
            | true =>
              obtain ⟨g1, g2⟩ := grow_em HZ.out he
              rw [he] at hem
              have HG1 := Lib.hid g1
              have HG2 := Lib.hid g2
              clear he g1 g2
              go_wp2_with (go_at_call 59; (with_reducible refine Calls.mono (hem _) ?_); rintro e w1 ⟨rfl, hb1⟩; have HP2 := Lib.hid (HP.out.step hb1); have x0 := cells_at HP2.out.h0 0; have e0 := free_at HP2.out.h0 0; simp only [List.getElem?_toArray, List.getElem?_cons_zero, List.getElem?_cons_succ] at x0)
              go_roundw
              case rel =>
                have := HP2.out.setH (Nat.le_of_eq HBe.out.symm) hg (H + 1) ((H : Int) + 1) (by omega)
                rw [HG1.out, ← HG2.out] at this
                exact ⟨H + 1, _, _, by omega, by omega, this⟩
              case measure => rw [HM.out, hgt_of (HP2.out.setH (Nat.le_of_eq HBe.out.symm) hg (H + 1) ((H : Int) + 1) (by omega)).h0]; omega
            | false =>
              rw [he] at hem
              have HGK := Lib.hid (grow_kids HZ.out)
              have hin := fun g w' (hb : NK w' (fun z => S z ∧ z ≠ b ∧ z ≠ b + 2) (some ⟨g, 0, none⟩) (kidsC H c)) => interior_w (kidsC H c) (some ⟨g, 0, none⟩) 4 (fun z => S z ∧ z ≠ b ∧ z ≠ b + 2) w' (kidsC_len _ _) (by omega) hb
              have HN1 := Lib.hid (show noneB (4 ^ (H + 1)) c = false by
                rw [emB_cano] at he
                obtain ⟨j, h1, h2⟩ := noneB_false.1 he
                exact noneB_false.2 ⟨j, Nat.lt_of_lt_of_le h1 (pow_mono (by omega)), h2⟩)
              have HG2 := Lib.hid (show cano (H + 1) c = .mk (kidsC H c) 0 (orK (kidsC H c)) by rw [cano_succ, HN1.out]; rfl)
              have HL4 := Lib.hid (show (cano (H + 1) c).kids.length = 4 by rw [HG2.out]; exact kidsC_len _ _)
              have HV := Lib.hid (fun A => show intV A 4 (kidsC H c) = ndV A 4 4 0 (orK (kidsC H c)) by unfold intV; rw [someK_kids, HN1.out]; rfl)
              simp only [HV.out] at hin
              have lsz := HP.out.below.size
              have lbs := bk_lt HP.out.h2
              have HNK := Lib.hid (fun w1 (hb1 : Below wc.heap.size wc w1) => show NK (w1.alloc (.cells #[.slice A1 (cano H c).kids.length cap1, .int .i64 (cano H c).val, .int .i64 (cano H c).marks, .slice none 0 0, .int .i64 0, .int .i64 0, .slice none 0 0, .int .i64 0, .int .i64 0, .slice none 0 0, .int .i64 0, .int .i64 0] 26)) (fun z => S z ∧ z ≠ b ∧ z ≠ b + 2) (some ⟨w1.heap.size, 0, none⟩) (kidsC H c) by
                have hs1 := hb1.size
                rw [← HGK.out]
                exact nk4 (heap_alloc_at _ _) ⟨HSS.out _ (by omega), by omega, by omega⟩ (cano_ml _ _) HP.out.hc ((HP.out.nk.step hb1).alloc _))
              clear he
              go_wp2_with (first
                | (go_at_call 59; (with_reducible refine Calls.mono (hem _) ?_); rintro e w1 ⟨rfl, hb1⟩; have HP2 := Lib.hid (HP.out.step hb1); have HNK2 := Lib.hid (HNK.out _ hb1); clear HNK; have x0 := cells_at HP2.out.h0 0; have x1 := cells_at HP2.out.h0 1; have x2 := cells_at HP2.out.h0 2; have x3 := cells_at HP2.out.h0 3; simp only [List.getElem?_toArray, List.getElem?_cons_zero, List.getElem?_cons_succ] at x0 x1 x2 x3)
                | (go_at_call 65; (with_reducible refine Calls.mono (hin _ _ HNK2.out) ?_); rintro e w2 ⟨rfl, hb2⟩; have HP3 := Lib.hid ((HP2.out.step (bl_alloc (Below.refl _ _) _)).step hb2); have HNK3 := Lib.hid (HNK2.out.step hb2))
                | ((refine wpList_store_mid rfl 26 (.tmp 26) (.tmp 25) rfl b (1) #[.slice (some ⟨w1.heap.size, 0, none⟩) 4 4, .int .i64 0, .int .i64 (orK (kidsC H c))] rfl rfl (there3 HP3.out.h0) node_size (node_one _ _ _ _ _) ?_); have HP4 := Lib.hid (HP3.out.setR' (Nat.le_of_eq HBe.out.symm) hg (.mk (kidsC H c) 0 (orK (kidsC H c))) (some ⟨w1.heap.size, 0, none⟩) 4 4 0 (orK (kidsC H c)) (kidsC_len _ _) rfl rfl (by omega) HNK3.out); have x0 := cells_at HP4.out.h0 0; have e0 := free_at HP4.out.h0 0; simp only [List.getElem?_toArray, List.getElem?_cons_zero, List.getElem?_cons_succ] at x0))
              go_roundw
              case rel =>
                have := HP4.out.setH (Nat.le_of_eq HBe.out.symm) hg (H + 1) ((H : Int) + 1) (by omega)
                rw [← HG2.out] at this
                exact ⟨H + 1, _, _, by omega, by omega, this⟩
              case measure => rw [HM.out, hgt_of (HP4.out.setH (Nat.le_of_eq HBe.out.symm) hg (H + 1) ((H : Int) + 1) (by omega)).h0]; omega
          · have hd : decide (H < hf i) = false := decide_eq_false hle
            go_wp2
            go_meet
            case rel => exact ⟨H, A1, cap1, hH, by omega, hH4, HP.out⟩
    case rest =>
      clear HP hcap
      obtain ⟨H0, A1, cap1, hH, hHi, hH4, hP⟩ := hcut
      have HP := Lib.hid hP
      clear hP
      go_upto_region 6 with fail
      go_cut [] (fun wx => ∃ (A : Option Addr) (cap : Nat), WS w b g (.cells #[.slice xa 0 xcap, .int .i64 x, .int .i64 m] 26 (0, 0)) (.cells #[.int .i64 p0, .int .i64 p1, .int .i64 p2, .int .i64 p3] 76 (0, 0)) S H0 (cano H0 (upd c i (x, m))) A cap wx)
      case first =>
        have HU := Lib.hid (show upd c (i % 4 ^ H0) (x, m) = upd c i (x, m) by rw [Nat.mod_eq_of_lt ((HLE.out H0 hH4).1 hHi)])
        have lbs := bk_lt HP.out.h2
        have lsz := HP.out.below.size
        have hpp := hp H0 c A1 cap1 (fun z => S z ∧ z ≠ b ∧ z ≠ b + 2) wc hH4 HP.out.hc HP.out.nk (fun z hz => ⟨HSS.out z (by omega), by omega, by omega⟩)
        rw [HU.out] at hpp
        have x0 := cells_at HP.out.h0 0; have x1 := cells_at HP.out.h0 1; have x2 := cells_at HP.out.h0 2; have x3 := cells_at HP.out.h0 3; simp only [List.getElem?_toArray, List.getElem?_cons_zero, List.getElem?_cons_succ] at x0 x1 x2 x3
        have y0 := cells_at HP.out.h3 0
        have y1 := cells_at HP.out.h3 1
        have y2 := cells_at HP.out.h3 2
        have y3 := cells_at HP.out.h3 3
        have z0 := cells_at HP.out.h1 0
        have z1 := cells_at HP.out.h1 1
        have z2 := cells_at HP.out.h1 2
        simp only [List.getElem?_toArray, List.getElem?_cons_zero, List.getElem?_cons_succ] at y0 y1 y2 y3 z0 z1 z2
        go_wp2_with (first
          | (go_at_call 66; (with_reducible refine Calls.mono hpp ?_); rintro e w1 ⟨A2, cap2, rfl, hc2, hk2, hb1⟩; have HP2 := Lib.hid (HP.out.step hb1); have HK2 := Lib.hid hk2; clear hk2)
          | (refine wpList_store_mid rfl 26 (.tmp 38) (.tmp 37) rfl b (1) #[.slice A2 (cano H0 (upd c i (x, m))).kids.length cap2, .int .i64 (cano H0 (upd c i (x, m))).val, .int .i64 (cano H0 (upd c i (x, m))).marks] rfl rfl (there3 HP2.out.h0) node_size (node_one _ _ _ _ _) ?_))
        go_meet
        case rel => exact ⟨A2, cap2, HP2.out.setR (Nat.le_of_eq HBe.out.symm) hg _ A2 cap2 hc2 HK2.out⟩
      case rest =>
        clear HP hp hh
        obtain ⟨A2, cap2, hP⟩ := hcut
        have HZ0 := Lib.hid (show ∀ j, 4 ^ H0 ≤ j → upd c i (x, m) j = (0, 0) from fun j hj => by
          have h1 := HT.out j (Nat.le_trans (pow_mono hH) hj)
          have h2 := (HLE.out H0 hH4).1 hHi
          unfold upd
          rw [if_neg (by omega)]
          exact h1)
        have HP := Lib.hid hP
        clear hP hHi
        generalize upd c i (x, m) = c2 at *
        go_wp2
        go_loopw [] (fun wx => ∃ (H : Nat) (A : Option Addr) (cap : Nat), H ≤ 4 ∧ (∀ j, 4 ^ H ≤ j → c2 j = (0, 0)) ∧ WS w b g (.cells #[.slice xa 0 xcap, .int .i64 x, .int .i64 m] 26 (0, 0)) (.cells #[.int .i64 p0, .int .i64 p1, .int .i64 p2, .int .i64 p3] 76 (0, 0)) S H (cano H c2) A cap wx) (fun wx => hgt b wx)
        case atStart => exact ⟨H0, A2, cap2, hH4, HZ0.out, HP.out⟩
        case round =>
          clear HP HZ0
          obtain ⟨H, A3, cap3, hH4', hz, hP⟩ := hrel
          have HP := Lib.hid hP
          have HZ := Lib.hid hz
          have HM := Lib.hid (hgt_of hP.h0)
          have hhi := fun w' (hb : Below wr.heap.size wr w') => high_w (cano H c2) A3 cap3 _ w' (cano_ml _ _) HP.out.hc (HP.out.nk.step hb)
          have hem := fun w => empty_w A3 (cano H c2).kids.length cap3 (cano H c2).val (cano H c2).marks w
          rw [show emI (cano H c2).kids.length (cano H c2).val (cano H c2).marks = (cano H c2).emB from rfl] at hem
          have x0 := cells_at hP.h0 0; have x1 := cells_at hP.h0 1; have x2 := cells_at hP.h0 2; have x3 := cells_at hP.h0 3; simp only [List.getElem?_toArray, List.getElem?_cons_zero, List.getElem?_cons_succ] at x0 x1 x2 x3
          clear hP hz
          rcases H with _ | H
          · have HOK := Lib.hid (show TreeOk 0 c2 from ⟨by omega, HZ.out, .inl rfl⟩)
            go_wp2_with (refine wpList_store_rowTo rfl 28 (.tmp 6) (.tmp 62) rfl rfl (b + 2) #[.int .i64 ((0 : Nat) : Int), .slice A3 (cano (0) c2).kids.length cap3, .int .i64 (cano (0) c2).val, .int .i64 (cano (0) c2).marks] rfl rfl 28 _ (HP.out.h2) tree_size rfl (tree_one _ _ _ _ _ _) ?_)
            show bodyPost Try.prog Try.f55 _ _ _ _
            refine bodyPost_ret (tree_res rfl _ _ (b + 2) _ _ _ _ _ _ rfl (setRow_heap _ _ _ _ _ _ HP.out.h2)) rfl ⟨0, A3, cap3, rfl, HOK.out, HP.out.hc, (HP.out.nk.kept (by simp [World.setRow]) (fun z hz hlt => setRow_other _ _ _ _ hz.2.2)).weak fun z _ hz => hz.1, bl_setRow HP.out.below (by rw [HBe.out]; omega) _⟩
          · have hz0 : (0 : Int) < ((H + 1 : Nat) : Int) := by omega
            cases hhv : highT (cano (H + 1) c2) with
            | true =>
              have HOK := Lib.hid (show TreeOk (H + 1) c2 from ⟨hH4', HZ.out, .inr (high_zero hhv)⟩)
              rw [hhv] at hhi
              clear hhv
              go_wp2_with (first
                | (go_at_call 45; (with_reducible refine Calls.mono (hhi _ (Below.refl _ _)) ?_); rintro e w1 ⟨rfl, hb1⟩; have HP2 := Lib.hid (HP.out.step hb1); have x0 := cells_at HP2.out.h0 0; have x1 := cells_at HP2.out.h0 1; have x2 := cells_at HP2.out.h0 2; have x3 := cells_at HP2.out.h0 3; simp only [List.getElem?_toArray, List.getElem?_cons_zero, List.getElem?_cons_succ] at x0 x1 x2 x3; have e0 := free_at HP2.out.h0 0)
                | (refine wpList_store_rowTo rfl 28 (.tmp 6) (.tmp 62) rfl rfl (b + 2) #[.int .i64 ((H + 1 : Nat) : Int), .slice A3 (cano (H + 1) c2).kids.length cap3, .int .i64 (cano (H + 1) c2).val, .int .i64 (cano (H + 1) c2).marks] rfl rfl 28 _ (HP2.out.h2) tree_size rfl (tree_one _ _ _ _ _ _) ?_))
              show bodyPost Try.prog Try.f55 _ _ _ _
              refine bodyPost_ret (tree_res rfl _ _ (b + 2) _ _ _ _ _ _ rfl (setRow_heap _ _ _ _ _ _ HP2.out.h2)) rfl ⟨H + 1, A3, cap3, rfl, HOK.out, HP2.out.hc, (HP2.out.nk.kept (by simp [World.setRow]) (fun z hz hlt => setRow_other _ _ _ _ hz.2.2)).weak fun z _ hz => hz.1, bl_setRow HP2.out.below (by rw [HBe.out]; omega) _⟩
            | false =>
              have HL := Lib.hid (low_of_high HZ.out hhv)
              rw [hhv] at hhi
              clear hhv
              have hw1 : IntKind.i64.wrap (((H + 1 : Nat) : Int) - 1) = (H : Int) := by rw [w64 (by omega)]; omega
              have hw2 : ((H + 1 : Nat) : Int) - 1 = (H : Int) := by omega
              cases he : (cano (H + 1) c2).emB with
              | true =>
                obtain ⟨g1, g2⟩ := low_em he
                rw [he] at hem
                have HG1 := Lib.hid g1
                have HG2 := Lib.hid g2
                clear he g1 g2
                go_wp2_with (first | (go_at_call 45; (with_reducible refine Calls.mono (hhi _ (Below.refl _ _)) ?_); rintro e w1 ⟨rfl, hb1⟩; have HP2 := Lib.hid (HP.out.step hb1); have x0 := cells_at HP2.out.h0 0; have x1 := cells_at HP2.out.h0 1; have x2 := cells_at HP2.out.h0 2; have x3 := cells_at HP2.out.h0 3; simp only [List.getElem?_toArray, List.getElem?_cons_zero, List.getElem?_cons_succ] at x0 x1 x2 x3; have e0 := free_at HP2.out.h0 0) | (go_at_call 59; (with_reducible refine Calls.mono (hem _) ?_); rintro e w2 ⟨rfl, hb2⟩; have HP3 := Lib.hid (HP2.out.step hb2); have x0 := cells_at HP3.out.h0 0; have x1 := cells_at HP3.out.h0 1; have x2 := cells_at HP3.out.h0 2; have x3 := cells_at HP3.out.h0 3; simp only [List.getElem?_toArray, List.getElem?_cons_zero, List.getElem?_cons_succ] at x0 x1 x2 x3; have e0 := free_at HP3.out.h0 0))
                go_roundw
                case rel =>
                  have := HP3.out.setH (Nat.le_of_eq HBe.out.symm) hg H (H : Int) rfl
                  rw [HG1.out, ← HG2.out] at this
                  exact ⟨H, _, _, by omega, HL.out, this⟩
                case measure => rw [HM.out, hgt_of (HP3.out.setH (Nat.le_of_eq HBe.out.symm) hg H (H : Int) rfl).h0]; omega
              | false =>
                obtain ⟨g1, g2⟩ := low_kid he
                rw [he] at hem
                clear he
                obtain ⟨b', o, k, A4, cap4, rfl, _, hbl, hi0, hNC, hkm, hkc, hkk⟩ := HP.out.nk.at_ (i := 0) (by omega)
                rw [g2] at hi0
                injection hi0 with hi0
                subst hi0
                obtain ⟨c0, c1, c2'⟩ := hNC
                rw [Nat.zero_mul, Nat.add_zero] at c0 c1 c2'
                have HK := Lib.hid hkk
                have HKC := Lib.hid hkc
                rw [g1] at hhi hem
                have h00 := HP.out.h0
                rw [g1] at h00
                have HG1 := Lib.hid g1
                clear x0 x1 x2 x3
                have x0 := cells_at h00 0; have x1 := cells_at h00 1; have x2 := cells_at h00 2; have x3 := cells_at h00 3; simp only [List.getElem?_toArray, List.getElem?_cons_zero, List.getElem?_cons_succ] at x0 x1 x2 x3
                clear g1 g2 hkk hkc hkm h00
                go_wp2_with (first
                  | ((go_at_call 45; (with_reducible refine Calls.mono (hhi _ (Below.refl _ _)) ?_); rintro e w1 ⟨rfl, hb1⟩; have HP2 := Lib.hid (HP.out.step hb1); have e0 := free_at HP2.out.h0 0); have h00 := HP2.out.h0; rw [HG1.out] at h00; have x0 := cells_at h00 0; have x1 := cells_at h00 1; have x2 := cells_at h00 2; have x3 := cells_at h00 3; simp only [List.getElem?_toArray, List.getElem?_cons_zero, List.getElem?_cons_succ] at x0 x1 x2 x3; clear h00; have k0 := (hb1.cell (p := ⟨b', _, none⟩) hbl).trans c0; have k1 := (hb1.cell (p := ⟨b', _, none⟩) hbl).trans c1; have k2 := (hb1.cell (p := ⟨b', _, none⟩) hbl).trans c2'; have lb1 := Nat.lt_of_lt_of_le hbl hb1.size)
                  | ((go_at_call 59; (with_reducible refine Calls.mono (hem _) ?_); rintro e w2 ⟨rfl, hb2⟩; have HP3 := Lib.hid (HP2.out.step hb2); have e0 := free_at HP3.out.h0 0); have h00 := HP3.out.h0; rw [HG1.out] at h00; have x0 := cells_at h00 0; have x1 := cells_at h00 1; have x2 := cells_at h00 2; have x3 := cells_at h00 3; simp only [List.getElem?_toArray, List.getElem?_cons_zero, List.getElem?_cons_succ] at x0 x1 x2 x3; clear h00; have k0 := (hb2.cell (p := ⟨b', _, none⟩) lb1).trans k0; have k1 := (hb2.cell (p := ⟨b', _, none⟩) lb1).trans k1; have k2 := (hb2.cell (p := ⟨b', _, none⟩) lb1).trans k2)
                  | ((refine wpList_store_mid rfl 26 (.tmp 57) (.tmp 56) rfl b (1) #[.slice A4 (cano H c2).kids.length cap4, .int .i64 (cano H c2).val, .int .i64 (cano H c2).marks] rfl rfl (there3 HP3.out.h0) node_size (node_one _ _ _ _ _) ?_); have HP4 := Lib.hid (HP3.out.setR (Nat.le_of_eq HBe.out.symm) hg (cano H c2) A4 cap4 HKC.out ((HK.out.step hb1).step hb2)); have x0 := cells_at HP4.out.h0 0; have x1 := cells_at HP4.out.h0 1; have x2 := cells_at HP4.out.h0 2; have x3 := cells_at HP4.out.h0 3; simp only [List.getElem?_toArray, List.getElem?_cons_zero, List.getElem?_cons_succ] at x0 x1 x2 x3; have e0 := free_at HP4.out.h0 0))
                go_roundw
                case rel => exact ⟨H, A4, cap4, by omega, HL.out, HP4.out.setH (Nat.le_of_eq HBe.out.symm) hg H (H : Int) rfl⟩
                case measure => rw [HM.out, hgt_of (HP4.out.setH (Nat.le_of_eq HBe.out.symm) hg H (H : Int) rfl).h0]; omega

end Go.Proofs.Ytpoagdffpajdjaa
