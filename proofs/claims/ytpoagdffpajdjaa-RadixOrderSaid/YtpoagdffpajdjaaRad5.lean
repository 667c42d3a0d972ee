/-
  Valid, find, Get, frame and Marked of package radix, by contracts.
-/
import Derived.Test.YtpoagdffpajdjaaRad4
import Derived.Test.YtpoagdffpajdjaaExt
import Derived.Great.BuildSlice
import Derived.StillTail
import Derived.StillTailTactics
namespace Go.Proofs.Ytpoagdffpajdjaa
open Go.RowKit
set_option linter.unusedVariables false
set_option linter.unusedSimpArgs false

set_option maxRecDepth 100000 in
set_option maxHeartbeats 2000000 in
theorem valid_w (hI : Int) (t : T) (A : Option Addr) (cap : Nat) (S : Nat → Prop) (w : World) (hm : t.kids.length ≤ maxLen) (hcap : t.kids.length ≤ cap) (hk : NK w S A t.kids) :
    Calls Try.prog 15 #[trV hI A t.kids.length cap t.val t.marks] w (RetB (validT hI t) w) := by
  have HA := Lib.hid ((Below.refl w.heap.size w).alloc (Nat.le_refl _) (.cells #[.int .i64 hI, .slice A t.kids.length cap, .int .i64 t.val, .int .i64 t.marks] 28))
  by_cases h0 : 0 ≤ hI
  · by_cases h4 : hI ≤ 4
    · obtain ⟨h, rfl⟩ := Int.eq_ofNat_of_zero_le h0
      have hr := fun w' (hb : Below w.heap.size w w') => right_w h t A cap S w' (by omega) hcap (hk.step hb)
      have hhi := fun w' (hb : Below w.heap.size w w') => high_w t A cap S w' hm hcap (hk.step hb)
      have HV := Lib.hid (show validT h t = (rightT h t && (decide ((h : Int) = 0) || highT t)) by unfold validT; rw [decide_eq_true (show 0 ≤ (h : Int) ∧ (h : Int) ≤ 4 by omega), Int.toNat_natCast]; rfl)
      cases hrt : rightT h t with
      | false =>
        rw [hrt] at HV hr
        clear hrt
        go_enter Try.func15, Try.ntmps15
        go_wp2_with (first | (go_at_call 44; (with_reducible refine Calls.mono (hr _ ((Below.refl _ _).alloc (Nat.le_refl _) _)) ?_); rintro e w1 ⟨rfl, hb1⟩; have HX1 := Lib.hid (bk_step (heap_alloc_at w _) hb1); have x0 := cells_at HX1.out 0; have x1 := cells_at HX1.out 1; have x2 := cells_at HX1.out 2; have x3 := cells_at HX1.out 3; simp only [List.getElem?_toArray, List.getElem?_cons_zero, List.getElem?_cons_succ] at x0 x1 x2 x3; have HB1 := Lib.hid (bl_step (bl_alloc (Below.refl w.heap.size w) _) hb1); clear hb1) | (go_at_call 45; (with_reducible refine Calls.mono (hhi _ HB1.out) ?_); rintro e w2 ⟨rfl, hb2⟩))
        go_ret
        exact ⟨ret_bool (by rw [HV.out]; rfl), HB1.out⟩
      | true =>
        rw [hrt] at HV hr
        clear hrt
        rcases h with _ | h
        · go_enter Try.func15, Try.ntmps15
          go_wp2_with (first | (go_at_call 44; (with_reducible refine Calls.mono (hr _ ((Below.refl _ _).alloc (Nat.le_refl _) _)) ?_); rintro e w1 ⟨rfl, hb1⟩; have HX1 := Lib.hid (bk_step (heap_alloc_at w _) hb1); have x0 := cells_at HX1.out 0; have x1 := cells_at HX1.out 1; have x2 := cells_at HX1.out 2; have x3 := cells_at HX1.out 3; simp only [List.getElem?_toArray, List.getElem?_cons_zero, List.getElem?_cons_succ] at x0 x1 x2 x3; have HB1 := Lib.hid (bl_step (bl_alloc (Below.refl w.heap.size w) _) hb1); clear hb1) | (go_at_call 45; (with_reducible refine Calls.mono (hhi _ HB1.out) ?_); rintro e w2 ⟨rfl, hb2⟩))
          go_ret
          exact ⟨ret_bool (by rw [HV.out]; simp), HB1.out⟩
        · rw [show ((h + 1 : Nat) : Int) = (h : Int) + 1 by omega] at hr HV ⊢
          have hz : ((h : Int) + 1 == 0) = false := beq_eq_false_iff_ne.2 (by omega)
          have HZ := Lib.hid (show decide ((h : Int) + 1 = 0) = false from decide_eq_false (by omega))
          go_enter Try.func15, Try.ntmps15
          go_wp2_with (first | (go_at_call 44; (with_reducible refine Calls.mono (hr _ ((Below.refl _ _).alloc (Nat.le_refl _) _)) ?_); rintro e w1 ⟨rfl, hb1⟩; have HX1 := Lib.hid (bk_step (heap_alloc_at w _) hb1); have x0 := cells_at HX1.out 0; have x1 := cells_at HX1.out 1; have x2 := cells_at HX1.out 2; have x3 := cells_at HX1.out 3; simp only [List.getElem?_toArray, List.getElem?_cons_zero, List.getElem?_cons_succ] at x0 x1 x2 x3; have HB1 := Lib.hid (bl_step (bl_alloc (Below.refl w.heap.size w) _) hb1); clear hb1) | (go_at_call 45; (with_reducible refine Calls.mono (hhi _ HB1.out) ?_); rintro e w2 ⟨rfl, hb2⟩))
          go_ret
          exact ⟨ret_bool (by rw [HV.out, HZ.out]; rfl), bl_step HB1.out hb2⟩
    · have HV := Lib.hid (show validT hI t = false by unfold validT; rw [decide_eq_false (by omega)]; rfl)
      go_enter Try.func15, Try.ntmps15
      go_wp2
      go_ret
      exact ⟨ret_bool HV.out.symm, HA.out⟩
  · have HV := Lib.hid (show validT hI t = false by unfold validT; rw [decide_eq_false (by omega)]; rfl)
    go_enter Try.func15, Try.ntmps15
    go_wp2
    go_ret
    exact ⟨ret_bool HV.out.symm, HA.out⟩

theorem hf_le {i h : Nat} (hi : i < 256) (hh : h ≤ 4) : hf i ≤ h ↔ i < 4 ^ h := by
  unfold hf
  match h, hh with
  | 0, _ => (repeat' split) <;> omega
  | 1, _ => (repeat' split) <;> omega
  | 2, _ => (repeat' split) <;> omega
  | 3, _ => (repeat' split) <;> omega
  | 4, _ => (repeat' split) <;> omega
  | h + 5, hh => omega
/-- The first index of the subtree of a height that has an index. -/
def bas (i h : Nat) : Nat := i / 4 ^ h * 4 ^ h
theorem bas_at (i h : Nat) : bas i h + i % 4 ^ h = i := by unfold bas; rw [Nat.mul_comm]; exact Nat.div_add_mod i (4 ^ h)
theorem bas_succ (i h : Nat) : bas i (h + 1) + i / 4 ^ h % 4 * 4 ^ h = bas i h := by
  unfold bas
  rw [Nat.pow_succ, ← Nat.div_div_eq_div_mul]
  have := Nat.div_add_mod (i / 4 ^ h) 4
  generalize i / 4 ^ h = q at this ⊢
  rw [show q / 4 * (4 ^ h * 4) = q / 4 * 4 * 4 ^ h by rw [Nat.mul_assoc, Nat.mul_comm (4 ^ h) 4], ← Nat.add_mul]
  congr 1
  omega
theorem bas_zero (i : Nat) : bas i 0 = i := by simp [bas]
theorem bas_top {i h : Nat} (hi : i < 4 ^ h) : bas i h = 0 := by unfold bas; rw [Nat.div_eq_of_lt hi, Nat.zero_mul]
/-- The subtree of a height that has an index. -/
def subC (c : Cn) (i h : Nat) : T := cano h (sh c (bas i h))
theorem subC_zero (c : Cn) (i : Nat) : subC c i 0 = .mk [] (c i).1 (c i).2 := by
  unfold subC
  rw [bas_zero]
  simp [cano, sh]
theorem subC_kid {c : Cn} {i h : Nat} (he : (subC c i (h + 1)).emB = false) : (subC c i (h + 1)).kids.length = 4 ∧ (subC c i (h + 1)).kids[i / 4 ^ h % 4]? = some (subC c i h) := by
  unfold subC at he ⊢
  rw [emB_cano] at he
  rw [cano_succ, he, if_neg (by simp)]
  refine ⟨kidsC_len _ _, ?_⟩
  show (kidsC h _)[_]? = _
  rw [kidsC_at (Nat.mod_lt _ (by omega)), sh_sh, bas_succ]
theorem subC_em {c : Cn} {i h : Nat} (he : (subC c i h).emB = true) : c i = (0, 0) ∧ subC c i h = .nil := by
  unfold subC at he ⊢
  have hn := he
  rw [emB_cano] at hn
  refine ⟨?_, cano_none hn⟩
  have := noneB_true.1 hn (i % 4 ^ h) (Nat.mod_lt _ (Nat.pow_pos (by omega)))
  simp only [sh] at this
  rw [bas_at] at this
  exact this
theorem subC_top {c : Cn} {i h : Nat} (hi : i < 4 ^ h) : subC c i h = cano h c := by unfold subC; rw [bas_top hi, sh_zero]
/-- The cells of a path. -/
theorem path_at {w : World} {b i h : Nat} (hi : i < 256) (hb : w.heap[b]? = some (.cells #[.int .i64 ((i / 4 / 4 / 4 % 4 : Nat) : Int), .int .i64 ((i / 4 / 4 % 4 : Nat) : Int), .int .i64 ((i / 4 % 4 : Nat) : Int), .int .i64 ((i % 4 : Nat) : Int)] 76 (0, 0))) (h4 : h < 4) :
    w.cell? ⟨b, 4 - (h + 1), none⟩ = some (.int .i64 ((i / 4 ^ h % 4 : Nat) : Int)) := by
  rw [cells_at hb]
  match h, h4 with
  | 0, _ => simp
  | 1, _ => simp
  | 2, _ => simp [Nat.div_div_eq_div_mul]
  | 3, _ => simp [Nat.div_div_eq_div_mul]

theorem node_size : (Try.prog.info? 26).map (·.size) = some 3 := by kernel_rfl
/-- A node comes back out of its cell. -/
theorem node_res {fn : Func} {p : Tmp} (h : fn.results = #[.cell p 26]) (tmps : Array Value) (w : World) (g : Nat) (t : TypeId) (a b c : Value) (fr : Nat × Nat)
    (hp : tmps.getD p undef = .pointer (some ⟨g, 0, none⟩)) (hg : w.heap[g]? = some (.cells #[a, b, c] t fr)) : (results fn tmps).run Try.prog w = .ok (.agg #[a, b, c]) w :=
  results_cell_row h tmps w g t _ fr _ hp hg Try.underlying26 rfl node_size
theorem bl_setRow {B g : Nat} {w0 w : World} (hb : Below B w0 w) (hBg : B ≤ g) (cs : Array Value) : Below B w0 (w.setRow g cs) :=
  hb.trans ⟨rfl, rfl, rfl, by simp [World.setRow], fun k hk => setRow_other w g k cs (by omega)⟩
theorem node_one (A : Option Addr) (n cap : Nat) (v m : Int) : (#[Value.slice A n cap, .int .i64 v, .int .i64 m] : Array Value).all (·.oneCell') = true := by simp [Value.oneCell']
set_option maxRecDepth 100000 in
set_option maxHeartbeats 4000000 in
theorem find_w (h : Nat) (c : Cn) (A : Option Addr) (cap : Nat) (S : Nat → Prop) (i : Nat) (w : World) (hi : i < 256) (ht : TreeOk h c) (hcap : (cano h c).kids.length ≤ cap) (hk : NK w S A (cano h c).kids) :
    Calls Try.prog 50 #[trV h A (cano h c).kids.length cap (cano h c).val (cano h c).marks, .int .i64 i] w fun e w' => ∃ A' cap', e = .returned (ndV A' 0 cap' (c i).1 (c i).2) ∧ Below w.heap.size w w' := by
  have h4 := ht.1
  have hr := fun w => route_w i w hi
  have hh := fun w => height_w i w hi
  have HLE := Lib.hid (hf_le hi h4)
  have HC0 := Lib.hid (fun (hle : ¬ hf i ≤ h) => ht.2.1 i (by have := (hf_le hi h4).2; omega))
  have Hpath := Lib.hid (fun w b h hb h4 => path_at (w := w) (b := b) (h := h) hi hb h4)
  have HST := Lib.hid (fun w' (hb : Below w.heap.size w w') => hk.step hb)
  obtain ⟨n, hn⟩ : ∃ n, (cano h c).kids.length = n := ⟨_, rfl⟩
  obtain ⟨v, hv⟩ : ∃ v, (cano h c).val = v := ⟨_, rfl⟩
  obtain ⟨m, hm⟩ : ∃ m, (cano h c).marks = m := ⟨_, rfl⟩
  rw [hn] at hcap
  rw [hn, hv, hm]
  have Hn := Lib.hid hn
  have Hv := Lib.hid hv
  have Hm := Lib.hid hm
  clear hn hv hm hk ht
  have HB := Lib.hid (((Below.refl w.heap.size w).alloc (Nat.le_refl _) (.cells #[.int .i64 h, .slice A n cap, .int .i64 v, .int .i64 m] 28)).alloc (by simp) (.cells #[.slice none 0 0, .int .i64 0, .int .i64 0] 26))
  have HX := Lib.hid (bk_alloc (heap_alloc_at w (.cells #[.int .i64 h, .slice A n cap, .int .i64 v, .int .i64 m] 28)) (.cells #[.slice none 0 0, .int .i64 0, .int .i64 0] 26))
  have HY := Lib.hid (heap_at_new (w.alloc (.cells #[.int .i64 h, .slice A n cap, .int .i64 v, .int .i64 m] 28)) (.cells #[.slice none 0 0, .int .i64 0, .int .i64 0] 26) (w.heap.size + 1) (by simp))
  obtain ⟨b2, hb2⟩ : ∃ b, b = w.heap.size := ⟨_, rfl⟩
  rw [← hb2] at HX HY
  have HBe := Lib.hid hb2
  clear hb2
  unfold pathV at hr hh
  go_enter Try.func50, Try.ntmps50
  go_upto_region 0 with fail
  go_cut [2, 4] (fun s2 s4 wx => s2 = .pointer (some ⟨b2, 0, none⟩) ∧ s4 = .pointer (some ⟨b2 + 1, 0, none⟩) ∧ wx.heap[b2]? = some (.cells #[.int .i64 h, .slice A n cap, .int .i64 v, .int .i64 m] 28 (0, 0)) ∧ wx.heap[b2 + 1]? = some (.cells #[.slice none 0 0, .int .i64 0, .int .i64 0] 26 (0, 0)) ∧ Below w.heap.size w wx)
  case first =>
    go_wp2
    go_meet
    case rel => exact ⟨by rw [HBe.out], by rw [HBe.out], HX.out, HY.out, HB.out⟩
  case rest =>
    obtain ⟨rfl, rfl, hX, hY, hW⟩ := hcut
    clear HX HY HB
    have HX := Lib.hid hX
    have HY := Lib.hid hY
    have HW := Lib.hid hW
    clear hX hY hW
    go_upto_region 1 with fail
    go_cut [5] (fun s5 wx => ∃ b5, s5 = .pointer (some ⟨b5, 0, none⟩) ∧ wx.heap[b5]? = some (.cells #[.int .i64 ((i / 4 / 4 / 4 % 4 : Nat) : Int), .int .i64 ((i / 4 / 4 % 4 : Nat) : Int), .int .i64 ((i / 4 % 4 : Nat) : Int), .int .i64 ((i % 4 : Nat) : Int)] 76 (0, 0)) ∧ wx.heap[b2]? = some (.cells #[.int .i64 h, .slice A n cap, .int .i64 v, .int .i64 m] 28 (0, 0)) ∧ wx.heap[b2 + 1]? = some (.cells #[.slice none 0 0, .int .i64 0, .int .i64 0] 26 (0, 0)) ∧ Below w.heap.size w wx)
    case first =>
      go_wp2_with (go_at_call 62; (with_reducible refine Calls.mono (hr _) ?_); rintro e w1 ⟨rfl, hb1⟩)
      go_meet
      case rel => exact ⟨_, rfl, heap_alloc_new _ _, bk_alloc (bk_step HX.out hb1) _, bk_alloc (bk_step HY.out hb1) _, bl_alloc (bl_step HW.out hb1) _⟩
    case rest =>
      clear HX HY HW hr
      obtain ⟨b5, rfl, hP, hX, hY, hW⟩ := hcut
      obtain ⟨W, hWe⟩ : ∃ W : World, W = wc := ⟨_, rfl⟩
      subst hWe
      have HX := Lib.hid hX
      have HY := Lib.hid hY
      have HW := Lib.hid hW
      have HP := Lib.hid hP
      have lX := bk_lt hX
      have lP := bk_lt hP
      have x0 := cells_at hX 0
      have p0 := cells_at hP 0
      have p1 := cells_at hP 1
      have p2 := cells_at hP 2
      have p3 := cells_at hP 3
      simp only [List.getElem?_toArray, List.getElem?_cons_zero, List.getElem?_cons_succ] at x0 p0 p1 p2 p3
      have xe := ext_cell W
      clear hX hY hW hP
      go_upto_region 2 with fail
      go_cut [14] (fun s14 wx => s14 = .bool (decide (h < hf i)) ∧ ∃ z, wx = ext W z)
      case first =>
        refine wp_region_ext (by kernel_rfl) (by kernel_rfl) ?_
        (refine wpQuiet_step (fun K hK => ?_); go_simp; (with_reducible refine hK _ ?_); clear hK K)
        (refine wpQuiet_step (fun K hK => ?_); go_simp; apply Exists.intro; refine ⟨fun _ => ?_, hK _ ?_⟩; (exact ext_call (hh _)); clear hK K)
        (refine wpQuiet_step (fun K hK => ?_); go_simp; (with_reducible refine hK _ ?_); clear hK K)
        (refine wpQuiet_step (fun K hK => ?_); go_simp; (with_reducible refine hK _ ?_); clear hK K)
        (refine wpQuiet_step (fun K hK => ?_); go_simp; (with_reducible refine hK _ ?_); clear hK K)
        refine wpQuiet_nil ?_
        rintro w' ⟨z, rfl⟩
        go_wp2
        go_meet
        case rel => exact ⟨rfl, z, rfl⟩
      case rest =>
        obtain ⟨rfl, z, rfl⟩ := hcut
        have hbz := below_ext W z
        have HX2 := Lib.hid (bk_step HX.out hbz)
        have HY2 := Lib.hid (bk_step HY.out hbz)
        have HP2 := Lib.hid (bk_step HP.out hbz)
        have HW2 := Lib.hid (bl_step HW.out hbz)
        clear HX HY HP HW x0 p0 p1 p2 p3 lX lP xe
        generalize ext W z = U at hbz HX2 HY2 HP2 HW2 ⊢
        clear hbz hh
        have x0 := cells_at HX2.out 0; have x1 := cells_at HX2.out 1; have x2 := cells_at HX2.out 2; have x3 := cells_at HX2.out 3; simp only [List.getElem?_toArray, List.getElem?_cons_zero, List.getElem?_cons_succ] at x0 x1 x2 x3
        by_cases hle : hf i ≤ h
        · have hd : decide (h < hf i) = false := decide_eq_false (by omega)
          have HLT := Lib.hid (HLE.out.1 hle)
          clear hle
          rw [hd]
          go_upto_region 4 with fail
          go_cut [6] (fun s6 wx => ∃ b6, s6 = .pointer (some ⟨b6, 0, none⟩) ∧ b2 + 1 < b6 ∧ b5 < b6 ∧ wx.heap[b6]? = some (.cells #[.slice A n cap, .int .i64 v, .int .i64 m] 26 (0, 0)) ∧ wx.heap[b5]? = some (.cells #[.int .i64 ((i / 4 / 4 / 4 % 4 : Nat) : Int), .int .i64 ((i / 4 / 4 % 4 : Nat) : Int), .int .i64 ((i / 4 % 4 : Nat) : Int), .int .i64 ((i % 4 : Nat) : Int)] 76 (0, 0)) ∧ wx.heap[b2]? = some (.cells #[.int .i64 h, .slice A n cap, .int .i64 v, .int .i64 m] 28 (0, 0)) ∧ wx.heap[b2 + 1]? = some (.cells #[.slice none 0 0, .int .i64 0, .int .i64 0] 26 (0, 0)) ∧ Below w.heap.size w wx)
          case first =>
            have lY := bk_lt HY2.out
            have lP := bk_lt HP2.out
            go_wp2
            go_meet
            case rel => exact ⟨_, rfl, lY, lP, heap_alloc_new _ _, bk_alloc HP2.out _, bk_alloc HX2.out _, bk_alloc HY2.out _, bl_alloc HW2.out _⟩
          case rest =>
            clear HX2 HY2 HP2 HW2 x0 x1 x2 x3 hd
            obtain ⟨b6, rfl, l6, l5, hN, hP, hX, hY, hW⟩ := hcut
            have x0 := cells_at hX 0; have x1 := cells_at hX 1; have x2 := cells_at hX 2; have x3 := cells_at hX 3; simp only [List.getElem?_toArray, List.getElem?_cons_zero, List.getElem?_cons_succ] at x0 x1 x2 x3
            have HN := Lib.hid hN
            have HX := Lib.hid hX
            have HY := Lib.hid hY
            have HP := Lib.hid hP
            have HW := Lib.hid hW
            clear hN hP hX hY hW
            go_wp2
            clear x0 x1 x2 x3
            go_loopw [7] (fun s7 wx => ∃ (k : Nat) (A' : Option Addr) (cap' : Nat), k ≤ h ∧ s7 = .int .i64 k ∧ wx.heap[b6]? = some (.cells #[.slice A' (subC c i k).kids.length cap', .int .i64 (subC c i k).val, .int .i64 (subC c i k).marks] 26 (0, 0)) ∧ (subC c i k).kids.length ≤ cap' ∧ NK w S A' (subC c i k).kids ∧ wx.heap[b5]? = some (.cells #[.int .i64 ((i / 4 / 4 / 4 % 4 : Nat) : Int), .int .i64 ((i / 4 / 4 % 4 : Nat) : Int), .int .i64 ((i / 4 % 4 : Nat) : Int), .int .i64 ((i % 4 : Nat) : Int)] 76 (0, 0)) ∧ wx.heap[b2 + 1]? = some (.cells #[.slice none 0 0, .int .i64 0, .int .i64 0] 26 (0, 0)) ∧ Below w.heap.size w wx) (fun s7 _ => (intOf s7).toNat)
            case atStart => exact ⟨h, A, cap, Nat.le_refl _, rfl, by rw [subC_top HLT.out, Hn.out, Hv.out, Hm.out]; exact HN.out, by rw [subC_top HLT.out, Hn.out]; exact hcap, by rw [subC_top HLT.out]; exact HST.out _ (Below.refl _ _), HP.out, HY.out, HW.out⟩
            case round =>
              clear HN HX HY HP HW HC0 HLE Hn Hv Hm hcap HLT
              obtain ⟨k, A', cap', hkh, rfl, hN, hcap, hNK, hP, hY, hW⟩ := hrel
              have emk := fun w => empty_w A' (subC c i k).kids.length cap' (subC c i k).val (subC c i k).marks w
              rw [show emI (subC c i k).kids.length (subC c i k).val (subC c i k).marks = (subC c i k).emB from rfl] at emk
              have HN := Lib.hid hN
              have HY := Lib.hid hY
              have HP := Lib.hid hP
              have HW := Lib.hid hW
              clear hN hP hY hW
              have lW := HW.out.size
              rcases k with _ | k
              · have e1 : (subC c i 0).kids.length = 0 := by rw [subC_zero]; rfl
                have e2 : (subC c i 0).val = (c i).1 := by rw [subC_zero]; rfl
                have e3 : (subC c i 0).marks = (c i).2 := by rw [subC_zero]; rfl
                rw [e1, e2, e3] at HN
                clear e1 e2 e3 emk hNK hcap
                have x0 := cells_at HN.out 0; have x1 := cells_at HN.out 1; have x2 := cells_at HN.out 2; simp only [List.getElem?_toArray, List.getElem?_cons_zero, List.getElem?_cons_succ] at x0 x1 x2
                go_wp2_with (refine wpList_store_rowTo rfl 26 (.tmp 4) (.tmp 37) rfl rfl (b2 + 1) #[.slice A' 0 cap', .int .i64 (c i).1, .int .i64 (c i).2] rfl rfl 26 _ (HY.out) node_size rfl (node_one _ _ _ _ _) ?_)
                show bodyPost Try.prog Try.f50 _ _ _ _
                refine bodyPost_ret (node_res rfl _ _ (b2 + 1) _ _ _ _ _ rfl (setRow_heap _ _ _ _ _ _ HY.out)) rfl ⟨A', cap', rfl, ?_⟩
                exact bl_setRow HW.out (by rw [HBe.out]; omega) _
              · have hz : ((k : Int) + 1 == 0) = false := beq_eq_false_iff_ne.2 (by omega)
                have hz2 : (0 : Int) < (k : Int) + 1 := by omega
                cases hem : (subC c i (k + 1)).emB with
                | true =>
                  have ⟨hc, hnil⟩ := subC_em hem
                  rw [hem] at emk
                  rw [hnil] at HN emk
                  have HC := Lib.hid hc
                  clear hnil hcap hNK hc hem
                  have e1 : T.nil.kids.length = 0 := rfl
                  have e2 : T.nil.val = 0 := rfl
                  have e3 : T.nil.marks = 0 := rfl
                  rw [e1, e2, e3] at HN emk
                  clear e1 e2 e3
                  have x0 := cells_at HN.out 0; have x1 := cells_at HN.out 1; have x2 := cells_at HN.out 2; simp only [List.getElem?_toArray, List.getElem?_cons_zero, List.getElem?_cons_succ] at x0 x1 x2
                  go_wp2_with (first
                    | (go_at_call 59; (with_reducible refine Calls.mono (emk _) ?_); rintro e w1 ⟨rfl, hb1⟩; have HN1 := Lib.hid (bk_step HN.out hb1); have HY1 := Lib.hid (bk_step HY.out hb1); have HW1 := Lib.hid (bl_step HW.out hb1); have z0 := cells_at HN1.out 0; have z1 := cells_at HN1.out 1; have z2 := cells_at HN1.out 2; simp only [List.getElem?_toArray, List.getElem?_cons_zero, List.getElem?_cons_succ] at z0 z1 z2)
                    | (refine wpList_store_rowTo rfl 26 (.tmp 4) (.tmp 37) rfl rfl (b2 + 1) #[.slice A' 0 cap', .int .i64 0, .int .i64 0] rfl rfl 26 _ (HY1.out) node_size rfl (node_one _ _ _ _ _) ?_))
                  show bodyPost Try.prog Try.f50 _ _ _ _
                  refine bodyPost_ret (node_res rfl _ _ (b2 + 1) _ _ _ _ _ rfl (setRow_heap _ _ _ _ _ _ HY1.out)) rfl ⟨A', cap', by rw [HC.out], ?_⟩
                  exact bl_setRow HW1.out (by rw [HBe.out]; omega) _
                | false =>
                  have ⟨hl4, hkid⟩ := subC_kid hem
                  rw [hem] at emk
                  rw [hl4] at HN emk hcap
                  have hd4 : i / 4 ^ k % 4 < 4 := Nat.mod_lt _ (by omega)
                  obtain ⟨b, o, kk, A2, cap2, rfl, _, hbl, hkk, hNC, hkm, hkc, hNK2⟩ := hNK.at_ (show i / 4 ^ k % 4 < _ by rw [hl4]; exact hd4)
                  rw [hkid] at hkk
                  injection hkk with hkk
                  subst hkk
                  have HNC := Lib.hid hNC
                  have HNK2 := Lib.hid hNK2
                  have HPA := Lib.hid (fun w' hb => Hpath.out w' b5 k hb (by omega))
                  have q1 : IntKind.i64.wrap (4 - ((k : Int) + 1)) = ((4 - (k + 1) : Nat) : Int) := by rw [w64 (by omega)]; omega
                  have q2 : ((4 - (k + 1) : Nat) : Int) < 4 := by omega
                  have q3 : (0 : Int) ≤ ((4 - (k + 1) : Nat) : Int) := by omega
                  have q4 := w64 (x := (k : Int)) (by omega)
                  have HKL := Lib.hid hkc
                  clear hkid hem hNK hNC hNK2 hkm hkc hl4
                  generalize 4 - (k + 1) = j at HPA q1 q2 q3
                  obtain ⟨d, hd⟩ : ∃ d, i / 4 ^ k % 4 = d := ⟨_, rfl⟩
                  rw [hd] at HPA hd4 HNC
                  have d1 : (d : Int) < 4 := by omega
                  have d2 : (d : Int) < (cap' : Int) := by omega
                  have d3 : (0 : Int) ≤ (d : Int) := by omega
                  clear hd
                  have x0 := cells_at HN.out 0; have x1 := cells_at HN.out 1; have x2 := cells_at HN.out 2; simp only [List.getElem?_toArray, List.getElem?_cons_zero, List.getElem?_cons_succ] at x0 x1 x2
                  go_upto_region 8 with (go_at_call 59; (with_reducible refine Calls.mono (emk _) ?_); rintro e w1 ⟨rfl, hb1⟩; have HN1 := Lib.hid (bk_step HN.out hb1); have HY1 := Lib.hid (bk_step HY.out hb1); have HP1 := Lib.hid (bk_step HP.out hb1); have HW1 := Lib.hid (bl_step HW.out hb1))
                  clear HN HY HP HW x0 x1 x2 hb1 emk
                  refine wp_region_still_tail 8 (by kernel_rfl) (by kernel_rfl) ?_
                  simp only [List.take_succ_cons, List.take_zero, List.drop_succ_cons, List.drop_zero]
                  change wpStill _ _ (World.drew _) (fun a' => wpList _ _ _ _ a' (World.drew _)) _ _
                  generalize hG : World.drew _ = W2
                  have hbd := (Below.refl w1.heap.size w1).drew
                  rw [hG] at hbd
                  have HN2 := Lib.hid (bk_step HN1.out hbd)
                  have HY2 := Lib.hid (bk_step HY1.out hbd)
                  have HP2 := Lib.hid (bk_step HP1.out hbd)
                  have HW2 := Lib.hid (bl_step HW1.out hbd)
                  clear HN1 HY1 HP1 HW1 hG hbd
                  have x0 := cells_at HN2.out 0; have x1 := cells_at HN2.out 1; have x2 := cells_at HN2.out 2; simp only [List.getElem?_toArray, List.getElem?_cons_zero, List.getElem?_cons_succ] at x0 x1 x2
                  have pa := HPA.out W2 HP2.out
                  obtain ⟨c0, c1, c2⟩ := HNC.out
                  have c0 := (HW2.out.cell (p := ⟨b, _, none⟩) hbl).trans c0
                  have c1 := (HW2.out.cell (p := ⟨b, _, none⟩) hbl).trans c1
                  have c2 := (HW2.out.cell (p := ⟨b, _, none⟩) hbl).trans c2
                  iterate 8 (refine wpStill_step (fun K hK => ?_); go_simp; (with_reducible refine hK _ ?_); clear hK K)
                  refine wpStill_nil ?_
                  go_wp2_with (refine wpList_store_rowTo rfl 26 (.tmp 6) (.tmp 36) rfl rfl (b6) #[.slice A2 (subC c i k).kids.length cap2, .int .i64 (subC c i k).val, .int .i64 (subC c i k).marks] rfl rfl 26 _ (HN2.out) node_size rfl (node_one _ _ _ _ _) ?_)
                  go_roundw
                  case rel => exact ⟨k, A2, cap2, by omega, by go_num, setRow_heap _ _ _ _ _ _ HN2.out, HKL.out, HNK2.out, (setRow_other _ _ _ _ (by omega)).trans HP2.out, (setRow_other _ _ _ _ (by omega)).trans HY2.out, bl_setRow HW2.out (by have := HBe.out; omega) _⟩
                  case measure => simp [intOf]
        · have hd : decide (h < hf i) = true := decide_eq_true (by omega)
          have HC := Lib.hid (HC0.out hle)
          clear hle
          rw [hd]
          go_wp2_with (refine wpList_store_rowTo rfl 26 (.tmp 4) (.tmp 15) rfl rfl (b2 + 1) #[.slice none 0 0, .int .i64 0, .int .i64 0] rfl rfl 26 _ (HY2.out) node_size rfl (node_one _ _ _ _ _) ?_)
          show bodyPost Try.prog Try.f50 _ _ _ _
          refine bodyPost_ret (node_res rfl _ _ (b2 + 1) _ _ _ _ _ rfl (setRow_heap _ _ _ _ _ _ HY2.out)) rfl ⟨none, 0, by rw [HC.out], ?_⟩
          exact bl_setRow HW2.out (by rw [HBe.out]; omega) _

end Go.Proofs.Ytpoagdffpajdjaa
