/-
  put, by contract.
-/
import Derived.Test.YtpoagdffpajdjaaRad7
namespace Go.Proofs.Ytpoagdffpajdjaa
open Go.RowKit
set_option linter.unusedVariables false
set_option linter.unusedSimpArgs false

theorem upd_sh {h i k : Nat} {c : Cn} {y : Int × Int} (hk : k < 4) : cano h (sh (upd c (i % 4 ^ (h + 1)) y) (k * 4 ^ h)) = if k = i / 4 ^ h % 4 then cano h (upd (sh c (k * 4 ^ h)) (i % 4 ^ h) y) else cano h (sh c (k * 4 ^ h)) := by
  have hm : i % 4 ^ (h + 1) = i / 4 ^ h % 4 * 4 ^ h + i % 4 ^ h := by
    rw [Nat.mod_pow_succ, Nat.add_comm, Nat.mul_comm]
  have h0 : i % 4 ^ h < 4 ^ h := Nat.mod_lt _ (Nat.pow_pos (by omega))
  have hd : i / 4 ^ h % 4 < 4 := Nat.mod_lt _ (by omega)
  rw [hm]
  generalize i / 4 ^ h % 4 = d at hd ⊢
  generalize i % 4 ^ h = r at h0 ⊢
  have key : ∀ j, j < 4 ^ h → (k * 4 ^ h + j = d * 4 ^ h + r ↔ k = d ∧ j = r) := fun j hj => by
    constructor
    · intro e
      have h1 : k = d := by
        have e1 : (k * 4 ^ h + j) / 4 ^ h = k := by rw [Nat.add_comm, Nat.add_mul_div_right _ _ (by omega), Nat.div_eq_of_lt hj, Nat.zero_add]
        have e2 : (d * 4 ^ h + r) / 4 ^ h = d := by rw [Nat.add_comm, Nat.add_mul_div_right _ _ (by omega), Nat.div_eq_of_lt h0, Nat.zero_add]
        rw [← e1, e, e2]
      subst h1
      exact ⟨rfl, by omega⟩
    · rintro ⟨rfl, rfl⟩
      rfl
  split
  · next e =>
    subst e
    refine cano_ext h fun j hj => ?_
    simp only [sh, upd, key j hj, true_and]
  · next e =>
    refine cano_ext h fun j hj => ?_
    simp only [sh, upd, key j hj]
    rw [if_neg (fun h => e h.1)]
/-- The four nodes while they are made. -/
def mid (h : Nat) (c c' : Cn) (k : Nat) (j : Nat) : T := if j < k then cano h (sh c' (j * 4 ^ h)) else if j = k then cano h (sh c (j * 4 ^ h)) else .nil
theorem kids_range (h : Nat) (c : Cn) : (List.range 4).map (fun j => cano h (sh c (j * 4 ^ h))) = kidsC h c := rfl
theorem int_cano (h : Nat) (c : Cn) (A : Option Addr) (cap : Nat) : (noneB (4 ^ (h + 1)) c = true ∧ intV A cap (kidsC h c) = ndV none 0 0 0 0 ∧ cano (h + 1) c = .nil) ∨ (noneB (4 ^ (h + 1)) c = false ∧ intV A cap (kidsC h c) = ndV A 4 cap 0 (orK (kidsC h c)) ∧ cano (h + 1) c = .mk (kidsC h c) 0 (orK (kidsC h c))) := by
  unfold intV
  rw [someK_kids, cano_succ]
  cases noneB (4 ^ (h + 1)) c
  · exact .inr ⟨rfl, rfl, rfl⟩
  · exact .inl ⟨rfl, rfl, rfl⟩

theorem mid_next {h : Nat} {c c' : Cn} (k : Nat) : ∀ j, j < 4 → (if j = k then cano h (sh c' (k * 4 ^ h)) else mid h c c' k j) = if j < k + 1 then cano h (sh c' (j * 4 ^ h)) else .nil := by
  intro j _
  unfold mid
  by_cases e : j = k
  · subst e; simp
  · by_cases e2 : j < k
    · simp [e, e2, show j < k + 1 by omega]
    · simp [e, e2, show ¬ j < k + 1 by omega]
/-- What is known in the walk of put. -/
structure PS (W : World) (b : Nat) (a b' c d : Obj) (S : Nat → Prop) (f : Nat → T) (w : World) : Prop where
  h0 : w.heap[b]? = some a
  h1 : w.heap[b + 1]? = some b'
  h2 : w.heap[b + 2]? = some c
  h3 : w.heap[b + 3]? = some d
  kr : KR w (b + 4) (fun z => S z ∧ z ≠ b + 3 ∧ z ≠ b + 4) f
  below : Below W.heap.size W w
theorem PS.step {W w w' : World} {b : Nat} {a b' c d : Obj} {S : Nat → Prop} {f : Nat → T} (h : PS W b a b' c d S f w) (hb : Below w.heap.size w w') : PS W b a b' c d S f w' :=
  ⟨bk_step h.h0 hb, bk_step h.h1 hb, bk_step h.h2 hb, bk_step h.h3 hb, h.kr.step hb, bl_step h.below hb⟩
theorem PS.congr {W w : World} {b : Nat} {a b' c d : Obj} {S : Nat → Prop} {f f' : Nat → T} (h : PS W b a b' c d S f w) (hf : ∀ i, i < 4 → f i = f' i) : PS W b a b' c d S f' w := { h with kr := h.kr.congr hf }
theorem PS.set {W w : World} {b : Nat} {a b' c d : Obj} {S : Nat → Prop} {f : Nat → T} (h : PS W b a b' c d S f w) (hW : W.heap.size ≤ b) {j : Nat} (hj : j < 4) (A : Option Addr) (cap : Nat) (t : T) (h1 : t.kids.length ≤ maxLen) (h2 : t.kids.length ≤ cap) (hk : NK w (fun z => S z ∧ z ≠ b + 3 ∧ z ≠ b + 4) A t.kids) :
    PS W b a b' c d S (fun i => if i = j then t else f i) (w.setCells (b + 4) (j * 3) [.slice A t.kids.length cap, .int .i64 t.val, .int .i64 t.marks]) :=
  ⟨(heap_setCells _ _ _ w b (by omega)).trans h.h0, (heap_setCells _ _ _ w (b + 1) (by omega)).trans h.h1, (heap_setCells _ _ _ w (b + 2) (by omega)).trans h.h2, (heap_setCells _ _ _ w (b + 3) (by omega)).trans h.h3,
    h.kr.set (fun h => h.2.2 rfl) hj A cap t h1 h2 hk, bl_setCells h.below (by omega) _ _⟩
set_option maxRecDepth 100000 in
set_option maxHeartbeats 4000000 in
theorem put_w : ∀ (h : Nat) (c : Cn) (A : Option Addr) (cap : Nat) (S : Nat → Prop) (i : Nat) (xa : Option Addr) (xcap : Nat) (x m : Int) (w : World), h ≤ 4 → i < 256 → (cano h c).kids.length ≤ cap → NK w S A (cano h c).kids → (∀ b, w.heap.size ≤ b → S b) →
    Calls Try.prog 66 #[ndV A (cano h c).kids.length cap (cano h c).val (cano h c).marks, .int .i64 h, pathV i, ndV xa 0 xcap x m] w (RetT (cano h (upd c (i % 4 ^ h) (x, m))) S w) := by
  intro h
  induction h with
  | zero =>
    intro c A cap S i xa xcap x m w hh hi hcap hk hS
    unfold pathV
    obtain ⟨n, hn⟩ : ∃ n, (cano 0 c).kids.length = n := ⟨_, rfl⟩
    obtain ⟨v, hv⟩ : ∃ v, (cano 0 c).val = v := ⟨_, rfl⟩
    obtain ⟨mm, hm⟩ : ∃ m, (cano 0 c).marks = m := ⟨_, rfl⟩
    rw [hn, hv, hm]
    clear hn hv hm hk hcap
    have hR := heap_at_new (((w.alloc (.cells #[.slice A n cap, .int .i64 v, .int .i64 mm] 26)).alloc (.cells #[.int .i64 ((i / 4 / 4 / 4 % 4 : Nat) : Int), .int .i64 ((i / 4 / 4 % 4 : Nat) : Int), .int .i64 ((i / 4 % 4 : Nat) : Int), .int .i64 ((i % 4 : Nat) : Int)] 76)).alloc (.cells #[.slice xa 0 xcap, .int .i64 x, .int .i64 m] 26)) (.cells #[.slice none 0 0, .int .i64 0, .int .i64 0] 26) (w.heap.size + 1 + 1 + 1) (by simp)
    have HU := Lib.hid (show cano 0 (upd c (i % 4 ^ 0) (x, m)) = .mk [] x m by simp [cano, upd, Nat.mod_one])
    go_enter Try.func66, Try.ntmps66
    go_wp2_with (refine wpList_store_rowTo rfl 26 (.tmp 8) (.tmp 13) rfl rfl (w.heap.size + 1 + 1 + 1) #[.slice xa 0 xcap, .int .i64 x, .int .i64 m] rfl rfl 26 _ (hR) node_size rfl (node_one _ _ _ _ _) ?_)
    show bodyPost Try.prog Try.f66 _ _ _ _
    refine bodyPost_ret (node_res rfl _ _ (w.heap.size + 1 + 1 + 1) _ _ _ _ _ rfl (setRow_heap _ _ _ _ _ _ hR)) rfl ?_
    rw [HU.out]
    exact ⟨xa, xcap, rfl, Nat.zero_le _, .nil _, bl_setRow (bl_alloc (bl_alloc (bl_alloc (bl_alloc (Below.refl _ _) _) _) _) _) (by omega) _⟩
  | succ h ih =>
    intro c A cap S i xa xcap x m w hh hi hcap hk hS
    obtain ⟨b, hb⟩ : ∃ b, b = w.heap.size := ⟨_, rfl⟩
    have HBe := Lib.hid hb
    have em := fun w => empty_w A (cano (h + 1) c).kids.length cap (cano (h + 1) c).val (cano (h + 1) c).marks w
    rw [show emI (cano (h + 1) c).kids.length (cano (h + 1) c).val (cano (h + 1) c).marks = (cano (h + 1) c).emB from rfl] at em
    have HF := Lib.hid (fun k hk => upd_sh (h := h) (i := i) (k := k) (c := c) (y := (x, m)) hk)
    have HI := Lib.hid (fun A cap => int_cano h (upd c (i % 4 ^ (h + 1)) (x, m)) A cap)
    have HE := Lib.hid (emB_cano (h + 1) c)
    have HKK := Lib.hid (show noneB (4 ^ (h + 1)) c = false → (cano (h + 1) c).kids = kidsC h c from fun hn => by rw [cano_succ, hn]; rfl)
    have HK0 := Lib.hid (fun w' (hb : Below w.heap.size w w') => (hk.weak (S' := fun z => S z ∧ z ≠ b + 3 ∧ z ≠ b + 4) fun z hz h => ⟨h, by omega, by omega⟩).step hb)
    have HPA := Lib.hid (fun w b hb => path_at (w := w) (b := b) (h := h) hi hb (by omega))
    have hp := fun c A cap S w => ih c A cap S i xa xcap x m w (by omega) hi
    have HSS := Lib.hid hS
    obtain ⟨n, hn⟩ : ∃ n, (cano (h + 1) c).kids.length = n := ⟨_, rfl⟩
    obtain ⟨v, hv⟩ : ∃ v, (cano (h + 1) c).val = v := ⟨_, rfl⟩
    obtain ⟨mm, hm⟩ : ∃ m, (cano (h + 1) c).marks = m := ⟨_, rfl⟩
    rw [hn, hv, hm] at em
    rw [hn] at hcap
    rw [hn, hv, hm, show ((h + 1 : Nat) : Int) = (h : Int) + 1 by omega]
    have Hn := Lib.hid hn
    unfold pathV at hp ⊢
    obtain ⟨p0, hp0⟩ : ∃ p : Int, ((i / 4 / 4 / 4 % 4 : Nat) : Int) = p := ⟨_, rfl⟩
    obtain ⟨p1, hp1⟩ : ∃ p : Int, ((i / 4 / 4 % 4 : Nat) : Int) = p := ⟨_, rfl⟩
    obtain ⟨p2, hp2⟩ : ∃ p : Int, ((i / 4 % 4 : Nat) : Int) = p := ⟨_, rfl⟩
    obtain ⟨p3, hp3⟩ : ∃ p : Int, ((i % 4 : Nat) : Int) = p := ⟨_, rfl⟩
    rw [hp0, hp1, hp2, hp3] at hp HPA ⊢
    have d0 : i / 4 ^ h % 4 < 4 := Nat.mod_lt _ (by omega)
    generalize upd c (i % 4 ^ (h + 1)) (x, m) = c2 at HF HI ⊢
    generalize i / 4 ^ h % 4 = d at HF HPA d0
    have hz2 : ((h : Int) + 1 == 0) = false := beq_eq_false_iff_ne.2 (by omega)
    have hmk : ∀ w, (Instr.makeSlice 24 (.int .i64 4) (.int .i64 4)).run Try.prog w = .ok (.slice (some ⟨w.heap.size, 0, none⟩) 4 4) (w.alloc (.cells #[.slice none 0 0, .int .i64 0, .int .i64 0, .slice none 0 0, .int .i64 0, .int .i64 0, .slice none 0 0, .int .i64 0, .int .i64 0, .slice none 0 0, .int .i64 0, .int .i64 0] 26)) := fun _ => by kernel_rfl
    clear hn hv hm hp0 hp1 hp2 hp3 hk hS ih hb
    go_enter Try.func66, Try.ntmps66
    go_upto_region 3 with fail
    go_cut [4, 6, 7, 8, 9] (fun s4 s6 s7 s8 s9 wx => s4 = .pointer (some ⟨b, 0, none⟩) ∧ s6 = .pointer (some ⟨b + 1, 0, none⟩) ∧ s7 = .pointer (some ⟨b + 2, 0, none⟩) ∧ s8 = .pointer (some ⟨b + 3, 0, none⟩) ∧ s9 = .slice (some ⟨b + 4, 0, none⟩) 4 4 ∧ PS w b (.cells #[.slice A n cap, .int .i64 v, .int .i64 mm] 26 (0, 0)) (.cells #[.int .i64 p0, .int .i64 p1, .int .i64 p2, .int .i64 p3] 76 (0, 0)) (.cells #[.slice xa 0 xcap, .int .i64 x, .int .i64 m] 26 (0, 0)) (.cells #[.slice none 0 0, .int .i64 0, .int .i64 0] 26 (0, 0)) S (fun _ => .nil) wx)
    case first =>
      go_wp2
      go_meet
      case rel =>
        rw [HBe.out]
        exact ⟨rfl, rfl, rfl, rfl, rfl, bk_alloc (bk_alloc (bk_alloc (bk_alloc (heap_alloc_at _ _) _) _) _) _, bk_alloc (bk_alloc (bk_alloc (heap_at_new _ _ _ (by simp)) _) _) _, bk_alloc (bk_alloc (heap_at_new _ _ _ (by simp)) _) _, bk_alloc (heap_at_new _ _ _ (by simp)) _,
          KR.new (heap_at_new _ _ _ (by simp)), bl_alloc (bl_alloc (bl_alloc (bl_alloc (bl_alloc (Below.refl _ _) _) _) _) _) _⟩
    case rest =>
      clear hz2 hmk
      obtain ⟨rfl, rfl, rfl, rfl, rfl, hP⟩ := hcut
      have HP := Lib.hid hP
      clear hP
      go_wp2
      go_loopw [17] (fun s17 wx => ∃ k : Nat, k ≤ 4 ∧ s17 = .int .i64 k ∧ PS w b (.cells #[.slice A n cap, .int .i64 v, .int .i64 mm] 26 (0, 0)) (.cells #[.int .i64 p0, .int .i64 p1, .int .i64 p2, .int .i64 p3] 76 (0, 0)) (.cells #[.slice xa 0 xcap, .int .i64 x, .int .i64 m] 26 (0, 0)) (.cells #[.slice none 0 0, .int .i64 0, .int .i64 0] 26 (0, 0)) S (fun j => if j < k then cano h (sh c2 (j * 4 ^ h)) else .nil) wx) (fun s17 _ => 4 - (intOf s17).toNat)
      case atStart => exact ⟨0, by omega, rfl, HP.out.congr (fun i _ => by simp)⟩
      case round =>
        clear HP
        obtain ⟨k, hk4, rfl, hP⟩ := hrel
        have HP := Lib.hid hP
        clear hP
        by_cases hlt : k < 4
        · have k1 : (k : Int) < 4 := by omega
          have k0 : (0 : Int) ≤ (k : Int) := by omega
          go_upto_region 7 with fail
          go_cut [22] (fun s22 wx => s22 = .bool (!(cano (h + 1) c).emB) ∧ PS w b (.cells #[.slice A n cap, .int .i64 v, .int .i64 mm] 26 (0, 0)) (.cells #[.int .i64 p0, .int .i64 p1, .int .i64 p2, .int .i64 p3] 76 (0, 0)) (.cells #[.slice xa 0 xcap, .int .i64 x, .int .i64 m] 26 (0, 0)) (.cells #[.slice none 0 0, .int .i64 0, .int .i64 0] 26 (0, 0)) S (fun j => if j < k then cano h (sh c2 (j * 4 ^ h)) else .nil) wx)
          case first =>
            have x0 := cells_at HP.out.h0 0; have x1 := cells_at HP.out.h0 1; have x2 := cells_at HP.out.h0 2; simp only [List.getElem?_toArray, List.getElem?_cons_zero, List.getElem?_cons_succ] at x0 x1 x2
            go_wp2_with (go_at_call 59; (with_reducible refine Calls.mono (em _) ?_); rintro e w1 ⟨rfl, hb1⟩)
            go_meet
            case rel => exact ⟨rfl, HP.out.step hb1⟩
          case rest =>
            clear HP em
            obtain ⟨rfl, hP⟩ := hcut
            have HP := Lib.hid hP
            clear hP
            rw [HE.out]
            go_upto_if 22 with fail
            go_cut [] (fun wx => PS w b (.cells #[.slice A n cap, .int .i64 v, .int .i64 mm] 26 (0, 0)) (.cells #[.int .i64 p0, .int .i64 p1, .int .i64 p2, .int .i64 p3] 76 (0, 0)) (.cells #[.slice xa 0 xcap, .int .i64 x, .int .i64 m] 26 (0, 0)) (.cells #[.slice none 0 0, .int .i64 0, .int .i64 0] 26 (0, 0)) S (mid h c c2 k) wx)
            case first =>
              cases hn : noneB (4 ^ (h + 1)) c with
              | true =>
                have HN := Lib.hid (cano_none (none_succ.1 hn k hlt))
                clear hn
                go_wp2
                go_meet
                case rel => exact HP.out.congr (fun j _ => by
                  unfold mid
                  split
                  · rfl
                  · split
                    · next e => subst e; exact HN.out.symm
                    · rfl)
              | false =>
                have hkk := HKK.out hn
                have h4 : n = 4 := by rw [← Hn.out, hkk, kidsC_len]
                have hnk := HK0.out _ HP.out.below
                rw [hkk] at hnk
                obtain ⟨b', o, t, A', cap', rfl, _, hbl, hi', hNC, hkm, hkc, hkk2⟩ := hnk.at_ (i := k) (by rw [kidsC_len]; exact hlt)
                rw [kidsC_at hlt] at hi'
                injection hi' with hi'
                subst hi'
                obtain ⟨c0, c1, c2'⟩ := hNC
                have HKM := Lib.hid hkm
                have HKN := Lib.hid hkk2
                clear hnk hkk hn hkk2 hkm
                subst h4
                have x0 := cells_at HP.out.h0 0; have x1 := cells_at HP.out.h0 1; have x2 := cells_at HP.out.h0 2; simp only [List.getElem?_toArray, List.getElem?_cons_zero, List.getElem?_cons_succ] at x0 x1 x2
                go_wp2_with (refine wpList_store_mid rfl 26 (.tmp 30) (.tmp 29) rfl (b + 4) (k * 3) #[.slice A' (cano h (sh c (k * 4 ^ h))).kids.length cap', .int .i64 (cano h (sh c (k * 4 ^ h))).val, .int .i64 (cano h (sh c (k * 4 ^ h))).marks] rfl rfl (HP.out.kr.there hlt) node_size (node_one _ _ _ _ _) ?_)
                go_meet
                case rel =>
                  refine (HP.out.set (Nat.le_of_eq HBe.out.symm) hlt A' cap' (cano h (sh c (k * 4 ^ h))) HKM.out hkc HKN.out).congr fun j _ => ?_
                  unfold mid
                  by_cases e : j = k
                  · subst e; simp
                  · simp [e]
            case rest =>
              clear HP
              have hP := hcut
              have HP := Lib.hid hP
              have hpa := HPA.out _ _ hP.h1
              have hsz := hP.below.size
              have lP4 := hP.kr.2.1
              obtain ⟨A1, cap1, c0, c1, c2', hm1, hc1, hk1⟩ := hP.kr.at_ hlt
              rw [show mid h c c2 k k = cano h (sh c (k * 4 ^ h)) by unfold mid; simp] at c0 c1 c2' hm1 hc1 hk1
              have Hk1 := Lib.hid hk1
              have Hc1 := Lib.hid hc1
              have HFK := Lib.hid (HF.out k hlt)
              have q1 : IntKind.i64.wrap (4 - ((h : Int) + 1)) = ((4 - (h + 1) : Nat) : Int) := by rw [w64 (by omega)]; omega
              have q2 : ((4 - (h + 1) : Nat) : Int) < 4 := by omega
              have q3 : (0 : Int) ≤ ((4 - (h + 1) : Nat) : Int) := by omega
              have q4 := w64 (x := (h : Int)) (by omega)
              obtain ⟨W, hWe⟩ : ∃ W : World, W = wc := ⟨_, rfl⟩
              subst hWe
              clear hcut hP hk1 hc1 hm1
              generalize 4 - (h + 1) = jj at hpa q1 q2 q3
              by_cases e : k = d
              · subst e
                have HFK2 := Lib.hid (show cano h (sh c2 (k * 4 ^ h)) = cano h (upd (sh c (k * 4 ^ h)) (i % 4 ^ h) (x, m)) by rw [HFK.out, if_pos rfl])
                have hpp := fun x' (hb : Below W.heap.size W x') => hp (sh c (k * 4 ^ h)) A1 cap1 (fun z => S z ∧ z ≠ b + 3 ∧ z ≠ b + 4) x' Hc1.out (Hk1.out.step hb) (fun z hz => ⟨HSS.out z (by have := HBe.out; have := hb.size; omega), by have := hb.size; omega, by have := hb.size; omega⟩)
                rw [← HFK2.out] at hpp
                go_upto_region 10 with fail
                have x0 := cells_at HP.out.h2 0; have x1 := cells_at HP.out.h2 1; have x2 := cells_at HP.out.h2 2; simp only [List.getElem?_toArray, List.getElem?_cons_zero, List.getElem?_cons_succ] at x0 x1 x2
                have z0 := cells_at HP.out.h1 0
                have z1 := cells_at HP.out.h1 1
                have z2 := cells_at HP.out.h1 2
                have z3 := cells_at HP.out.h1 3
                have lP1 := bk_lt HP.out.h1
                have lP2 := bk_lt HP.out.h2
                simp only [List.getElem?_toArray, List.getElem?_cons_zero, List.getElem?_cons_succ] at z0 z1 z2 z3
                refine wp_region_sp 12 60 [SP.eq (.slice (some ⟨b + 4, 0, none⟩) 4 4), SP.eq (.int .i64 k), SP.eq (.slice (some ⟨b + 4, 0, none⟩) 4 4), SP.eq (.int .i64 k), SP.eq (.pointer (some ⟨b + 4, k * 3, none⟩)), SP.eq (ndV A1 (cano h (sh c (k * 4 ^ h))).kids.length cap1 (cano h (sh c (k * 4 ^ h))).val (cano h (sh c (k * 4 ^ h))).marks), SP.eq (.int .i64 ((h : Int) + 1)), SP.eq (.int .i64 (h : Int)), SP.eq (.agg #[.int .i64 p0, .int .i64 p1, .int .i64 p2, .int .i64 p3]), SP.eq (ndV xa 0 xcap x m), SP.nt (fun z => S z ∧ z ≠ b + 3 ∧ z ≠ b + 4) (cano h (sh c2 (k * 4 ^ h))), SP.eq (.pointer (some ⟨b + 4, k * 3, none⟩))] (by kernel_rfl) (by kernel_rfl) rfl ?_
                simp only [List.take_succ_cons, List.take_zero, List.drop_succ_cons, List.drop_zero]
                refine relWalk_cons (fun x hC hd K hK => ?_) (fun v0 => ?_)
                · go_simp
                  exact hK _ _ hC (Below.refl _ _) rfl
                simp only [Act.put, List.setIfInBounds_toArray, List.set_cons_zero, List.set_cons_succ]
                refine relWalk_cons (fun x hC hd K hK => ?_) (fun v1 => ?_)
                · go_simp
                  exact hK _ _ hC (Below.refl _ _) rfl
                simp only [Act.put, List.setIfInBounds_toArray, List.set_cons_zero, List.set_cons_succ]
                refine relWalk_cons (fun x hC hd K hK => ?_) (fun v2 => ?_)
                · go_simp
                  exact hK _ _ hC (Below.refl _ _) rfl
                simp only [Act.put, List.setIfInBounds_toArray, List.set_cons_zero, List.set_cons_succ]
                refine relWalk_cons (fun x hC hd K hK => ?_) (fun v3 => ?_)
                · go_simp
                  exact hK _ _ hC (Below.refl _ _) rfl
                simp only [Act.put, List.setIfInBounds_toArray, List.set_cons_zero, List.set_cons_succ]
                refine relWalk_cons (fun x hC hd K hK => ?_) (fun v4 => ?_)
                · obtain rfl : v2 = _ := hd 2 (by kernel_rfl)
                  obtain rfl : v3 = _ := hd 3 (by kernel_rfl)
                  go_simp
                  exact hK _ _ hC (Below.refl _ _) rfl
                simp only [Act.put, List.setIfInBounds_toArray, List.set_cons_zero, List.set_cons_succ]
                refine relWalk_cons (fun x' hC hd K hK => ?_) (fun v5 => ?_)
                · obtain rfl : v4 = _ := hd 4 (by kernel_rfl)
                  have y0 := (hC.cell (p := ⟨b + 4, _, none⟩) lP4).trans c0
                  have y1 := (hC.cell (p := ⟨b + 4, _, none⟩) lP4).trans c1
                  have y2 := (hC.cell (p := ⟨b + 4, _, none⟩) lP4).trans c2'
                  go_simp
                  exact hK _ _ hC (Below.refl _ _) rfl
                simp only [Act.put, List.setIfInBounds_toArray, List.set_cons_zero, List.set_cons_succ]
                refine relWalk_cons (fun x hC hd K hK => ?_) (fun v6 => ?_)
                · go_simp
                  exact hK _ _ hC (Below.refl _ _) rfl
                simp only [Act.put, List.setIfInBounds_toArray, List.set_cons_zero, List.set_cons_succ]
                refine relWalk_cons (fun x hC hd K hK => ?_) (fun v7 => ?_)
                · obtain rfl : v6 = _ := hd 6 (by kernel_rfl)
                  go_simp
                  exact hK _ _ hC (Below.refl _ _) rfl
                simp only [Act.put, List.setIfInBounds_toArray, List.set_cons_zero, List.set_cons_succ]
                refine relWalk_cons (fun x' hC hd K hK => ?_) (fun v8 => ?_)
                · have y0 := (hC.cell (p := ⟨b + 1, _, none⟩) lP1).trans z0
                  have y1 := (hC.cell (p := ⟨b + 1, _, none⟩) lP1).trans z1
                  have y2 := (hC.cell (p := ⟨b + 1, _, none⟩) lP1).trans z2
                  have y3 := (hC.cell (p := ⟨b + 1, _, none⟩) lP1).trans z3
                  go_simp
                  exact hK _ _ hC (Below.refl _ _) rfl
                simp only [Act.put, List.setIfInBounds_toArray, List.set_cons_zero, List.set_cons_succ]
                refine relWalk_cons (fun x' hC hd K hK => ?_) (fun v9 => ?_)
                · have y0 := (hC.cell (p := ⟨b + 2, _, none⟩) lP2).trans x0
                  have y1 := (hC.cell (p := ⟨b + 2, _, none⟩) lP2).trans x1
                  have y2 := (hC.cell (p := ⟨b + 2, _, none⟩) lP2).trans x2
                  go_simp
                  exact hK _ _ hC (Below.refl _ _) rfl
                simp only [Act.put, List.setIfInBounds_toArray, List.set_cons_zero, List.set_cons_succ]
                refine relWalk_cons (fun x' hC hd K hK => ?_) (fun v10 => ?_)
                · obtain rfl : v5 = _ := hd 5 (by kernel_rfl)
                  obtain rfl : v7 = _ := hd 7 (by kernel_rfl)
                  obtain rfl : v8 = _ := hd 8 (by kernel_rfl)
                  obtain rfl : v9 = _ := hd 9 (by kernel_rfl)
                  go_simp
                  go_at_call 66
                  refine (hpp x' hC).mono ?_
                  rintro e w1 ⟨A2, cap2, rfl, hc2, hk2, hb1⟩
                  exact hK _ _ (bl_step hC hb1) hb1 ⟨A2, cap2, rfl, hc2, hk2⟩
                simp only [Act.put, List.setIfInBounds_toArray, List.set_cons_zero, List.set_cons_succ]
                refine relWalk_cons (fun x hC hd K hK => ?_) (fun v11 => ?_)
                · obtain rfl : v0 = _ := hd 0 (by kernel_rfl)
                  obtain rfl : v1 = _ := hd 1 (by kernel_rfl)
                  go_simp
                  exact hK _ _ hC (Below.refl _ _) rfl
                simp only [Act.put, List.setIfInBounds_toArray, List.set_cons_zero, List.set_cons_succ]
                refine relWalk_nil ?_
                intro x' hC hG
                obtain ⟨A2, cap2, e4, hc2, hk2⟩ := hG 10 (by omega)
                obtain rfl : v10 = _ := e4
                obtain rfl : v11 = _ := hG 11 (by omega)
                have HP2 := Lib.hid (HP.out.step hC)
                have HK2 := Lib.hid hk2
                clear hG HP hk2 x0 x1 x2 z0 z1 z2 z3 c0 c1 c2' hpa hpp hC
                go_wp2_with (refine wpList_store_mid rfl 26 (.tmp 48) (.tmp 47) rfl (b + 4) (k * 3) #[.slice A2 (cano h (sh c2 (k * 4 ^ h))).kids.length cap2, .int .i64 (cano h (sh c2 (k * 4 ^ h))).val, .int .i64 (cano h (sh c2 (k * 4 ^ h))).marks] rfl rfl (HP2.out.kr.there hlt) node_size (node_one _ _ _ _ _) ?_)
                go_roundw
                case rel => exact ⟨k + 1, by omega, by go_num, (HP2.out.set (Nat.le_of_eq HBe.out.symm) hlt A2 cap2 _ (cano_ml _ _) hc2 HK2.out).congr (mid_next k)⟩
                case measure => simp [intOf]; omega
              · have e1 : ((k : Int) == (d : Int)) = false := beq_eq_false_iff_ne.2 (by omega)
                have e2 : (k == d) = false := beq_eq_false_iff_ne.2 e
                have e3 : decide (k = d) = false := decide_eq_false e
                have HFK2 := Lib.hid (show cano h (sh c2 (k * 4 ^ h)) = cano h (sh c (k * 4 ^ h)) by rw [HFK.out, if_neg e])
                have hcl := fun x' (hb : Below W.heap.size W x') => clone_w h (cano h (sh c (k * 4 ^ h))) (dep_cano _ _) A1 cap1 (fun z => S z ∧ z ≠ b + 3 ∧ z ≠ b + 4) x' Hc1.out ((Hk1.out.step hb).weak fun _ _ _ => trivial) (fun z hz => ⟨HSS.out z (by have := HBe.out; have := hb.size; omega), by have := hb.size; omega, by have := hb.size; omega⟩)
                clear e
                go_wp2_with (first
                  | (go_at_call 67; (with_reducible refine Calls.mono (hcl _ (Below.refl _ _)) ?_); rintro e w1 ⟨A2, cap2, rfl, hc2, hk2, hb1⟩; have HP2 := Lib.hid (HP.out.step hb1); have HK2 := Lib.hid hk2; clear hk2)
                  | (refine wpList_store_mid rfl 26 (.tmp 56) (.tmp 55) rfl (b + 4) (k * 3) #[.slice A2 (cano h (sh c (k * 4 ^ h))).kids.length cap2, .int .i64 (cano h (sh c (k * 4 ^ h))).val, .int .i64 (cano h (sh c (k * 4 ^ h))).marks] rfl rfl (HP2.out.kr.there hlt) node_size (node_one _ _ _ _ _) ?_))
                go_roundw
                case rel => exact ⟨k + 1, by omega, by go_num, ((HP2.out.set (Nat.le_of_eq HBe.out.symm) hlt A2 cap2 _ (cano_ml _ _) hc2 HK2.out).congr (by rw [← HFK2.out]; exact mid_next k))⟩
                case measure => simp [intOf]; omega
        · obtain rfl : k = 4 := by omega
          have hP := HP.out
          have hnk := (hP.kr.congr (f' := fun j => cano h (sh c2 (j * 4 ^ h))) fun j hj => by simp [hj]).nk (S' := fun z => S z ∧ z ≠ b + 3) ⟨HSS.out _ (by have := HBe.out; omega), by omega⟩ (fun z hz => ⟨hz.1, hz.2.1⟩)
          rw [kids_range] at hnk
          have HNK := Lib.hid hnk
          have hin := fun w' (hb : NK w' (fun z => S z ∧ z ≠ b + 3) (some ⟨b + 4, 0, none⟩) (kidsC h c2)) => interior_w (kidsC h c2) (some ⟨b + 4, 0, none⟩) 4 _ w' (kidsC_len _ _) (by omega) hb
          clear hP hnk
          rcases HI.out (some ⟨b + 4, 0, none⟩) 4 with ⟨g0, g1, g2⟩ | ⟨g0, g1, g2⟩
          · rw [g1] at hin
            have HG2 := Lib.hid g2
            clear g0 g1 g2
            go_wp2_with (first
              | (go_at_call 65; (with_reducible refine Calls.mono (hin _ HNK.out) ?_); rintro e w1 ⟨rfl, hb1⟩; have HP2 := Lib.hid (HP.out.step hb1))
              | (refine wpList_store_rowTo rfl 26 (.tmp 8) (.tmp 59) rfl rfl (b + 3) #[.slice none 0 0, .int .i64 0, .int .i64 0] rfl rfl 26 _ (HP2.out.h3) node_size rfl (node_one _ _ _ _ _) ?_))
            show bodyPost Try.prog Try.f66 _ _ _ _
            refine bodyPost_ret (node_res rfl _ _ (b + 3) _ _ _ _ _ rfl (setRow_heap _ _ _ _ _ _ HP2.out.h3)) rfl ?_
            rw [HG2.out]
            exact ⟨none, 0, rfl, Nat.zero_le _, .nil _, bl_setRow HP2.out.below (by rw [HBe.out]; omega) _⟩
          · rw [g1] at hin
            have HG2 := Lib.hid g2
            clear g0 g1 g2
            go_wp2_with (first
              | (go_at_call 65; (with_reducible refine Calls.mono (hin _ HNK.out) ?_); rintro e w1 ⟨rfl, hb1⟩; have HP2 := Lib.hid (HP.out.step hb1); have HNK2 := Lib.hid (HNK.out.step hb1))
              | (refine wpList_store_rowTo rfl 26 (.tmp 8) (.tmp 59) rfl rfl (b + 3) #[.slice (some ⟨b + 4, 0, none⟩) 4 4, .int .i64 0, .int .i64 (orK (kidsC h c2))] rfl rfl 26 _ (HP2.out.h3) node_size rfl (node_one _ _ _ _ _) ?_))
            show bodyPost Try.prog Try.f66 _ _ _ _
            refine bodyPost_ret (node_res rfl _ _ (b + 3) _ _ _ _ _ rfl (setRow_heap _ _ _ _ _ _ HP2.out.h3)) rfl ?_
            rw [HG2.out]
            exact ⟨some ⟨b + 4, 0, none⟩, 4, by rw [show (T.mk (kidsC h c2) 0 (orK (kidsC h c2))).kids.length = 4 from kidsC_len _ _]; rfl, by rw [show (T.mk (kidsC h c2) 0 (orK (kidsC h c2))).kids.length = 4 from kidsC_len _ _]; omega, (HNK2.out.kept (by simp [World.setRow]) (fun z hz hlt => setRow_other _ _ _ _ hz.2)).weak fun z _ hz => hz.1, bl_setRow HP2.out.below (by rw [HBe.out]; omega) _⟩

end Go.Proofs.Ytpoagdffpajdjaa
