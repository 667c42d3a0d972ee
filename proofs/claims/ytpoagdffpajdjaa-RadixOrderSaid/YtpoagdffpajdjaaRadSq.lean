/-
  SpoilNode at any depth; the law's drawn: some tree comes back.
-/
import Derived.Test.YtpoagdffpajdjaaRadSp
namespace Go.Proofs.Ytpoagdffpajdjaa
open Go.RowKit
set_option linter.unusedVariables false
set_option linter.unusedSimpArgs false

/-- No node has just one kid. -/
def dpn : Nat → T → Prop
  | 0, t => t.kids = []
  | h + 1, t => t.kids.length ≤ 1000 ∧ t.kids.length ≠ 1 ∧ ∀ (i : Nat) (k : T), t.kids[i]? = some k → dpn h k
theorem dpn_cano : ∀ (h : Nat) (c : Cn), dpn h (cano h c)
  | 0, c => rfl
  | h + 1, c => by
    refine ⟨Nat.le_trans (cano_kl _ _) (by omega), ?_, fun i k hi => ?_⟩
    · rw [cano_succ]
      split
      · simp [T.nil, T.kids]
      · simp [T.kids, kidsC_len]
    rw [cano_succ] at hi
    split at hi
    · simp [T.nil, T.kids] at hi
    · have hl : i < 4 := by
        have := (List.getElem?_eq_some_iff.1 hi).1
        simpa [T.kids, kidsC_len] using this
      rw [show (T.mk (kidsC h c) 0 (orK (kidsC h c))).kids = kidsC h c from rfl, kidsC_at hl] at hi
      injection hi with hi
      subst hi
      exact dpn_cano h _
theorem spoil_w : ∀ (h : Nat) (t : T), dpn h t → ∀ (A : Option Addr) (cap : Nat) (at_ by_ : Int) (S : Nat → Prop) (w : World), t.kids.length ≤ cap → NK w S A t.kids → (∀ b, w.heap.size ≤ b → S b) →
    Calls Try.prog 39 #[ndV A t.kids.length cap t.val t.marks, .int .i64 at_, .int .i64 by_] w (RetAny S w)
  | 0, .mk ks v m, hd, A, cap, at_, by_, S, w, hcap, hk, hS => by
    have e : ks = [] := hd
    exact spoil_step ks A cap v m S at_ by_ w (by rw [e]; simp) hcap hk hS (by rw [e]; simp) (fun i k hi => by rw [e] at hi; simp at hi)
  | h + 1, .mk ks v m, hd, A, cap, at_, by_, S, w, hcap, hk, hS => spoil_step ks A cap v m S at_ by_ w hd.1 hcap hk hS hd.2.1 (fun i k hi w' hb A' cap' a' b' S' hk' hc' hS' => spoil_w h k (hd.2.2 i k hi) A' cap' a' b' S' w' hc' hk' hS')
/-- Some tree comes back, in memory of the call's own. -/
def RetD (W : World) (e : Ending) (w' : World) : Prop := ∃ (hI : Int) (t : T) (A : Option Addr) (cap : Nat), e = .returned (trV hI A t.kids.length cap t.val t.marks) ∧ -1 ≤ hI ∧ hI ≤ 9 ∧ t.kids.length ≤ 1001 ∧ t.kids.length ≤ cap ∧ NK w' (fun z => W.heap.size ≤ z) A t.kids ∧ Below W.heap.size W w'
structure DS (W : World) (b Z : Nat) (x0 x1 x2 : Int) (hI : Int) (t : T) (A : Option Addr) (cap : Nat) (w : World) : Prop where
  z : w.heap[Z]? = some (.cells #[.int .i64 hI, .slice A t.kids.length cap, .int .i64 t.val, .int .i64 t.marks] 28 (0, 0))
  h1 : -1 ≤ hI
  h2 : hI ≤ 9
  hl : t.kids.length ≤ 1001
  hc : t.kids.length ≤ cap
  nk : NK w (fun z => b ≤ z ∧ z ≠ b + 1 ∧ z ≠ Z) A t.kids
  r : w.heap[b + 1]? = some (.cells #[.int .i64 0, .slice none 0 0, .int .i64 0, .int .i64 0] 28 (0, 0))
  n : w.heap[b]? = some (.cells #[.int .i64 x0, .int .i64 x1, .int .i64 x2] 23 (0, 0))
  lt : b + 1 < Z
  below : Below W.heap.size W w
theorem row_step {k : IntKind} {w w' : World} {a : Option Addr} {len cap : Nat} {zs : List Int} (h : IsRow k w a len cap zs) (hb : Below w.heap.size w w') : IsRow k w' a len cap zs := by
  rcases h with h | ⟨x, e, h1, h2, h3, h4, h5⟩
  · exact .inl h
  · exact .inr ⟨x, e, h1, h2, h3, fun i hi => (hb.cell (World.block_lt_of_cell? w _ (h4 i hi))).trans (h4 i hi), h5⟩
theorem tape2 {w : World} {a : Option Addr} {len cap0 : Nat} {zs : List Int} (n0 n1 n2 : Int) (hrow : IsRow .i64 w a len cap0 zs) : Tp ((w.alloc (.cells #[.int .i64 n0, .int .i64 n1, .int .i64 n2] 23)).alloc (.cells #[.int .i64 0, .slice none 0 0, .int .i64 0, .int .i64 0] 28)) (w.heap.size + 2) (((w.alloc (.cells #[.int .i64 n0, .int .i64 n1, .int .i64 n2] 23)).alloc (.cells #[.int .i64 0, .slice none 0 0, .int .i64 0, .int .i64 0] 28)).alloc (.cells #[.slice a len cap0, .int .i64 0] 32)) := by
  have hb : Below w.heap.size w ((w.alloc (.cells #[.int .i64 n0, .int .i64 n1, .int .i64 n2] 23)).alloc (.cells #[.int .i64 0, .slice none 0 0, .int .i64 0, .int .i64 0] 28)) := bl_alloc (bl_alloc (Below.refl _ _) _) _
  have := tape_of_row (row_step hrow hb)
  rw [show ((w.alloc (.cells #[.int .i64 n0, .int .i64 n1, .int .i64 n2] 23)).alloc (.cells #[.int .i64 0, .slice none 0 0, .int .i64 0, .int .i64 0] 28)).heap.size = w.heap.size + 2 by simp] at this
  exact ⟨this, (Below.refl _ _).alloc (Nat.le_refl _) _, by simp⟩
theorem DS.step {W w w' : World} {b Z : Nat} {x0 x1 x2 hI : Int} {t : T} {A : Option Addr} {cap : Nat} (h : DS W b Z x0 x1 x2 hI t A cap w) (hb : Below w.heap.size w w') : DS W b Z x0 x1 x2 hI t A cap w' := ⟨bk_step h.z hb, h.h1, h.h2, h.hl, h.hc, h.nk.step hb, bk_step h.r hb, bk_step h.n hb, h.lt, bl_step h.below hb⟩
theorem DS.setH {W w : World} {b Z : Nat} {x0 x1 x2 hI : Int} {t : T} {A : Option Addr} {cap : Nat} (h : DS W b Z x0 x1 x2 hI t A cap w) (hW : W.heap.size = b) (v : Int) (h1 : -1 ≤ v) (h2 : v ≤ 9) : DS W b Z x0 x1 x2 v t A cap (w.setCell ⟨Z, 0, none⟩ (.int .i64 v)) :=
  have := h.lt
  ⟨by have := set_same (i := 0) h.z (.int .i64 v); simpa using this, h1, h2, h.hl, h.hc, h.nk.kept (by simp [World.setCell]) (fun z hz _ => Below.heap_setCell _ _ _ z hz.2.2), set_bk h.r _ _ (by simp only; omega), set_bk h.n _ _ (by simp only; omega), h.lt, h.below.setCell (by simp only; omega) _⟩
theorem DS.ret {W w : World} {b Z : Nat} {x0 x1 x2 hI : Int} {t : T} {A : Option Addr} {cap : Nat} (h : DS W b Z x0 x1 x2 hI t A cap w) (hW : W.heap.size = b) : RetD W (.returned (trV hI A t.kids.length cap t.val t.marks)) (w.setRow (b + 1) #[.int .i64 hI, .slice A t.kids.length cap, .int .i64 t.val, .int .i64 t.marks]) :=
  ⟨hI, t, A, cap, rfl, h.h1, h.h2, h.hl, h.hc, (h.nk.kept (by simp [World.setRow]) (fun z hz _ => setRow_other _ _ _ _ hz.2.1)).weak fun z _ hz => by omega, bl_setRow h.below (by omega) _⟩
set_option maxRecDepth 100000 in
set_option maxHeartbeats 4000000 in
theorem drawn_w (a : Option Addr) (len cap0 : Nat) (zs : List Int) (n0 n1 n2 : Int) (w : World) (hrow : IsRow .i64 w a len cap0 zs) : Calls Try.prog 10 #[.slice a len cap0, .agg #[.int .i64 n0, .int .i64 n1, .int .i64 n2]] w (RetD w) := by
  have HT := Lib.hid (tape2 n0 n1 n2 hrow)
  obtain ⟨V, hV⟩ : ∃ V, (w.alloc (.cells #[.int .i64 n0, .int .i64 n1, .int .i64 n2] 23)).alloc (.cells #[.int .i64 0, .slice none 0 0, .int .i64 0, .int .i64 0] 28) = V := ⟨_, rfl⟩
  have HV := Lib.hid (show Below w.heap.size w V by rw [← hV]; exact bl_alloc (bl_alloc (Below.refl _ _) _) _)
  have lV : V.heap.size = w.heap.size + 2 := by rw [← hV]; simp
  have HN := Lib.hid (show V.heap[w.heap.size]? = some (.cells #[.int .i64 n0, .int .i64 n1, .int .i64 n2] 23 (0, 0)) by rw [← hV]; exact bk_alloc (heap_alloc_at w _) _)
  have HR := Lib.hid (show V.heap[w.heap.size + 1]? = some (.cells #[.int .i64 0, .slice none 0 0, .int .i64 0, .int .i64 0] 28 (0, 0)) by rw [← hV]; exact heap_at_new (w.alloc (.cells #[.int .i64 n0, .int .i64 n1, .int .i64 n2] 23)) (.cells #[.int .i64 0, .slice none 0 0, .int .i64 0, .int .i64 0] 28) (w.heap.size + 1) (by simp))
  rw [hV] at HT
  clear hrow
  go_enter Try.func10, Try.ntmps10
  go_upto_region 1 with fail
  go_cut [3, 4, 5] (fun s3 s4 s5 wx => ∃ (Z h : Nat) (c : Cn) (A : Option Addr) (cap : Nat), s3 = .pointer (some ⟨w.heap.size, 0, none⟩) ∧ s4 = .pointer (some ⟨w.heap.size + 1, 0, none⟩) ∧ s5 = .pointer (some ⟨Z, 0, none⟩) ∧ h ≤ 4 ∧ DS w w.heap.size Z n0 n1 n2 h (cano h c) A cap wx)
  case first =>
    have lW : (V.alloc (.cells #[.slice a len cap0, .int .i64 0] 32)).heap.size = w.heap.size + 3 := by simp; omega
    go_wp2_with (first
      | (go_at_call 27; go_must (refine (tree_t V _ _ HT.out).mono ?_); rintro e w1 ⟨h, c, A, cap, rfl, hlf, hok, hcap, hk, hT1⟩)
      | (refine wpList_store_rowTo rfl 28 (.tmp 5) (.tmp 9) rfl rfl (w1.heap.size) #[.int .i64 (h : Int), .slice A (cano h c).kids.length cap, .int .i64 (cano h c).val, .int .i64 (cano h c).marks] rfl rfl 28 _ (heap_alloc_new _ _) tree_size rfl (tree_one _ _ _ _ _ _) ?_))
    go_meet
    case rel =>
      have hb1 := hT1.2.1
      have hl1 := hT1.lt
      refine ⟨w1.heap.size, h, c, A, cap, rfl, rfl, rfl, hok.1, setRow_heap _ _ _ _ _ _ (heap_alloc_new _ _), by omega, by have := hok.1; omega, Nat.le_trans (cano_kl _ _) (by omega), hcap, (((hk.weak (S' := fun z => w.heap.size + 3 ≤ z ∧ z ≠ w1.heap.size) fun z hz h => ⟨by omega, by omega⟩).alloc _).kept (by simp [World.setRow]) (fun z hz _ => setRow_other _ _ _ _ hz.2)).weak fun z _ hz => (by omega), (setRow_other _ _ _ _ (by omega)).trans (bk_alloc (bk_step HR.out hb1) _), (setRow_other _ _ _ _ (by omega)).trans (bk_alloc (bk_step HN.out hb1) _), by omega, bl_setRow (bl_alloc (bl_step HV.out hb1) _) (by omega) _⟩
  case rest =>
    obtain ⟨Z, h, c, A, cap, rfl, rfl, rfl, hh4, hD⟩ := hcut
    have HD := Lib.hid hD
    clear hD HT HN HR
    have h6 := fun w => cut_w n0 6 w (by omega) (by omega)
    have ⟨q0, q1⟩ := cutI_range n0 6 (by omega)
    generalize cutI n0 6 = q at h6 q0 q1
    have x0 := cells_at HD.out.n 0
    have x1 := cells_at HD.out.n 1
    have x2 := cells_at HD.out.n 2
    simp only [List.getElem?_toArray, List.getElem?_cons_zero, List.getElem?_cons_succ] at x0 x1 x2
    go_upto_block 0 with (go_at_call 28; (with_reducible refine Calls.mono (h6 _) ?_); rintro e w1 ⟨rfl, rfl⟩)
    go_cut [] (fun wx => ∃ (hI : Int) (t : T) (A : Option Addr) (cap : Nat), DS w w.heap.size Z n0 n1 n2 hI t A cap wx)
    case first =>
      by_cases hq0 : q = 0
      · subst hq0
        have y0 := cells_at HD.out.z 0
        have y1 := cells_at HD.out.z 1
        have y2 := cells_at HD.out.z 2
        have y3 := cells_at HD.out.z 3
        simp only [List.getElem?_toArray, List.getElem?_cons_zero, List.getElem?_cons_succ] at y0 y1 y2 y3
        have hsp := spoil_w h (cano h c) (dpn_cano h c) A cap n1 n2 (fun z => w.heap.size ≤ z ∧ z ≠ w.heap.size + 1 ∧ z ≠ Z) wc HD.out.hc HD.out.nk (fun z hz => by have := HD.out.lt; have := bk_lt HD.out.z; omega)
        have lZ := bk_lt HD.out.z
        have lt := HD.out.lt
        go_wp2_with (first
          | (go_at_call 39; go_must (refine hsp.mono ?_); rintro e w1 ⟨t, A', cap', rfl, hl', hc', hk', hb1⟩; have hth := there3 (bk_step HD.out.z hb1))
          | (refine wpList_store_mid rfl 26 (.tmp 22) (.tmp 21) rfl Z (1) #[.slice A' t.kids.length cap', .int .i64 t.val, .int .i64 t.marks] rfl rfl (hth) node_size (node_one _ _ _ _ _) ?_))
        go_meet
        case rel =>
          have hne : ∀ (k : Nat), k ≠ Z → ∀ vs, (w1.setCells Z 1 vs).heap[k]? = w1.heap[k]? := fun k hk vs => heap_setCells Z vs 1 w1 k hk
          exact ⟨_, t, A', cap', set3 (bk_step HD.out.z hb1), HD.out.h1, HD.out.h2, hl', hc', hk'.kept (Nat.le_of_eq (setCells_same Z _ _ w1).2.2.2.symm) (fun z hz _ => hne z hz.2.2 _), (hne _ (by omega) _).trans (bk_step HD.out.r hb1), (hne _ (by omega) _).trans (bk_step HD.out.n hb1), lt, bl_setCells (bl_step HD.out.below hb1) (by omega) _ _⟩
      · by_cases hq1 : q = 1
        · subst hq1
          have y0 := cells_at HD.out.z 0
          simp only [List.getElem?_toArray, List.getElem?_cons_zero] at y0
          have h4 := fun w => cut_w n1 4 w (by omega) (by omega)
          have ⟨r0, r1⟩ := cutI_range n1 4 (by omega)
          generalize cutI n1 4 = r at h4 r0 r1
          have f0 := free_at HD.out.z 0
          have hh : (h : Int) ≤ 4 := by omega
          have e1 : wrap64 (r - 1) = r - 1 := IntWalk.wrap64_in _ (by omega)
          have e2 : wrap64 ((h : Int) + (r - 1)) = (h : Int) + (r - 1) := IntWalk.wrap64_in _ (by omega)
          have e3 : IntKind.i64.wrap (r - 1) = r - 1 := w64 (by omega)
          have e4 : IntKind.i64.wrap ((h : Int) + (r - 1)) = (h : Int) + (r - 1) := w64 (by omega)
          have lZ := bk_lt HD.out.z
          have lN := bk_lt HD.out.n
          go_upto_region 6 with fail
          refine wp_region_sp 8 34 [SP.eq (.pointer (some ⟨Z, 0, none⟩)), SP.eq (.int .i64 h), SP.eq (.pointer (some ⟨w.heap.size, 1, none⟩)), SP.eq (.int .i64 n1), SP.eq (.int .i64 r), SP.eq (.int .i64 (r - 1)), SP.eq (.int .i64 ((h : Int) + (r - 1))), SP.eq (.pointer (some ⟨Z, 0, none⟩))] (by kernel_rfl) (by kernel_rfl) rfl ?_
          simp only [List.take_succ_cons, List.take_zero, List.drop_succ_cons, List.drop_zero]
          refine relWalk_cons (fun x hC hd K hK => ?_) (fun v0 => ?_)
          · go_simp
            exact hK _ _ hC (Below.refl _ _) rfl
          simp only [Act.put, List.setIfInBounds_toArray, List.set_cons_zero, List.set_cons_succ]
          refine relWalk_cons (fun x hC hd K hK => ?_) (fun v1 => ?_)
          · obtain rfl : v0 = _ := hd 0 (by kernel_rfl)
            have hcell := (hC.cell (p := ⟨Z, _, none⟩) lZ).trans y0
            go_simp
            exact hK _ _ hC (Below.refl _ _) rfl
          simp only [Act.put, List.setIfInBounds_toArray, List.set_cons_zero, List.set_cons_succ]
          refine relWalk_cons (fun x hC hd K hK => ?_) (fun v2 => ?_)
          · go_simp
            exact hK _ _ hC (Below.refl _ _) rfl
          simp only [Act.put, List.setIfInBounds_toArray, List.set_cons_zero, List.set_cons_succ]
          refine relWalk_cons (fun x hC hd K hK => ?_) (fun v3 => ?_)
          · obtain rfl : v2 = _ := hd 2 (by kernel_rfl)
            have hcell := (hC.cell (p := ⟨w.heap.size, _, none⟩) lN).trans x1
            go_simp
            exact hK _ _ hC (Below.refl _ _) rfl
          simp only [Act.put, List.setIfInBounds_toArray, List.set_cons_zero, List.set_cons_succ]
          refine relWalk_cons (fun x hC hd K hK => ?_) (fun v4 => ?_)
          · obtain rfl : v3 = _ := hd 3 (by kernel_rfl)
            go_simp
            go_at_call 28
            refine (h4 x).mono ?_
            rintro e w1 ⟨rfl, rfl⟩
            exact hK _ _ hC (Below.refl _ _) rfl
          simp only [Act.put, List.setIfInBounds_toArray, List.set_cons_zero, List.set_cons_succ]
          refine relWalk_cons (fun x hC hd K hK => ?_) (fun v5 => ?_)
          · obtain rfl : v4 = _ := hd 4 (by kernel_rfl)
            go_simp
            exact hK _ _ hC (Below.refl _ _) rfl
          simp only [Act.put, List.setIfInBounds_toArray, List.set_cons_zero, List.set_cons_succ]
          refine relWalk_cons (fun x hC hd K hK => ?_) (fun v6 => ?_)
          · obtain rfl : v1 = _ := hd 1 (by kernel_rfl)
            obtain rfl : v5 = _ := hd 5 (by kernel_rfl)
            go_simp
            exact hK _ _ hC (Below.refl _ _) rfl
          simp only [Act.put, List.setIfInBounds_toArray, List.set_cons_zero, List.set_cons_succ]
          refine relWalk_cons (fun x hC hd K hK => ?_) (fun v7 => ?_)
          · go_simp
            exact hK _ _ hC (Below.refl _ _) rfl
          simp only [Act.put, List.setIfInBounds_toArray, List.set_cons_zero, List.set_cons_succ]
          refine relWalk_nil ?_
          intro x hC hG
          obtain rfl : v6 = _ := hG 6 (by omega)
          obtain rfl : v7 = _ := hG 7 (by omega)
          have hDx : DS w w.heap.size Z n0 n1 n2 h (cano h c) A cap x := HD.out.step hC
          have HDX := Lib.hid hDx
          clear hDx y0 f0 x0 x1 x2
          have y0 := cells_at HDX.out.z 0
          simp only [List.getElem?_toArray, List.getElem?_cons_zero] at y0
          have f0 := free_at HDX.out.z 0
          go_wp2
          go_meet
          case rel => exact ⟨_, _, _, _, HDX.out.setH rfl _ (by omega) (by omega)⟩
        · have hb0 : decide (q = 0) = false := by simp [hq0]
          have hb1 : decide (q = 1) = false := by simp [hq1]
          go_wp2
          go_meet
          case rel => exact ⟨_, _, _, _, HD.out⟩
    case rest =>
      obtain ⟨hI, t, A, cap, hD⟩ := hcut
      have HD := Lib.hid hD
      clear hD x0 x1 x2
      have x0 := cells_at HD.out.z 0
      have x1 := cells_at HD.out.z 1
      have x2 := cells_at HD.out.z 2
      have x3 := cells_at HD.out.z 3
      simp only [List.getElem?_toArray, List.getElem?_cons_zero, List.getElem?_cons_succ] at x0 x1 x2 x3
      go_wp2_with (refine wpList_store_rowTo rfl 28 (.tmp 4) (.tmp 33) rfl rfl (w.heap.size + 1) #[.int .i64 hI, .slice A t.kids.length cap, .int .i64 t.val, .int .i64 t.marks] rfl rfl 28 _ (HD.out.r) tree_size rfl (tree_one _ _ _ _ _ _) ?_)
      show bodyPost Try.prog Try.f10 _ _ _ _
      exact bodyPost_ret (tree_res rfl _ _ (w.heap.size + 1) _ _ _ _ _ _ rfl (setRow_heap _ _ _ _ _ _ HD.out.r)) rfl (HD.out.ret rfl)
end Go.Proofs.Ytpoagdffpajdjaa
