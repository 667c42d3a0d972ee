/-
  clone and put, by contracts.
-/
import Derived.Test.YtpoagdffpajdjaaRadM
import Derived.Outline
namespace Go.Proofs.Ytpoagdffpajdjaa
open Go.RowKit
set_option linter.unusedVariables false
set_option linter.unusedSimpArgs false

set_option maxRecDepth 100000 in
set_option maxHeartbeats 4000000 in
theorem clone_step (ks : List T) (A : Option Addr) (cap : Nat) (v m : Int) (S : Nat → Prop) (w : World) (hn : ks.length ≤ 1000) (hcap : ks.length ≤ cap) (hk : NK w Any A ks) (hS : ∀ b, w.heap.size ≤ b → S b)
    (hkid : ∀ (i : Nat) (k : T), ks[i]? = some k → ∀ w', Below w.heap.size w w' → ∀ A' cap' S', NK w' Any A' k.kids → k.kids.length ≤ cap' → (∀ b, w'.heap.size ≤ b → S' b) → Calls Try.prog 67 #[ndV A' k.kids.length cap' k.val k.marks] w' (RetT k S' w')) :
    Calls Try.prog 67 #[ndV A ks.length cap v m] w (RetT (.mk ks v m) S w) := by
  have HK := Lib.hid (fun w' (hb : Below w.heap.size w w') => hk.step hb)
  have HKID := Lib.hid hkid
  have HSS := Lib.hid hS
  clear hk hkid hS
  obtain ⟨b, hb⟩ : ∃ b, b = w.heap.size := ⟨_, rfl⟩
  have HBe := Lib.hid hb
  obtain ⟨i0, hi0, hz0, hz1, hz2⟩ := info_parts node_info
  go_enter Try.func67, Try.ntmps67
  go_upto_region 2 with fail
  go_cut [1, 2, 3] (fun s1 s2 s3 wx => s1 = .pointer (some ⟨b, 0, none⟩) ∧ s2 = .pointer (some ⟨b + 1, 0, none⟩) ∧ s3 = .slice A ks.length cap ∧ wx.heap[b]? = some (.cells #[.slice none 0 0, .int .i64 v, .int .i64 m] 26 (0, 0)) ∧ wx.heap[b + 1]? = some (.cells #[.slice none 0 0, .int .i64 0, .int .i64 0] 26 (0, 0)) ∧ Below w.heap.size w wx)
  case first =>
    go_wp2
    go_meet
    case rel =>
      rw [HBe.out]
      exact ⟨rfl, rfl, rfl, bk_alloc (heap_alloc_at _ _) _, heap_at_new _ _ _ (by simp), bl_alloc (bl_alloc (Below.refl _ _) _) _⟩
  case rest =>
    clear hb
    obtain ⟨rfl, rfl, rfl, hX, hR, hW⟩ := hcut
    have HX := Lib.hid hX
    have HR := Lib.hid hR
    have HW := Lib.hid hW
    clear hX hR hW
    go_wp2
    go_loopw [11] (fun s11 wx => ∃ (i : Nat) (u : Value) (xs : List Value), i ≤ ks.length ∧ s11 = .int .i64 i ∧ wx.heap[b]? = some (.cells #[u, .int .i64 v, .int .i64 m] 26 (0, 0)) ∧ wx.heap[b + 1]? = some (.cells #[.slice none 0 0, .int .i64 0, .int .i64 0] 26 (0, 0)) ∧ NO wx (b + 2) (fun z => S z ∧ (z ≠ b ∧ z ≠ b + 1)) u (ks.take i) xs ∧ Below w.heap.size w wx) (fun s11 _ => ks.length - (intOf s11).toNat)
    case atStart => exact ⟨0, _, [], by omega, rfl, HX.out, HR.out, NO.nil _ _ _, HW.out⟩
    case round =>
      clear HX HR HW
      obtain ⟨i, u, xs, hi, rfl, hX, hR, hN, hW⟩ := hrel
      have HX := Lib.hid hX
      have HR := Lib.hid hR
      have HN := Lib.hid hN
      have HW := Lib.hid hW
      have lb := bk_lt hX
      have lb1 := bk_lt hR
      have hown := hN.1
      rw [List.length_take, Nat.min_eq_left hi] at hown
      have Hown := Lib.hid hown
      clear hX hR hN hW hown
      by_cases hlt : i < ks.length
      · have hNK := HK.out _ HW.out
        obtain ⟨b', o, k, A', cap', rfl, _, hbl, hik, hNC, hkm, hkc, hkk⟩ := hNK.at_ hlt
        obtain ⟨c0, c1, c2⟩ := hNC
        have hcl := fun w' (hb : Below wr.heap.size wr w') => HKID.out i k hik w' (bl_step HW.out hb) A' cap' (fun z => (S z ∧ (z ≠ b ∧ z ≠ b + 1)) ∧ u.ownBlock ≠ some z) (hkk.step hb) hkc (fun z hz => ⟨⟨HSS.out z (by have := HW.out.size; have := hb.size; omega), by have := hb.size; omega, by have := hb.size; omega⟩, fun e => by have := (Hown.out.lt z e).2; have := hb.size; omega⟩)
        have Hik := Lib.hid hik
        have i0' : (0 : Int) ≤ (i : Int) := by omega
        have i1' : (i : Int) < (ks.length : Int) := by omega
        have Hkm := Lib.hid hkm
        clear hNK hik hkk hkm
        go_upto_region 6 with fail
        have hB2 := Lib.hid ((Below.refl wr.heap.size wr).alloc (Nat.le_refl _) (.cells #[.slice A' k.kids.length cap', .int .i64 k.val, .int .i64 k.marks] 26))
        have hz := heap_alloc_at wr (.cells #[.slice A' k.kids.length cap', .int .i64 k.val, .int .i64 k.marks] 26)
        generalize wr.alloc _ = W at hB2 hz ⊢
        have HX2 := Lib.hid (bk_step HX.out hB2.out)
        have HR2 := Lib.hid (bk_step HR.out hB2.out)
        have HN2 := Lib.hid (HN.out.step hB2.out)
        have HW2 := Lib.hid (bl_step HW.out hB2.out)
        have lB2 := hB2.out.size
        have lbW : b < W.heap.size := by omega
        have lz := bk_lt hz
        have y0 := cells_at hz 0
        have y1 := cells_at hz 1
        have y2 := cells_at hz 2
        have x0 := cells_at HX2.out 0
        simp only [List.getElem?_toArray, List.getElem?_cons_zero, List.getElem?_cons_succ] at x0 y0 y1 y2
        clear HX HR HN HW hz
        refine wp_region_sp 5 24 [SP.eq (.pointer (some ⟨b, 0, none⟩)), SP.eq u, SP.eq (ndV A' k.kids.length cap' k.val k.marks), SP.nt (fun z => (S z ∧ (z ≠ b ∧ z ≠ b + 1)) ∧ u.ownBlock ≠ some z) k, SP.nb (fun z => (S z ∧ (z ≠ b ∧ z ≠ b + 1)) ∧ u.ownBlock ≠ some z) k] (by kernel_rfl) (by kernel_rfl) rfl ?_
        simp only [List.take_succ_cons, List.take_zero, List.drop_succ_cons, List.drop_zero]
        refine relWalk_cons (fun x hC hd K hK => ?_) (fun v0 => ?_)
        · go_simp
          exact hK _ _ hC (Below.refl _ _) rfl
        simp only [Act.put, List.setIfInBounds_toArray, List.set_cons_zero, List.set_cons_succ]
        refine relWalk_cons (fun x hC hd K hK => ?_) (fun v1 => ?_)
        · obtain rfl : v0 = _ := hd 0 (by kernel_rfl)
          have q0 := (hC.cell (p := ⟨b, _, none⟩) lbW).trans x0
          go_simp
          exact hK _ _ hC (Below.refl _ _) rfl
        simp only [Act.put, List.setIfInBounds_toArray, List.set_cons_zero, List.set_cons_succ]
        refine relWalk_cons (fun x hC hd K hK => ?_) (fun v2 => ?_)
        · have q0 := (hC.cell (p := ⟨wr.heap.size, _, none⟩) lz).trans y0
          have q1 := (hC.cell (p := ⟨wr.heap.size, _, none⟩) lz).trans y1
          have q2 := (hC.cell (p := ⟨wr.heap.size, _, none⟩) lz).trans y2
          go_simp
          exact hK _ _ hC (Below.refl _ _) rfl
        simp only [Act.put, List.setIfInBounds_toArray, List.set_cons_zero, List.set_cons_succ]
        refine relWalk_cons (fun x hC hd K hK => ?_) (fun v3 => ?_)
        · obtain rfl : v2 = _ := hd 2 (by kernel_rfl)
          go_simp
          go_at_call 67
          refine (hcl x (bl_step hB2.out hC)).mono ?_
          rintro e w1 ⟨A2, cap2, rfl, hc2, hk2, hb1⟩
          exact hK _ _ (bl_step hC hb1) hb1 ⟨A2, cap2, rfl, hc2, hk2⟩
        simp only [Act.put, List.setIfInBounds_toArray, List.set_cons_zero, List.set_cons_succ]
        refine relWalk_cons (fun x hC hd K hK => ?_) (fun v4 => ?_)
        · obtain ⟨A2, cap2, rfl, hc2, hk2⟩ := hd 3 (by kernel_rfl)
          go_simp
          exact hK _ _ (bl_alloc hC _) ((Below.refl _ _).alloc (Nat.le_refl _) _) ⟨_, A2, cap2, rfl, heap_alloc_new _ _, hc2, hk2.alloc _⟩
        simp only [Act.put, List.setIfInBounds_toArray, List.set_cons_zero, List.set_cons_succ]
        refine relWalk_nil ?_
        intro x hC hG
        obtain rfl : u = v1 := (hG 1 (by omega)).symm
        obtain ⟨g, A2, cap2, e4, h4, hc2, hk2⟩ := hG 4 (by omega)
        obtain rfl : v4 = _ := e4
        have HX3 := Lib.hid (bk_step HX2.out hC)
        have HR3 := Lib.hid (bk_step HR2.out hC)
        have HN3 := Lib.hid (HN2.out.step hC)
        have HW3 := Lib.hid (bl_step HW2.out hC)
        have HK2 := Lib.hid hk2
        have hsz := hC.size
        have Hown3 := Lib.hid (show x.ownsRow (b + 2) 26 3 u i xs from own_step (own_step Hown.out hB2.out) hC)
        clear hG HX2 HR2 HN2 HW2 y0 y1 y2 x0 c0 c1 c2 hcl hk2 hC
        go_wp2_with (at_builtin; go_loud (refine wpList_append_lies _ rfl (.tmp 16) (.tmp 19) 24 rfl (b + 2) 26 i0 _ 3 40 Try.underlying24 hi0 hz0 hz1 hz2 rfl (by omega) u i xs rfl Hown3.out ⟨g, 0, none⟩ 1 1 [.slice A2 k.kids.length cap2, .int .i64 k.val, .int .i64 k.marks] rfl rfl (World.news_of_block h4) (by simp [Value.oneCell']) (by omega) (by unfold maxLen; omega) (by omega) (by omega) _ rfl ?_); intro gg cap4 w4 hown4 hg4 hat4 hlt4; have HX4 := Lib.hid ((hg4.block b (by omega) (fun e => by have := (Hown3.out.lt b e.symm).1; omega)).trans HX3.out); have f0 := free_at HX4.out 0; have x0 := cells_at HX4.out 0; simp only [List.getElem?_toArray, List.getElem?_cons_zero] at x0)
        go_roundw
        case rel =>
          refine ⟨i + 1, .slice (some ⟨gg, 0, none⟩) (i + 1) cap4, xs ++ [.slice A2 k.kids.length cap2, .int .i64 k.val, .int .i64 k.marks], by omega, by go_num, by simpa using set_same (i := 0) HX4.out _, ?_, ?_, ?_⟩
          · refine set_bk ((hg4.block (b + 1) (by omega) (fun e => by have := (Hown3.out.lt (b + 1) e.symm).1; omega)).trans HR3.out) _ _ (by simp)
          · rw [List.take_add_one, Hik.out, Option.toList_some]
            refine NO.set (HN3.out.snoc k A2 cap2 Hkm.out hc2 HK2.out (by rw [List.length_take, Nat.min_eq_left hi]; exact hown4) hg4 hat4) _ _ (by simp) (by simp)
          · exact (HW3.out.grown hg4 HW3.out.size (fun z hz => by have := (Hown3.out.lt z hz).1; have := HBe.out; omega)).setCell (by simp only; have := HBe.out; omega) _
        case measure => simp [intOf]; omega
      · obtain rfl : i = ks.length := by omega
        have hN := HN.out
        rw [List.take_length] at hN
        obtain ⟨A4, cap4, rfl, hcap4, hk4⟩ := hN.nk (S' := fun z => S z ∧ (z ≠ b ∧ z ≠ b + 1)) (fun z hz => hz) (fun z hz => ⟨HSS.out z (by have := HBe.out; omega), by omega⟩)
        have HK4 := Lib.hid hk4
        clear hN HN Hown hk4
        have x0 := cells_at HX.out 0; have x1 := cells_at HX.out 1; have x2 := cells_at HX.out 2; simp only [List.getElem?_toArray, List.getElem?_cons_zero, List.getElem?_cons_succ] at x0 x1 x2
        go_wp2_with (refine wpList_store_rowTo rfl 26 (.tmp 2) (.tmp 23) rfl rfl (b + 1) #[.slice A4 ks.length cap4, .int .i64 v, .int .i64 m] rfl rfl 26 _ (HR.out) node_size rfl (node_one _ _ _ _ _) ?_)
        show bodyPost Try.prog Try.f67 _ _ _ _
        refine bodyPost_ret (node_res rfl _ _ (b + 1) _ _ _ _ _ rfl (setRow_heap _ _ _ _ _ _ HR.out)) rfl ⟨A4, cap4, rfl, hcap4, (HK4.out.kept (by simp [World.setRow]) (fun z hz hlt => setRow_other _ _ _ _ hz.2.2)).weak fun z _ hz => hz.1, bl_setRow HW.out (by rw [HBe.out]; omega) _⟩

def dep : Nat → T → Prop
  | 0, t => t.kids = []
  | h + 1, t => t.kids.length ≤ 1000 ∧ ∀ (i : Nat) (k : T), t.kids[i]? = some k → dep h k
theorem dep_cano : ∀ (h : Nat) (c : Cn), dep h (cano h c)
  | 0, c => rfl
  | h + 1, c => by
    refine ⟨Nat.le_trans (cano_kl _ _) (by omega), fun i k hi => ?_⟩
    rw [cano_succ] at hi
    split at hi
    · simp [T.nil, T.kids] at hi
    · have hl : i < 4 := by
        have := (List.getElem?_eq_some_iff.1 hi).1
        simpa [T.kids, kidsC_len] using this
      rw [show (T.mk (kidsC h c) 0 (orK (kidsC h c))).kids = kidsC h c from rfl, kidsC_at hl] at hi
      injection hi with hi
      subst hi
      exact dep_cano h _
theorem clone_w : ∀ (h : Nat) (t : T), dep h t → ∀ (A : Option Addr) (cap : Nat) (S : Nat → Prop) (w : World), t.kids.length ≤ cap → NK w Any A t.kids → (∀ b, w.heap.size ≤ b → S b) →
    Calls Try.prog 67 #[ndV A t.kids.length cap t.val t.marks] w (RetT t S w)
  | 0, .mk ks v m, hd, A, cap, S, w, hcap, hk, hS => clone_step ks A cap v m S w (by have : ks = [] := hd; rw [this]; simp) hcap hk hS (fun i k hi => by have : ks = [] := hd; rw [this] at hi; simp at hi)
  | h + 1, .mk ks v m, hd, A, cap, S, w, hcap, hk, hS => clone_step ks A cap v m S w hd.1 hcap hk hS (fun i k hi w' hb A' cap' S' hk' hc' hS' => clone_w h k (hd.2 i k hi) A' cap' S' w' hc' hk' hS')


end Go.Proofs.Ytpoagdffpajdjaa
