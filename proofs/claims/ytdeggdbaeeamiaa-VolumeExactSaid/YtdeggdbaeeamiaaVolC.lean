/-
  The law's made, by contract: a volume out of a finite list.
-/
import Derived.Test.YtdeggdbaeeamiaaVolB
import Derived.Test.YtdeggdbaeeamiaaRel
namespace Go.Proofs.Ytdeggdbaeeamiaa
open Go.RowKit
set_option linter.unusedVariables false
set_option linter.unusedSimpArgs false

def bases : List VolT := baseL 0 ++ baseL 1 ++ baseL 2 ++ baseL 3 ++ baseL 4
theorem base_mem {r : Nat} (h : r < 5) {x : VolT} (hx : x ∈ baseL r) : x ∈ bases := by
  have : r = 0 ∨ r = 1 ∨ r = 2 ∨ r = 3 ∨ r = 4 := by omega
  rcases this with rfl | rfl | rfl | rfl | rfl <;> simp only [bases, List.mem_append] <;> simp only [hx, or_true, true_or]
theorem base_len (r : Nat) : 1 ≤ (baseL r).length ∧ (baseL r).length ≤ 2 := by
  match r with
  | 0 => simp [baseL]
  | 1 => simp [baseL]
  | 2 => simp [baseL]
  | 3 => simp [baseL]
  | _ + 4 => simp [baseL]
theorem base_range : bases.all (fun x => decide (0 ≤ x.2.1 ∧ x.2.1 ≤ 2 ∧ 1 ≤ x.2.2.length ∧ x.2.2.length ≤ 2)) = true := by kernel_rfl
/-- What made may make out of a volume. -/
def variants (x : VolT) : List VolT := [x, (x.1, x.2.1 + 1, x.2.2), (1, x.2.1, x.2.2), (2, x.2.1, x.2.2), (3, x.2.1, x.2.2), (x.1, x.2.1, x.2.2 ++ [at0 x.2.2 0])]
def madeL : List VolT := (2, 3, [(0, 0, 6), (2, 1, 6), (1, 0, 6)]) :: bases.flatMap variants
theorem var_mem {x y : VolT} (hx : x ∈ bases) (hy : y ∈ variants x) : y ∈ madeL := List.mem_cons_of_mem _ (List.mem_flatMap.2 ⟨x, hx, hy⟩)
/-- A volume comes back. -/
def RetV (w : World) (e : Ending) (w' : World) : Prop := ∃ kd ch A L cap, e = .returned (volV kd ch A L.length cap) ∧ PA w' A L ∧ L.length ≤ cap ∧ (kd, ch, L) ∈ madeL ∧ Below w.heap.size w w'
/-- A volume in a block. -/
def VB (wx : World) (V : Nat) (x : VolT) (A : Option Addr) (cap : Nat) : Prop := wx.heap[V]? = some (.cells #[.int .i64 x.1, .int .i64 x.2.1, .slice A x.2.2.length cap] 24 (0, 0)) ∧ PA wx A x.2.2 ∧ x.2.2.length ≤ cap
theorem VB.cell {wx : World} {V : Nat} {x : VolT} {A : Option Addr} {cap : Nat} (h : VB wx V x A cap) : wx.cell? ⟨V, 0, none⟩ = some (.int .i64 x.1) ∧ wx.cell? ⟨V, 1, none⟩ = some (.int .i64 x.2.1) ∧ wx.cell? ⟨V, 2, none⟩ = some (.slice A x.2.2.length cap) :=
  ⟨cells_at h.1 0, cells_at h.1 1, cells_at h.1 2⟩
theorem VB.free {wx : World} {V : Nat} {x : VolT} {A : Option Addr} {cap : Nat} (h : VB wx V x A cap) : wx.frozen? ⟨V, 0, none⟩ = false ∧ wx.frozen? ⟨V, 1, none⟩ = false ∧ wx.frozen? ⟨V, 2, none⟩ = false := ⟨free_at h.1 0, free_at h.1 1, free_at h.1 2⟩

theorem PA.set {w : World} {b o : Nat} {L : List Seg} (h : PA w (some ⟨b, o, none⟩) L) (p : Addr) (v : Value) (hn : b ≠ p.block) : PA (w.setCell p v) (some ⟨b, o, none⟩) L := by
  rcases h with h | ⟨b', o', e, h2, h3⟩
  · exact .inl h
  · injection e with e
    injection e with e1 e2
    subst e1; subst e2
    have hc : ∀ j, (w.setCell p v).cell? ⟨b, j, none⟩ = w.cell? ⟨b, j, none⟩ := fun j => World.cell?_setCell_other w p ⟨b, j, none⟩ v (fun e => hn (by rw [e]))
    refine .inr ⟨b, o, rfl, by simpa [World.setCell] using h2, fun i d s c hi => ?_⟩
    obtain ⟨c0, c1, c2⟩ := h3 i d s c hi
    exact ⟨(hc _).trans c0, (hc _).trans c1, (hc _).trans c2⟩
theorem set_bk {w : World} {g : Nat} {x : Obj} (h : w.heap[g]? = some x) (p : Addr) (v : Value) (hn : g ≠ p.block) : (w.setCell p v).heap[g]? = some x := (Below.heap_setCell w p v g hn).trans h
theorem set_same {w : World} {g i : Nat} {cs : Array Value} {t : TypeId} {fr : Nat × Nat} (h : w.heap[g]? = some (.cells cs t fr)) (v : Value) : (w.setCell ⟨g, i, none⟩ v).heap[g]? = some (.cells (cs.setIfInBounds i v) t fr) := by
  simp [World.setCell, Array.getElem?_modify, h]
theorem seg_info : (Try.prog.info? 35).map (fun i => (i.zero, i.size, i.bytes)) = some (some (.agg #[.int .i64 0, .int .i64 0, .int .i64 0]), 3, 24) := by kernel_rfl
theorem sgs_len (l : List Seg) : (sgs l).length = l.length * 3 := by
  induction l with
  | nil => rfl
  | cons a l ih => obtain ⟨x, y, z⟩ := a; simp [sgs, ih]; omega
theorem sgs_one (l : List Seg) : ∀ u ∈ sgs l, u.oneCell' = true := by
  induction l with
  | nil => intro u hu; simp [sgs] at hu
  | cons a l ih =>
    obtain ⟨x, y, z⟩ := a
    intro u hu
    simp only [sgs, List.mem_cons] at hu
    rcases hu with rfl | rfl | rfl | hu
    · rfl
    · rfl
    · rfl
    · exact ih u hu
theorem sgs_snoc (l : List Seg) (d s c : Int) : sgs (l ++ [(d, s, c)]) = sgs l ++ [.int .i64 d, .int .i64 s, .int .i64 c] := by
  induction l with
  | nil => rfl
  | cons a l ih => obtain ⟨x, y, z⟩ := a; simp [sgs, ih]
theorem PA.news {w : World} {b : Nat} {L : List Seg} (h : PA w (some ⟨b, 0, none⟩) L) : ∀ j u, (sgs L)[j]? = some u → w.cell? ((⟨b, 0, none⟩ : Addr).add j) = some u := by
  intro j u hu
  have hj : j < L.length * 3 := by rw [← sgs_len]; exact (List.getElem?_eq_some_iff.1 hu).1
  obtain ⟨d, s, c, _, he, c0, c1, c2⟩ := h.get (i := j / 3) (by omega)
  obtain ⟨x0, x1, x2⟩ := sgs_get L (j / 3) d s c he
  have hadd : (⟨b, 0, none⟩ : Addr).add j = ⟨b, j, none⟩ := by unfold Addr.add; split <;> simp_all
  rw [hadd]
  simp only [Nat.zero_add] at c0 c1 c2
  have h3 : j = j / 3 * 3 ∨ j = j / 3 * 3 + 1 ∨ j = j / 3 * 3 + 2 := by omega
  rcases h3 with h3 | h3 | h3
  · rw [h3] at hu ⊢; rw [c0, ← x0, hu]
  · rw [h3] at hu ⊢; rw [c1, ← x1, hu]
  · rw [h3] at hu ⊢; rw [c2, ← x2, hu]
theorem PA.of_own {w : World} {B g n cap : Nat} {t : TypeId} {L : List Seg} (h : w.ownsRow B t 3 (.slice (some ⟨g, 0, none⟩) n cap) L.length (sgs L)) : PA w (some ⟨g, 0, none⟩) L := by
  rcases h.2 with ⟨h1, _⟩ | ⟨g', cap', cur, h1, _, hh, hnc, _, hs, ht⟩
  · cases h1
  · injection h1 with e1 e2 e3
    injection e1 with e1
    injection e1 with e1
    subst e1
    refine .inr ⟨g, 0, rfl, bk_lt hh, fun i d s c hi => ?_⟩
    have hil : i < L.length := (List.getElem?_eq_some_iff.1 hi).1
    obtain ⟨x0, x1, x2⟩ := sgs_get L i d s c hi
    have hx : ∀ j, j < L.length * 3 → w.cell? ⟨g, j, none⟩ = (sgs L)[j]? := fun j hj => by
      rw [← ht, List.getElem?_take, if_pos hj]
      simp [World.cell?, hh]
    rw [Nat.zero_add]
    exact ⟨(hx _ (by omega)).trans x0, (hx _ (by omega)).trans x1, (hx _ (by omega)).trans x2⟩
theorem own_cap {w : World} {B g n m cap : Nat} {t : TypeId} {xs : List Value} (h : w.ownsRow B t 3 (.slice (some ⟨g, 0, none⟩) n cap) m xs) : m ≤ cap := by
  rcases h.2 with ⟨h1, _⟩ | ⟨g', cap', cur, h1, _, _, hnc, _⟩
  · cases h1
  · injection h1 with e1 e2 e3
    omega
/-- What is known of the values of the region that appends the first part once more. -/
def MG (B V b : Nat) (L : List Seg) (d s c : Int) (j : Nat) (v : Value) (w : World) : Prop :=
  match j with
  | 0 => v = .pointer (some ⟨V, 2, none⟩)
  | 1 => v = .slice (some ⟨b, 0, none⟩) L.length L.length
  | 2 => w.ownsRow B 35 3 v L.length (sgs L)
  | 3 => v = .pointer (some ⟨V, 2, none⟩)
  | 4 => v = .slice (some ⟨b, 0, none⟩) L.length L.length
  | 5 => v = .pointer (some ⟨b, 0, none⟩)
  | 6 => v = .agg #[.int .i64 d, .int .i64 s, .int .i64 c]
  | 7 => ∃ g, v = .slice (some ⟨g, 0, none⟩) 1 1 ∧ B ≤ g ∧ w.heap[g]? = some (.cells #[.int .i64 d, .int .i64 s, .int .i64 c] 35 (0, 0))
  | _ => True
theorem MG.keep {B V b : Nat} {L : List Seg} {d s c : Int} {w w' : World} (hr : Below w.heap.size w w') : ∀ j v, MG B V b L d s c j v w → MG B V b L d s c j v w'
  | 0, v, h => h
  | 1, v, h => h
  | 2, v, h => World.ownsRow.kept (row := none) h ⟨hr.os, hr.tape, hr.output, hr.size, fun k hk _ => hr.block k hk⟩ (by cases h : v.ownBlock with | none => exact .inl rfl | some b => exact .inr (by simp))
  | 3, v, h => h
  | 4, v, h => h
  | 5, v, h => h
  | 6, v, h => h
  | 7, v, ⟨g, h1, h2, h3⟩ => ⟨g, h1, h2, bk_step h3 hr⟩
  | _ + 8, v, h => h

set_option maxRecDepth 100000 in
set_option maxHeartbeats 2000000 in
theorem made_w (n : Int) (w : World) : Calls Try.prog 10 #[.int .i64 n] w (RetV w) := by
  go_enter Try.func10, Try.ntmps10
  go_upto_region 1 with fail
  go_cut [2, 3] (fun s2 s3 wx => ∃ r, r < 5 ∧ s2 = .pointer (some ⟨w.heap.size, 0, none⟩) ∧ VLs (w.heap.size + 1) wx s3 (baseL r) ∧ wx.heap[w.heap.size]? = some (.cells #[.int .i64 0, .int .i64 0, .slice none 0 0] 24 (0, 0)) ∧ Below w.heap.size w wx)
  case first =>
    go_wp2_with (go_at_call 27; (with_reducible refine Calls.mono (volumes_w _ _) ?_); rintro e w1 ⟨v, k, r, hr, rfl, hV, hb1⟩)
    go_meet
    case rel => exact ⟨r, hr, rfl, by simpa using hV, bk_step (heap_alloc_new _ _) hb1, bl_step ((Below.refl _ _).alloc (Nat.le_refl _) _) hb1⟩
  case rest =>
    obtain ⟨r, hr, rfl, ⟨g, cap, rfl, lg, hvs⟩, hR, hB⟩ := hcut
    have ⟨b1, b2⟩ := base_len r
    have hrd := fun x w => round_w x (baseL r).length w (by omega) (by omega)
    have ⟨j0, j1⟩ := cutI_range (n / 8) (baseL r).length (by omega)
    obtain ⟨j, hj⟩ := Int.eq_ofNat_of_zero_le j0
    have hrd1 := fun w => hrd (n / 8) w
    rw [hj] at hrd1 j1
    have hjl : j < (baseL r).length := by omega
    have he : (baseL r)[j]? = some (baseL r)[j] := List.getElem?_eq_getElem hjl
    have Hmem := Lib.hid (base_mem hr (List.getElem_mem hjl))
    generalize (baseL r)[j] = x at he Hmem
    obtain ⟨kd, ch, L⟩ := x
    obtain ⟨b, lwb, c0, c1, c2, hA⟩ := hvs j kd ch L he
    have z0 : (0 : Int) ≤ (j : Int) := by omega
    have HR := Lib.hid hR
    have HA := Lib.hid hA
    have hbr := List.all_eq_true.1 base_range _ Hmem.out
    simp only [decide_eq_true_eq] at hbr
    obtain ⟨q0, q1, q2, q3⟩ := hbr
    have Hat := Lib.hid (hA.get (i := 0) (by omega))
    clear hvs he hj j0 hrd hR hA b1 b2
    go_upto_region 2 with fail
    go_cut [5] (fun s5 wx => ∃ V, s5 = .pointer (some ⟨V, 0, none⟩) ∧ w.heap.size < V ∧ b < V ∧ VB wx V (kd, ch, L) (some ⟨b, 0, none⟩) L.length ∧ wx.heap[w.heap.size]? = some (.cells #[.int .i64 0, .int .i64 0, .slice none 0 0] 24 (0, 0)) ∧ Below w.heap.size w wx)
    case first =>
      go_wp2_with (go_at_call 15; (with_reducible refine Calls.mono (hrd1 _) ?_); rintro e w1 ⟨rfl, rfl⟩)
      go_meet
      case rel =>
        obtain ⟨_, _, _, lb, _⟩ := Hat.out
        exact ⟨_, rfl, bk_lt HR.out, lb, ⟨heap_alloc_new _ _, HA.out.alloc _, Nat.le_refl _⟩, bk_alloc HR.out _, bl_alloc hB _⟩
    case rest =>
      clear hrd1 c0 c1 c2 HR HA lg hB Hat
      obtain ⟨V, rfl, lV, lb, hV, hR, hB⟩ := hcut
      have hr12 := fun x w => round_w x 12 w (by omega) (by omega)
      have hr3 := fun w => round_w (n / 512) 3 w (by omega) (by omega)
      have ⟨k0, k1⟩ := cutI_range (n / 512) 3 (by omega)
      generalize cutI (n / 512) 3 = k at hr3 k0 k1
      go_upto_region 3 with fail
      obtain ⟨W, rfl⟩ : ∃ W : World, W = wc := ⟨_, rfl⟩
      go_cut [21] (fun s21 wx => ∃ y, s21 = .int .i64 y ∧ (y = 0 ∨ y = 1 ∨ y = 2 ∨ y = 3 ∨ (4 ≤ y ∧ y < 12)) ∧ W = wx)
      case first =>
        go_wp2_with (go_at_call 15; (with_reducible refine Calls.mono (hr12 _ _) ?_); rintro e w1 ⟨rfl, rfl⟩)
        go_meet
        case rel => exact ⟨_, rfl, by have := cutI_range (n / 32) 12 (by omega); omega, rfl⟩
      case rest =>
        obtain ⟨y, rfl, hy, rfl⟩ := hcut
        clear hr12
        go_upto_block 0 with fail
        go_cut [] (fun wx => ∃ (x : VolT) (b' : Nat) (cap' : Nat), x ∈ madeL ∧ w.heap.size < b' ∧ VB wx V x (some ⟨b', 0, none⟩) cap' ∧ wx.heap[w.heap.size]? = some (.cells #[.int .i64 0, .int .i64 0, .slice none 0 0] 24 (0, 0)) ∧ Below w.heap.size w wx)
        case first =>
          obtain ⟨v0, v1, v2⟩ := hV.cell
          obtain ⟨e0, e1, e2⟩ := hV.free
          have lVW := bk_lt hV.1
          have HV := Lib.hid hV
          have HR := Lib.hid hR
          have HB := Lib.hid hB
          have hRV : w.heap.size ≠ V := by omega
          have hbV : b ≠ V := by omega
          have HRV := Lib.hid hRV
          have HbV := Lib.hid hbV
          clear hV hR hB hRV hbV
          simp only at v0 v1 v2
          rcases hy with rfl | rfl | rfl | rfl | ⟨y0, y1⟩
          · go_wp2
            go_meet
            case rel => exact ⟨(kd, ch + 1, L), _, _, var_mem Hmem.out (by simp [variants]), by omega, ⟨set_same HV.out.1 _, HV.out.2.1.set _ _ HbV.out, HV.out.2.2⟩, set_bk HR.out _ _ HRV.out, HB.out.setCell (by simp; omega) _⟩
          · go_wp2_with (go_at_call 15; (with_reducible refine Calls.mono (hr3 _) ?_); rintro e w1 ⟨rfl, rfl⟩)
            go_meet
            case rel => exact ⟨(1 + k, ch, L), _, _, var_mem Hmem.out (by
              have : k = 0 ∨ k = 1 ∨ k = 2 := by omega
              rcases this with rfl | rfl | rfl <;> simp [variants]), by omega, ⟨set_same HV.out.1 _, HV.out.2.1.set _ _ HbV.out, HV.out.2.2⟩, set_bk HR.out _ _ HRV.out, HB.out.setCell (by simp; omega) _⟩
          · go_upto_region 9 with fail
            obtain ⟨i0, hi, hz0, hz1, hz2⟩ := info_parts seg_info
            obtain ⟨d0, s0, f0, lb0, he0, _, _, _⟩ := HV.out.2.1.get (i := 0) (by simp only; omega)
            have hL0 : sgs [at0 L 0] = [.int .i64 d0, .int .i64 s0, .int .i64 f0] := by rw [at0_some he0]; rfl
            have HP := Lib.hid (show PA W (some ⟨b, 0, none⟩) L from HV.out.2.1)
            have HL0 := Lib.hid hL0
            have He0 := Lib.hid he0
            clear hL0 he0 v0 v1 v2 e0 e1 e2
            refine wp_region_rel 8 57 (fun x => Below W.heap.size W x) (fun x y => Below x.heap.size x y) (MG W.heap.size V b L d0 s0 f0) (by kernel_rfl) (by kernel_rfl) rfl ((Below.refl _ _).drew) (fun x y hr => MG.keep hr) ?_
            simp only [List.take_succ_cons, List.take_zero, List.drop_succ_cons, List.drop_zero]
            refine relWalk_cons (fun x hC hd K hK => ?_) (fun v0 => ?_)
            · go_simp
              exact hK _ _ hC (Below.refl _ _) rfl
            simp only [Act.put, List.setIfInBounds_toArray, List.set_cons_zero, List.set_cons_succ]
            refine relWalk_cons (fun x hC hd K hK => ?_) (fun v1 => ?_)
            · obtain rfl : v0 = _ := hd 0 (by kernel_rfl)
              have w2 := (hC.cell (p := ⟨V, 2, none⟩) lVW).trans HV.out.cell.2.2
              go_simp
              exact hK _ _ hC (Below.refl _ _) rfl
            simp only [Act.put, List.setIfInBounds_toArray, List.set_cons_zero, List.set_cons_succ]
            refine relWalk_cons (fun x hC hd K hK => ?_) (fun v2 => ?_)
            · obtain rfl : v1 = _ := hd 1 (by kernel_rfl)
              refine wp_append_lies x _ _ 22 rfl W.heap.size 35 i0 _ 3 24 Try.underlying22 hi hz0 hz1 hz2 rfl (by omega) (.slice none 0 0) 0 [] rfl (World.ownsRow_nil _ _ _ _) ⟨b, 0, none⟩ L.length L.length (sgs L) rfl (sgs_len L) (PA.news (HP.out.step hC)) (sgs_one L) (by omega) (by unfold maxLen; omega) (by omega) hC.size _ rfl ?_
              intro gg cap w3 hown hg hat hlt
              have hb3 : Below x.heap.size x w3 := ⟨hg.os, hg.tape, hg.output, hg.size, fun k hk => hg.block k hk (by simp [Value.ownBlock])⟩
              simp only [Nat.zero_add, List.nil_append] at hown
              exact hK _ _ (bl_step hC hb3) hb3 (by show w3.ownsRow W.heap.size 35 3 (.slice (some ⟨gg, 0, none⟩) (0 + L.length) cap) L.length (sgs L); rw [Nat.zero_add]; exact hown)
            simp only [Act.put, List.setIfInBounds_toArray, List.set_cons_zero, List.set_cons_succ]
            refine relWalk_cons (fun x hC hd K hK => ?_) (fun v3 => ?_)
            · go_simp
              exact hK _ _ hC (Below.refl _ _) rfl
            simp only [Act.put, List.setIfInBounds_toArray, List.set_cons_zero, List.set_cons_succ]
            refine relWalk_cons (fun x hC hd K hK => ?_) (fun v4 => ?_)
            · obtain rfl : v3 = _ := hd 3 (by kernel_rfl)
              have w2 := (hC.cell (p := ⟨V, 2, none⟩) lVW).trans HV.out.cell.2.2
              go_simp
              exact hK _ _ hC (Below.refl _ _) rfl
            simp only [Act.put, List.setIfInBounds_toArray, List.set_cons_zero, List.set_cons_succ]
            refine relWalk_cons (fun x hC hd K hK => ?_) (fun v5 => ?_)
            · obtain rfl : v4 = _ := hd 4 (by kernel_rfl)
              have u0 : (0 : Int) < (L.length : Int) := by omega
              have u1 : 0 < L.length := by omega
              go_simp
              exact hK _ _ hC (Below.refl _ _) rfl
            simp only [Act.put, List.setIfInBounds_toArray, List.set_cons_zero, List.set_cons_succ]
            refine relWalk_cons (fun x hC hd K hK => ?_) (fun v6 => ?_)
            · obtain rfl : v5 = _ := hd 5 (by kernel_rfl)
              obtain ⟨d, s, c, _, he, c0, c1, c2⟩ := (HP.out.step hC).get (i := 0) (by omega)
              have e := he.symm.trans He0.out
              simp only [Option.some.injEq, Prod.mk.injEq] at e
              obtain ⟨rfl, rfl, rfl⟩ := e
              simp only [Nat.zero_mul, Nat.add_zero, Nat.zero_add] at c0 c1 c2
              clear he
              go_simp
              exact hK _ _ hC (Below.refl _ _) rfl
            simp only [Act.put, List.setIfInBounds_toArray, List.set_cons_zero, List.set_cons_succ]
            refine relWalk_cons (fun x hC hd K hK => ?_) (fun v7 => ?_)
            · obtain rfl : v6 = _ := hd 6 (by kernel_rfl)
              go_simp
              exact hK _ _ (bl_alloc hC _) ((Below.refl _ _).alloc (Nat.le_refl _) _) ⟨_, rfl, hC.size, heap_alloc_new _ _⟩
            simp only [Act.put, List.setIfInBounds_toArray, List.set_cons_zero, List.set_cons_succ]
            refine relWalk_nil ?_
            intro x hC hG
            have g2 := hG 2 (by omega)
            obtain ⟨g7, e7, l7, h7⟩ := hG 7 (by omega)
            obtain rfl : v7 = _ := e7
            have g2' : x.ownsRow W.heap.size 35 3 v2 L.length (sgs L) := g2
            clear hG g2
            have lVx : V < x.heap.size := Nat.lt_of_lt_of_le lVW hC.size
            have hVx := (hC.block V lVW).trans HV.out.1
            have HG2 := Lib.hid g2'
            have HVx := Lib.hid hVx
            have HC := Lib.hid hC
            have Hl := Lib.hid g2'.lt
            clear g2' hVx hC
            go_wp2_with (refine wpList_append_lies _ rfl (.tmp 39) (.tmp 44) 22 rfl W.heap.size 35 i0 _ 3 24 Try.underlying22 hi hz0 hz1 hz2 rfl (by omega) v2 L.length (sgs L) rfl HG2.out ⟨g7, 0, none⟩ 1 1 [.int .i64 d0, .int .i64 s0, .int .i64 f0] rfl rfl (World.news_of_block h7) (by simp [Value.oneCell']) (by omega) (by unfold maxLen; omega) (by omega) HC.out.size _ rfl ?_; intro gg cap4 w4 hown4 hg4 hat4 hlt4; have hV4 := (hg4.block V lVx (fun e => by have := (Hl.out V e.symm).1; omega)).trans HVx.out; have t2 := cells_at hV4 2; have f2 := free_at hV4 2; have lV4 := bk_lt hV4)
            go_meet
            case rel =>
              have hl4 := (hown4.lt gg rfl).1
              have hown5 : w4.ownsRow W.heap.size 35 3 (.slice (some ⟨gg, 0, none⟩) (L.length + 1) cap4) (L ++ [at0 L 0]).length (sgs (L ++ [at0 L 0])) := by
                rw [at0_some He0.out, sgs_snoc]
                simpa using hown4
              have hcap := own_cap hown5
              have hr0 : ∀ k, v2.ownBlock = some k → W.heap.size ≤ k := fun k hk => (Hl.out k hk).1
              have hRx := (HC.out.block w.heap.size (by omega)).trans HR.out
              have hR4 := (hg4.block w.heap.size (bk_lt hRx) (fun e => by have := hr0 _ e.symm; omega)).trans hRx
              exact ⟨(kd, ch, L ++ [at0 L 0]), gg, cap4, var_mem Hmem.out (by simp [variants]), by omega, ⟨by simpa using set_same (i := 2) hV4 _, (PA.of_own hown5).set _ _ (by simp; omega), by simpa using hcap⟩, set_bk hR4 _ _ HRV.out, ((bl_step HB.out HC.out).grown hg4 (bl_step HB.out HC.out).size (fun k hk => by have := hr0 k hk; omega)).setCell (by simp; omega) _⟩
          · go_wp2
            go_meet
            case rel => exact ⟨(2, 3, [(0, 0, 6), (2, 1, 6), (1, 0, 6)]), W.heap.size, 3, by simp [madeL], by omega, ⟨bk_alloc (set_same (set_same (set_same HV.out.1 _) _) _) _, PA.of_block (heap_at_new _ _ _ (by simp [World.setCell])) rfl, by simp⟩, bk_alloc (set_bk (set_bk (set_bk HR.out _ _ HRV.out) _ _ HRV.out) _ _ HRV.out) _, bl_alloc (((HB.out.setCell (by simp; omega) _).setCell (by simp; omega) _).setCell (by simp; omega) _) _⟩
          · have y2 : (y == 0) = false := by simp; omega
            have y3 : (y == 1) = false := by simp; omega
            have y4 : (y == 2) = false := by simp; omega
            have y5 : (y == 3) = false := by simp; omega
            go_wp2
            go_meet
            case rel => exact ⟨(kd, ch, L), _, _, var_mem Hmem.out (by simp [variants]), by omega, HV.out, HR.out, HB.out⟩
        case rest =>
          clear hV hR hB lV lb q0 q1 q2 q3 hr3 k0 k1 hy
          obtain ⟨⟨kd', ch', L'⟩, b', cap', hm, lb', hV, hR, hB⟩ := hcut
          obtain ⟨v0, v1, v2⟩ := hV.cell
          have r0 := cells_at hR 0
          have r1 := cells_at hR 1
          have r2 := cells_at hR 2
          have u0 := free_at hR 0
          have u1 := free_at hR 1
          have u2 := free_at hR 2
          simp only [List.getElem?_toArray, List.getElem?_cons_zero, List.getElem?_cons_succ] at r0 r1 r2 v0 v1 v2
          go_wp2
          have k0 := cells_at (set_same (i := 0) hR (.int .i64 kd')) 0
          have k1 := cells_at (set_same (i := 1) (set_same (i := 0) hR (.int .i64 kd')) (.int .i64 ch')) 1
          have k2 := cells_at (set_same (i := 2) (set_same (i := 1) (set_same (i := 0) hR (.int .i64 kd')) (.int .i64 ch')) (.slice (some ⟨b', 0, none⟩) L'.length cap')) 2
          have hbw : b' ≠ w.heap.size := by omega
          refine bodyPost_ret (v := volV kd' ch' (some ⟨b', 0, none⟩) L'.length cap') (by simp [results, Try.results10, go_sem, k0, k1, k2]) rfl ⟨kd', ch', some ⟨b', 0, none⟩, L', cap', rfl, ((hV.2.1.set _ _ hbw).set _ _ hbw).set _ _ hbw, hV.2.2, hm, ((hB.setCell (by simp) _).setCell (by simp) _).setCell (by simp) _⟩

end Go.Proofs.Ytdeggdbaeeamiaa
