/-
  The law's own sectors and same, by contracts.
-/
import Derived.Test.YtdeggdbaeeamiaaVolI
import Derived.Test.YtdeggdbaeeamiaaSP
namespace Go.Proofs.Ytdeggdbaeeamiaa
open Go.RowKit
set_option linter.unusedVariables false
set_option linter.unusedSimpArgs false

theorem place_info : (Try.prog.info? 59).map (fun i => (i.zero, i.size, i.bytes)) = some (some (.agg #[.int .i64 0, .int .i64 0, .int .i64 0]), 3, 24) := by kernel_rfl
theorem own_step {w w' : World} {B sz n : Nat} {t : TypeId} {v : Value} {xs : List Value} (h : w.ownsRow B t sz v n xs) (hb : Below w.heap.size w w') : w'.ownsRow B t sz v n xs :=
  h.kept (row := none) ⟨hb.os, hb.tape, hb.output, hb.size, fun k hk _ => hb.block k hk⟩ (by cases h : v.ownBlock with | none => exact .inl rfl | some b => exact .inr (by simp))
def SP.blk (c : Nat) (cs : Array Value) (t : TypeId) : SP := ⟨fun v w => ∃ g, v = .slice (some ⟨g, 0, none⟩) c c ∧ w.heap[g]? = some (.cells cs t (0, 0)), fun v w w' hb ⟨g, h1, h2⟩ => ⟨g, h1, bk_step h2 hb⟩⟩
theorem own_sg {w : World} {b : Nat} {t : TypeId} {v : Value} {l : List Seg} {x y z : Int} (h : w.ownsRow b t 3 v (l.length + 1) (sgs l ++ [.int .i64 x, .int .i64 y, .int .i64 z])) : w.ownsRow b t 3 v (l ++ [(x, y, z)]).length (sgs (l ++ [(x, y, z)])) := by
  rw [sgs_snoc]
  simpa using h

/-- A slice of places comes back, in a row of the call's own. -/
def RetSc (l : List Seg) (w : World) (e : Ending) (w' : World) : Prop := ∃ v, e = .returned v ∧ w'.ownsRow w.heap.size 59 3 v l.length (sgs l) ∧ Below w.heap.size w w'

set_option maxRecDepth 100000 in
set_option maxHeartbeats 4000000 in
theorem sectors_w (v : Value) (l : List Pc) (fr : Int) (w : World) (h : PcA w v l) (hl : l.length ≤ 128) (hf : 0 ≤ fr ∧ fr ≤ 128) (hp : ∀ p ∈ l, 0 ≤ p.2.1 ∧ p.2.1 ≤ 1000 ∧ p.2.2.1 ≤ 128 ∧ 0 ≤ p.2.2.2 ∧ p.2.2.2 ≤ 128) :
    Calls Try.prog 17 #[v, .int .i64 fr] w (RetSc (secs fr l) w) := by
  obtain ⟨A, cap, rfl, hm, hR⟩ := h.parts
  obtain ⟨f0, f1⟩ := hf
  obtain ⟨i0, hi, hz0, hz1, hz2⟩ := info_parts place_info
  have HR := Lib.hid hR
  have H0 := Lib.hid hR
  have HP := Lib.hid hp
  have HL := Lib.hid (fun i => (secs_len (from_ := fr) (l := l.take i) (fun p hpt => (hp p (List.mem_of_mem_take hpt)).2.2.1)))
  clear h hR hm hp
  go_enter Try.func17, Try.ntmps17
  go_wp2
  go_loopw [5, 6] (fun s5 s6 wx => ∃ i : Nat, i ≤ l.length ∧ s6 = .int .i64 i ∧ wx.ownsRow w.heap.size 59 3 s5 (secs fr (l.take i)).length (sgs (secs fr (l.take i))) ∧ PcR wx A l ∧ Below w.heap.size w wx) (fun _ s6 _ => l.length - (intOf s6).toNat)
  case atStart => exact ⟨0, by omega, rfl, World.ownsRow_nil _ _ _ _, HR.out, Below.refl _ _⟩
  case round =>
    clear HR
    obtain ⟨i, hi', rfl, hown, hR, hW⟩ := hrel
    have HR := Lib.hid hR
    have HW := Lib.hid hW
    have Hown := Lib.hid hown
    clear hR hW hown
    by_cases hlt : i < l.length
    · obtain ⟨b, d, t, ct, f, rfl, lb, he, p0, p1, p2, p3⟩ := HR.out.at_ hlt
      obtain ⟨q0, q1, q2, q3, q4⟩ := HP.out _ (List.mem_of_getElem? he)
      simp only at q0 q1 q2 q3 q4
      have ht := secs_take (from_ := fr) he
      have Ht := Lib.hid ht
      have He := Lib.hid he
      have hb1 := HL.out i
      have hb2 : (List.take i l).length ≤ 128 := by rw [List.length_take]; omega
      have u0 : (0 : Int) ≤ (i : Int) := by omega
      have u1 : (i : Int) < (l.length : Int) := by omega
      generalize hacc : secs fr (l.take i) = acc at Hown Ht ht hb1
      clear ht he p0 p1 p2 p3 hacc lb
      simp only at Ht
      go_wp2
      go_loopw [5, 7] (fun s5 s7 wx => ∃ k : Nat, k ≤ ct.toNat ∧ s7 = .int .i64 k ∧ wx.ownsRow w.heap.size 59 3 s5 (acc ++ pcSec fr (d, t, ct, f) k).length (sgs (acc ++ pcSec fr (d, t, ct, f) k)) ∧ PcR wx (some ⟨b, 0, none⟩) l ∧ Below w.heap.size w wx) (fun _ s7 _ => ct.toNat - (intOf s7).toNat)
      case atStart => exact ⟨0, by omega, rfl, by simpa [pcSec] using Hown.out, HR.out, HW.out⟩
      case round =>
        clear HR HW Hown
        obtain ⟨k, hk', rfl, hown, hR, hW⟩ := hrel
        obtain ⟨b', d', t', ct', f', eb, lb, he', p0, p1, p2, p3⟩ := hR.at_ hlt
        rw [He.out] at he'
        simp only [Option.some.injEq, Prod.mk.injEq, Addr.mk.injEq, and_true] at he' eb
        obtain ⟨rfl, rfl, rfl, rfl⟩ := he'
        obtain rfl := eb
        have HR := Lib.hid hR
        have HW := Lib.hid hW
        have Hown := Lib.hid hown
        clear hR hW hown
        by_cases hk : (k : Int) < ct
        · have k128 : (k : Int) < 128 := by omega
          have hlen : (acc ++ pcSec fr (d, t, ct, f) k).length ≤ 20000 := by rw [List.length_append, pcSec_len]; omega
          have hsn := pcSec_succ fr (d, t, ct, f) k
          have Hsn := Lib.hid (show acc ++ pcSec fr (d, t, ct, f) (k + 1) = (acc ++ pcSec fr (d, t, ct, f) k) ++ [(d, t + (k : Int), fr + f + (k : Int))] by rw [hsn, List.append_assoc])
          generalize acc ++ pcSec fr (d, t, ct, f) k = acc2 at Hown Hsn hlen
          clear hsn
          have w1 := w64 (x := t + (k : Int)) (by omega)
          have w2 := w64 (x := fr + f) (by omega)
          have w3 := w64 (x := fr + f + (k : Int)) (by omega)
          go_upto_region 8 with fail
          obtain ⟨W, hWe⟩ : ∃ W : World, W = wr := ⟨_, rfl⟩
          subst hWe
          have iN : i < l.length := hlt
          refine wp_region_sp 24 53 [SP.eq u5, SP.eq (.slice (some ⟨b, 0, none⟩) l.length cap), SP.eq (.int .i64 i), SP.eq (.pointer (some ⟨b, i * 4, none⟩)), SP.eq (.pointer (some ⟨b, i * 4, none⟩)), SP.eq (.int .i64 d),
            SP.eq (.slice (some ⟨b, 0, none⟩) l.length cap), SP.eq (.int .i64 i), SP.eq (.pointer (some ⟨b, i * 4, none⟩)), SP.eq (.pointer (some ⟨b, i * 4 + 1, none⟩)), SP.eq (.int .i64 t), SP.eq (.int .i64 k), SP.eq (.int .i64 (t + (k : Int))),
            SP.eq (.int .i64 fr), SP.eq (.slice (some ⟨b, 0, none⟩) l.length cap), SP.eq (.int .i64 i), SP.eq (.pointer (some ⟨b, i * 4, none⟩)), SP.eq (.pointer (some ⟨b, i * 4 + 3, none⟩)), SP.eq (.int .i64 f), SP.eq (.int .i64 (fr + f)), SP.eq (.int .i64 k), SP.eq (.int .i64 (fr + f + (k : Int))),
            SP.eq (.agg #[.int .i64 d, .int .i64 (t + (k : Int)), .int .i64 (fr + f + (k : Int))]), SP.blk 1 #[.int .i64 d, .int .i64 (t + (k : Int)), .int .i64 (fr + f + (k : Int))] 59] (by kernel_rfl) (by kernel_rfl) rfl ?_
          simp only [List.take_succ_cons, List.take_zero, List.drop_succ_cons, List.drop_zero]
          refine relWalk_cons (fun x hC hd K hK => ?_) (fun v0 => ?_)
          · go_simp
            exact hK _ _ hC (Below.refl _ _) rfl
          simp only [Act.put, List.setIfInBounds_toArray, List.set_cons_zero, List.set_cons_succ]
          refine relWalk_cons (fun x hC hd K hK => ?_) (fun v1 => ?_)
          · go_simp
            exact hK _ _ hC (Below.refl _ _) rfl
          simp only [Act.put, List.setIfInBounds_toArray, List.set_cons_zero, List.set_cons_succ]
          refine relWalk_cons (fun x hC hd K hK => ?_) (fun v2 => ?_)
          · go_simp
            exact hK _ _ hC (Below.refl _ _) rfl
          simp only [Act.put, List.setIfInBounds_toArray, List.set_cons_zero, List.set_cons_succ]
          refine relWalk_cons (fun x hC hd K hK => ?_) (fun v3 => ?_)
          · obtain rfl : v1 = _ := hd 1 (by kernel_rfl)
            obtain rfl : v2 = _ := hd 2 (by kernel_rfl)
            go_simp
            exact hK _ _ hC (Below.refl _ _) rfl
          simp only [Act.put, List.setIfInBounds_toArray, List.set_cons_zero, List.set_cons_succ]
          refine relWalk_cons (fun x hC hd K hK => ?_) (fun v4 => ?_)
          · obtain rfl : v3 = _ := hd 3 (by kernel_rfl)
            go_simp
            exact hK _ _ hC (Below.refl _ _) rfl
          simp only [Act.put, List.setIfInBounds_toArray, List.set_cons_zero, List.set_cons_succ]
          refine relWalk_cons (fun x hC hd K hK => ?_) (fun v5 => ?_)
          · obtain rfl : v4 = _ := hd 4 (by kernel_rfl)
            have hcell := (hC.cell (p := ⟨b, _, none⟩) lb).trans p0
            go_simp
            exact hK _ _ hC (Below.refl _ _) rfl
          simp only [Act.put, List.setIfInBounds_toArray, List.set_cons_zero, List.set_cons_succ]
          refine relWalk_cons (fun x hC hd K hK => ?_) (fun v6 => ?_)
          · go_simp
            exact hK _ _ hC (Below.refl _ _) rfl
          simp only [Act.put, List.setIfInBounds_toArray, List.set_cons_zero, List.set_cons_succ]
          refine relWalk_cons (fun x hC hd K hK => ?_) (fun v7 => ?_)
          · go_simp
            exact hK _ _ hC (Below.refl _ _) rfl
          simp only [Act.put, List.setIfInBounds_toArray, List.set_cons_zero, List.set_cons_succ]
          refine relWalk_cons (fun x hC hd K hK => ?_) (fun v8 => ?_)
          · obtain rfl : v6 = _ := hd 6 (by kernel_rfl)
            obtain rfl : v7 = _ := hd 7 (by kernel_rfl)
            go_simp
            exact hK _ _ hC (Below.refl _ _) rfl
          simp only [Act.put, List.setIfInBounds_toArray, List.set_cons_zero, List.set_cons_succ]
          refine relWalk_cons (fun x hC hd K hK => ?_) (fun v9 => ?_)
          · obtain rfl : v8 = _ := hd 8 (by kernel_rfl)
            go_simp
            exact hK _ _ hC (Below.refl _ _) rfl
          simp only [Act.put, List.setIfInBounds_toArray, List.set_cons_zero, List.set_cons_succ]
          refine relWalk_cons (fun x hC hd K hK => ?_) (fun v10 => ?_)
          · obtain rfl : v9 = _ := hd 9 (by kernel_rfl)
            have hcell := (hC.cell (p := ⟨b, _, none⟩) lb).trans p1
            go_simp
            exact hK _ _ hC (Below.refl _ _) rfl
          simp only [Act.put, List.setIfInBounds_toArray, List.set_cons_zero, List.set_cons_succ]
          refine relWalk_cons (fun x hC hd K hK => ?_) (fun v11 => ?_)
          · go_simp
            exact hK _ _ hC (Below.refl _ _) rfl
          simp only [Act.put, List.setIfInBounds_toArray, List.set_cons_zero, List.set_cons_succ]
          refine relWalk_cons (fun x hC hd K hK => ?_) (fun v12 => ?_)
          · obtain rfl : v10 = _ := hd 10 (by kernel_rfl)
            obtain rfl : v11 = _ := hd 11 (by kernel_rfl)
            go_simp
            exact hK _ _ hC (Below.refl _ _) rfl
          simp only [Act.put, List.setIfInBounds_toArray, List.set_cons_zero, List.set_cons_succ]
          refine relWalk_cons (fun x hC hd K hK => ?_) (fun v13 => ?_)
          · go_simp
            exact hK _ _ hC (Below.refl _ _) rfl
          simp only [Act.put, List.setIfInBounds_toArray, List.set_cons_zero, List.set_cons_succ]
          refine relWalk_cons (fun x hC hd K hK => ?_) (fun v14 => ?_)
          · go_simp
            exact hK _ _ hC (Below.refl _ _) rfl
          simp only [Act.put, List.setIfInBounds_toArray, List.set_cons_zero, List.set_cons_succ]
          refine relWalk_cons (fun x hC hd K hK => ?_) (fun v15 => ?_)
          · go_simp
            exact hK _ _ hC (Below.refl _ _) rfl
          simp only [Act.put, List.setIfInBounds_toArray, List.set_cons_zero, List.set_cons_succ]
          refine relWalk_cons (fun x hC hd K hK => ?_) (fun v16 => ?_)
          · obtain rfl : v14 = _ := hd 14 (by kernel_rfl)
            obtain rfl : v15 = _ := hd 15 (by kernel_rfl)
            go_simp
            exact hK _ _ hC (Below.refl _ _) rfl
          simp only [Act.put, List.setIfInBounds_toArray, List.set_cons_zero, List.set_cons_succ]
          refine relWalk_cons (fun x hC hd K hK => ?_) (fun v17 => ?_)
          · obtain rfl : v16 = _ := hd 16 (by kernel_rfl)
            go_simp
            exact hK _ _ hC (Below.refl _ _) rfl
          simp only [Act.put, List.setIfInBounds_toArray, List.set_cons_zero, List.set_cons_succ]
          refine relWalk_cons (fun x hC hd K hK => ?_) (fun v18 => ?_)
          · obtain rfl : v17 = _ := hd 17 (by kernel_rfl)
            have hcell := (hC.cell (p := ⟨b, _, none⟩) lb).trans p3
            go_simp
            exact hK _ _ hC (Below.refl _ _) rfl
          simp only [Act.put, List.setIfInBounds_toArray, List.set_cons_zero, List.set_cons_succ]
          refine relWalk_cons (fun x hC hd K hK => ?_) (fun v19 => ?_)
          · obtain rfl : v13 = _ := hd 13 (by kernel_rfl)
            obtain rfl : v18 = _ := hd 18 (by kernel_rfl)
            go_simp
            exact hK _ _ hC (Below.refl _ _) rfl
          simp only [Act.put, List.setIfInBounds_toArray, List.set_cons_zero, List.set_cons_succ]
          refine relWalk_cons (fun x hC hd K hK => ?_) (fun v20 => ?_)
          · go_simp
            exact hK _ _ hC (Below.refl _ _) rfl
          simp only [Act.put, List.setIfInBounds_toArray, List.set_cons_zero, List.set_cons_succ]
          refine relWalk_cons (fun x hC hd K hK => ?_) (fun v21 => ?_)
          · obtain rfl : v19 = _ := hd 19 (by kernel_rfl)
            obtain rfl : v20 = _ := hd 20 (by kernel_rfl)
            go_simp
            exact hK _ _ hC (Below.refl _ _) rfl
          simp only [Act.put, List.setIfInBounds_toArray, List.set_cons_zero, List.set_cons_succ]
          refine relWalk_cons (fun x hC hd K hK => ?_) (fun v22 => ?_)
          · obtain rfl : v5 = _ := hd 5 (by kernel_rfl)
            obtain rfl : v12 = _ := hd 12 (by kernel_rfl)
            obtain rfl : v21 = _ := hd 21 (by kernel_rfl)
            go_simp
            exact hK _ _ hC (Below.refl _ _) rfl
          simp only [Act.put, List.setIfInBounds_toArray, List.set_cons_zero, List.set_cons_succ]
          refine relWalk_cons (fun x hC hd K hK => ?_) (fun v23 => ?_)
          · obtain rfl : v22 = _ := hd 22 (by kernel_rfl)
            go_simp
            exact hK _ _ (bl_alloc hC _) ((Below.refl _ _).alloc (Nat.le_refl _) _) ⟨_, rfl, heap_alloc_new _ _⟩
          simp only [Act.put, List.setIfInBounds_toArray, List.set_cons_zero, List.set_cons_succ]
          refine relWalk_nil ?_
          intro x hC hG
          obtain rfl : v0 = _ := hG 0 (by omega)
          obtain ⟨g, e23, h23⟩ := hG 23 (by omega)
          obtain rfl : v23 = _ := e23
          have HR2 := Lib.hid (HR.out.step hC)
          have hW2 := bl_step HW.out hC
          have HW2 := Lib.hid hW2
          have Hown2 := Lib.hid (own_step Hown.out hC)
          clear hG hC HR HW Hown p0 p1 p2 p3 w1 w2 w3
          go_wp2_with (at_builtin; go_loud (refine wpList_append_lies _ rfl (.tmp 27) (.tmp 50) 39 rfl w.heap.size 59 i0 _ 3 24 Try.underlying39 hi hz0 hz1 hz2 rfl (by omega) _ acc2.length (sgs acc2) rfl Hown2.out ⟨g, 0, none⟩ 1 1 [.int .i64 d, .int .i64 (t + (k : Int)), .int .i64 (fr + f + (k : Int))] rfl rfl (World.news_of_block h23) (by simp [Value.oneCell']) (by omega) (by unfold maxLen; omega) (by omega) HW2.out.size _ rfl ?_); intro gg cap4 w4 hown4 hg4 hat4 hlt4)
          go_roundw
          case rel =>
            have hW4 := HW2.out.grown hg4 HW2.out.size (fun q hq => (Hown2.out.lt q hq).1)
            exact ⟨k + 1, by omega, by go_num, by rw [Hsn.out]; exact own_sg hown4, H0.out.step hW4, hW4⟩
          case measure => simp [intOf]; omega
        · go_wp2
          go_roundw
          case rel =>
            obtain rfl : k = ct.toNat := by omega
            exact ⟨i + 1, by omega, by go_num, by rw [Ht.out]; exact Hown.out, HR.out, HW.out⟩
          case measure => simp [intOf]; omega
    · obtain rfl : i = l.length := by omega
      rw [List.take_length] at Hown
      go_wp2
      go_ret
      exact ⟨_, rfl, Hown.out, HW.out⟩

/-- A slice of places lies in memory. -/
def ScA (w : World) (v : Value) (l : List Seg) : Prop := ∃ A cap, v = .slice A l.length cap ∧ l.length ≤ maxLen ∧ PA w A l
theorem ScA.of_own {w : World} {base : Nat} {v : Value} {l : List Seg} {t : TypeId} (h : w.ownsRow base t 3 v l.length (sgs l)) (hm : l.length ≤ maxLen) : ScA w v l := by
  rcases Nat.eq_zero_or_pos l.length with h0 | h0
  · rcases h.2 with ⟨h1, _⟩ | ⟨g, cap, cur, h1, _⟩
    · exact ⟨none, 0, by rw [h1, h0], hm, .inl (List.eq_nil_of_length_eq_zero h0)⟩
    · exact ⟨_, cap, h1, hm, .inl (List.eq_nil_of_length_eq_zero h0)⟩
  · obtain ⟨g, cap, hv, _, hlt⟩ := h.form h0
    subst hv
    exact ⟨_, cap, rfl, hm, PA.of_own h⟩

set_option maxHeartbeats 1000000 in
theorem same_w (va vb : Value) (l : List Seg) (w : World) (ha : ScA w va l) (hb : ScA w vb l) : Calls Try.prog 16 #[va, vb] w (RetB true w) := by
  obtain ⟨A, ca, rfl, hm, hA⟩ := ha
  obtain ⟨B, cb, rfl, _, hB⟩ := hb
  unfold maxLen at hm
  have HA := Lib.hid hA
  have HB := Lib.hid hB
  clear hA hB
  go_enter Try.func16, Try.ntmps16
  go_wp2
  go_loopw [5] (fun s5 wx => ∃ k : Nat, k ≤ l.length ∧ s5 = .int .i64 k ∧ PA wx A l ∧ PA wx B l ∧ Below w.heap.size w wx) (fun s5 _ => l.length - (intOf s5).toNat)
  case atStart => exact ⟨0, by omega, rfl, HA.out, HB.out, Below.refl _ _⟩
  case round =>
    clear HA HB
    obtain ⟨k, hk, rfl, hA, hB, hW⟩ := hrel
    have HA := Lib.hid hA
    have HB := Lib.hid hB
    clear hA hB
    by_cases hlt : k < l.length
    · obtain ⟨b, o, d, s, c, rfl, lb, he, a0, a1, a2⟩ := HA.out.at_ hlt
      obtain ⟨b', o', d', s', c', rfl, lb', he', b0, b1, b2⟩ := HB.out.at_ hlt
      rw [he] at he'
      simp only [Option.some.injEq, Prod.mk.injEq] at he'
      obtain ⟨rfl, rfl, rfl⟩ := he'
      have z0 : (0 : Int) ≤ (k : Int) := by omega
      have z1 : (k : Int) < (l.length : Int) := by omega
      clear he
      go_upto_region 6 with fail
      go_quiet (fail)
      go_wp2
      go_roundw
      case rel => exact ⟨k + 1, by omega, by go_num, HA.out.drewN _, HB.out.drewN _, below_drewN hW _⟩
      case measure => simp [intOf]; omega
    · obtain rfl : k = l.length := by omega
      go_wp2
      go_ret
      exact ⟨rfl, hW⟩

end Go.Proofs.Ytdeggdbaeeamiaa
