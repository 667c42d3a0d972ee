/-
  The law RadixMarks, by contracts.
-/
import Derived.Test.YtpoagdffpajdjaaRadMk
import Derived.Test.YtpoagdffpajdjaaRelG
import Derived.Deep.CutRange
namespace Go.Proofs.Ytpoagdffpajdjaa
open Go.RowKit
set_option linter.unusedVariables false
set_option linter.unusedSimpArgs false

def kb22 : Nat → Option Bool
  | 8 => some true
  | 19 => some false
  | _ => none
theorem EA.cells {w : World} {S : Nat → Prop} {f o n ce i : Nat} {es : List En} {d s c : Int} (h : EA w S (.slice (some ⟨f, o, none⟩) n ce) es) (hi : es[i]? = some (d, s, c)) :
    f < w.heap.size ∧ w.cell? ⟨f, o + i * 3, none⟩ = some (.int .i64 d) ∧ w.cell? ⟨f, o + i * 3 + 1, none⟩ = some (.int .i64 s) ∧ w.cell? ⟨f, o + i * 3 + 2, none⟩ = some (.int .i64 c) := by
  obtain ⟨A, cap, e, _, _, h⟩ := h
  injection e with e1 e2 e3
  subst e1
  rcases h with h | ⟨b, o', e, hb, _, hc⟩
  · rw [h] at hi; simp at hi
  · injection e with e
    injection e with e4 e5
    subst e4 e5
    exact ⟨hb, hc i d s c hi⟩
theorem EA.gb {w w' : World} {b : Nat} {v : Value} {l : List En} (h : EA w (fun z => b < z) v l) (hg : w.grownBy w' (some b)) : EA w' (fun z => b < z) v l := h.kept hg.size fun z hz hlt => hg.block z hlt (by simp; omega)
set_option maxRecDepth 100000 in
set_option maxHeartbeats 1000000 in
theorem radixMarks_walk (a0 : Option Addr) (len0 cap0 : Nat) (z0 : List Int) (a1 : Option Addr) (len1 cap1 : Nat) (z1 : List Int) (w : World) (w0 : IsRow .i64 w a0 len0 cap0 z0) (w1 : IsRow .i64 w a1 len1 cap1 z1) :
    Calls Try.prog 7 #[.slice a0 len0 cap0, .slice a1 len1 cap1] w fun e w' => e = .returned (.bool true) ∧ Below w.heap.size w w' := by
  have HT := Lib.hid (Tp.start w0)
  have HR1 := Lib.hid w1
  clear w0 w1
  go_enter Try.func7, Try.ntmps7
  go_upto_region 1 with fail
  go_cut [5] (fun s5 wx => ∃ (Z h : Nat) (c : Cn), s5 = .pointer (some ⟨Z, 0, none⟩) ∧ leafy c ∧ TreeOk h c ∧ TR wx Any Z h (cano h c) ∧ Below w.heap.size w wx)
  case first =>
    go_wp2_with (go_at_call 27; go_must (refine (tree_t w _ _ HT.out).mono ?_); rintro e w1 ⟨h, c, A, cap, rfl, hlf, hok, hcap, hk, hT1⟩)
    go_meet
    case rel => exact ⟨_, h, c, rfl, hlf, hok, TR.new (cano_ml _ _) hcap (hk.weak fun _ _ _ => trivial), bl_alloc hT1.2.1 _⟩
  case rest =>
    clear HT
    obtain ⟨Z, h, c, rfl, hlf, hok, hT, hB⟩ := hcut
    have HTp := Lib.hid (Tp.start (row_step HR1.out hB))
    have HLF := Lib.hid hlf
    have HOK := Lib.hid hok
    have HB := Lib.hid hB
    obtain ⟨b, hb⟩ : ∃ b, b = wc.heap.size := ⟨_, rfl⟩
    have hpt : (⟨wc.heap.size, 0, none⟩ : Addr) = ⟨b, 0, none⟩ := by rw [hb]
    have hZb : Z < b := by rw [hb]; exact hT.lt
    have HT := Lib.hid ((hT.weak (S' := fun z => z ≠ b) fun z hz _ => by omega).alloc (.cells #[.slice a1 len1 cap1, .int .i64 0] 32))
    obtain ⟨W, hW⟩ : ∃ W : World, W = wc := ⟨_, rfl⟩
    subst hW
    obtain ⟨A, cap, hX, hm, hcap, hk⟩ := HT.out
    have hbeh := Beh.good hlf hok hcap hk
    have HEN := Lib.hid hbeh.en
    have hlen := hbeh.len
    have hent := fun e he => ent_of (e := e) hlf hok he
    generalize hes : ents 0 (4 ^ h) c = es at HEN hlen hent
    have HENT := Lib.hid hent
    have HX := Lib.hid hX
    clear hT hlf hok hB HR1 hbeh hent hes hX hk hm hcap
    go_upto_region 3 with fail
    have x0 := cells_at HX.out 0; have x1 := cells_at HX.out 1; have x2 := cells_at HX.out 2; have x3 := cells_at HX.out 3; simp only [List.getElem?_toArray, List.getElem?_cons_zero, List.getElem?_cons_succ] at x0 x1 x2 x3
    go_cut [6, 7] (fun s6 s7 wx => s6 = .pointer (some ⟨b, 0, none⟩) ∧ EA wx (fun z => b < z) s7 es ∧ TR wx (fun z => z ≠ b) Z h (cano h c) ∧ Tp W b wx)
    case first =>
      go_wp2_with (go_at_call 24; go_must (refine (HEN.out _ (Below.refl _ _)).mono ?_); rintro e w2 ⟨u, rfl, hown, hb2⟩)
      go_meet
      case rel => exact ⟨by rw [hb], EA.of_own hown fun z hz => by have := (hown.lt z hz).1; simp at this; omega, HT.out.step hb2, by rw [hb]; exact HTp.out.step hb2⟩
    case rest =>
      clear HT HX HEN x0 x1 x2 x3 HTp hpt
      obtain ⟨rfl, hE, hT, hTp⟩ := hcut
      clear hb
      obtain ⟨E, ce, he7, e1, e2, hE'⟩ := hE
      subst he7
      have HE := Lib.hid (show EA wc (fun z => b < z) (.slice E es.length ce) es from ⟨E, ce, rfl, e1, e2, hE'⟩)
      by_cases hl0 : es.length = 0
      · have HTp := Lib.hid hTp
        clear hTp hE' hT
        go_wp2_with (go_at_call 26; (with_reducible refine Calls.mono (awake_w _) ?_); rintro e w9 ⟨rfl, hb9⟩)
        go_ret
        exact ⟨rfl, bl_step HB.out (bl_step HTp.out.2.1 hb9)⟩
      · obtain ⟨f, o, rfl, hfl, hbf, hce⟩ : ∃ f o, E = some ⟨f, o, none⟩ ∧ f < wc.heap.size ∧ b < f ∧ ∀ i d s c, es[i]? = some (d, s, c) → wc.cell? ⟨f, o + i * 3, none⟩ = some (.int .i64 d) ∧ wc.cell? ⟨f, o + i * 3 + 1, none⟩ = some (.int .i64 s) ∧ wc.cell? ⟨f, o + i * 3 + 2, none⟩ = some (.int .i64 c) := by
          rcases hE' with h0 | h0
          · rw [h0] at hl0; exact absurd rfl hl0
          · exact h0
        have HCE := Lib.hid hce
        have HT := Lib.hid hT
        have HTp := Lib.hid hTp
        have k0 : (0 : Int) < (es.length : Int) := by omega
        have hl1 : ¬ ((es.length : Int) = 0) := by omega
        clear hE' hce hT hTp
        go_upto_region 6 with fail
        go_cut [8] (fun s8 wx => ∃ (X i : Nat) (d s q : Int), s8 = .pointer (some ⟨X, 0, none⟩) ∧ b < X ∧ es[i]? = some (d, s, q) ∧ wx.heap[X]? = some (.cells #[.int .i64 d, .int .i64 s, .int .i64 q] 48 (0, 0)) ∧ EA wx (fun z => b < z) (.slice (some ⟨f, o, none⟩) es.length ce) es ∧ TR wx (fun z => z ≠ b) Z h (cano h c) ∧ Tp W b wx)
        case first =>
          have hnx := next_t (es.length : Int) W wc b (by omega) (by omega) HTp.out
          go_wp2_with (go_at_call 12; go_must (with_reducible refine Calls.mono hnx ?_); rintro e w2 ⟨x, rfl, h0, h1, hT2, hg⟩; obtain ⟨i, rfl⟩ := Int.eq_ofNat_of_zero_le h0; have hi : i < es.length := (by omega); obtain ⟨⟨d, s, q⟩, hx⟩ : ∃ x, es[i]? = some x := ⟨_, List.getElem?_eq_getElem hi⟩; obtain ⟨p0, p1, p2⟩ := HCE.out i d s q hx; have p0 := hg.cell p0 (by simp; omega); have p1 := hg.cell p1 (by simp; omega); have p2 := hg.cell p2 (by simp; omega); have HX := Lib.hid hx; have HT2 := Lib.hid hT2; have HG := Lib.hid hg; clear hx hT2 hg)
          go_meet
          case rel =>
            have hb2 := HT2.out.lt
            refine ⟨w2.heap.size, i, d, s, q, rfl, hb2, HX.out, heap_alloc_new _ _, (HE.out.gb HG.out).step (bl_alloc (Below.refl _ _) _), (HT.out.kept HG.out.size fun z hz hlt => HG.out.block z hlt (by rcases hz with hz | rfl <;> simp <;> omega)).alloc _, HT2.out.alloc _⟩
        case rest =>
          clear HT HTp HE HCE k0
          obtain ⟨X, i, d, s, q, rfl, hbX, hx, hX, hE, hT, hTp⟩ := hcut
          have HT := Lib.hid hT
          have HTp := Lib.hid hTp
          have HE := Lib.hid hE
          have HXX := Lib.hid hX
          clear hX hE hT hTp
          go_upto_region 7 with fail
          go_cut [9] (fun s9 wx => ∃ mark : Int, s9 = .int .i64 mark ∧ oneB mark = true ∧ wx.heap[X]? = some (.cells #[.int .i64 d, .int .i64 s, .int .i64 q] 48 (0, 0)) ∧ EA wx (fun z => b < z) (.slice (some ⟨f, o, none⟩) es.length ce) es ∧ TR wx (fun z => z ≠ b) Z h (cano h c) ∧ Below w.heap.size w wx)
          case first =>
            go_wp2_with (go_at_call 12; go_must (refine (next_t _ W _ b (by omega) (by omega) HTp.out).mono ?_); rintro e w2 ⟨x, rfl, h0, h1, hT2, hg⟩; have HT2 := Lib.hid hT2; have HG := Lib.hid hg; clear hT2 hg)
            have hx3 : x = 0 ∨ x = 1 ∨ x = 2 := by omega
            clear h0 h1
            rcases hx3 with rfl | rfl | rfl
            all_goals
              go_wp2
              go_meet
              exact ⟨_, rfl, by decide +kernel, (HG.out.block X (bk_lt HXX.out) (by simp; omega)).trans HXX.out, HE.out.gb HG.out, HT.out.kept HG.out.size fun z hz hlt => HG.out.block z hlt (by rcases hz with hz | rfl <;> simp <;> omega), bl_step HB.out HT2.out.2.1⟩
          case rest =>
            clear HT HTp HE HXX HB
            obtain ⟨mark, rfl, hmk, hX, hE, hT, hB⟩ := hcut
            have HE := Lib.hid hE
            have HXX := Lib.hid hX
            have HB := Lib.hid hB
            have HMK := Lib.hid hmk
            obtain ⟨jn, hj, hjl, hv0, hm7, hsq⟩ := HENT.out _ (List.mem_of_getElem? hx)
            simp only [Prod.mk.injEq] at hj
            obtain ⟨rfl, rfl, rfl⟩ := hj
            obtain ⟨A, cap, hZ, hm, hcap, hk⟩ := hT
            have hmw := fun w' (hb : Below wc.heap.size wc w') => mrk_w h c A cap Any jn mark w' HLF.out HOK.out hcap ((hk.weak fun _ _ _ => trivial).step hb) (fun _ _ => trivial)
            clear hX hE hB hmk hk hm hcap
            obtain ⟨U, hU⟩ : ∃ U : World, U = wc := ⟨_, rfl⟩
            subst hU
            have x0 := cells_at hZ 0; have x1 := cells_at hZ 1; have x2 := cells_at hZ 2; have x3 := cells_at hZ 3; simp only [List.getElem?_toArray, List.getElem?_cons_zero, List.getElem?_cons_succ] at x0 x1 x2 x3
            have y0 := cells_at HXX.out 0; have y1 := cells_at HXX.out 1; have y2 := cells_at HXX.out 2; simp only [List.getElem?_toArray, List.getElem?_cons_zero, List.getElem?_cons_succ] at y0 y1 y2
            clear hZ
            by_cases hneg : (c jn).1 < 0
            · rw [mark_neg hjl HMK.out hneg] at hmw
              have hsm := fun A' cap' w' hk' => same_w 0 zeroC A' none cap' 0 w' (Nat.zero_le _) (Nat.zero_le _) hk' (.nil _)
              go_wp2_with (first
                | (go_at_call 32; (with_reducible refine Calls.mono (hmw _ (Below.refl _ _)) ?_); rintro e w2 ⟨h', A', cap', rfl, ht', hc', hk', hb2⟩; obtain rfl := ht'.uniq TreeOk.zero; clear y0 y1 y2 x0 x1 x2 x3; have lX2 := bk_lt (bk_step HXX.out hb2); have y0 := cells_at (bk_step HXX.out hb2) 0; have y1 := cells_at (bk_step HXX.out hb2) 1; have y2 := cells_at (bk_step HXX.out hb2) 2; simp only [List.getElem?_toArray, List.getElem?_cons_zero, List.getElem?_cons_succ] at y0 y1 y2)
                | (go_at_call 36; go_must (refine Calls.mono (hsm A' cap' _ (hk'.alloc _)) ?_); rintro e w3 ⟨rfl, hb3⟩)
                | (go_at_call 26; (with_reducible refine Calls.mono (awake_w _) ?_); rintro e w9 ⟨rfl, hb9⟩))
              go_ret
              exact ⟨rfl, bl_step HB.out (bl_step (bl_step (bl_alloc hb2 _) hb3) hb9)⟩
            · have hpos : 0 < (c jn).1 := by omega
              obtain ⟨ca, cb, cc, em, eu, e5, lca, lcb, lcc, ma, mb, mc, hoth⟩ := marks_of HLF.out hjl HMK.out hpos hm7
              rw [em] at hmw
              have HOTH := Lib.hid hoth
              have HMA := Lib.hid (And.intro ma (And.intro mb mc))
              have HLA := Lib.hid (And.intro lca (And.intro lcb lcc))
              have HEU := Lib.hid eu
              have HE5 := Lib.hid e5
              clear em eu e5 ma mb mc hoth lca lcb lcc
              go_upto_region 8 with fail
              go_cut [10, 11] (fun sp sq wx => ∃ (B h' : Nat), sp = .pointer (some ⟨B, 0, none⟩) ∧ sq = .int .i64 0 ∧ TreeOk h' ca ∧ TR wx Any B h' (cano h' ca) ∧ Below U.heap.size U wx)
              case first =>
                go_wp2_with (go_at_call 32; (with_reducible refine Calls.mono (hmw _ (Below.refl _ _)) ?_); rintro e w2 ⟨h', A', cap', rfl, ht', hc', hk', hb2⟩)
                go_meet
                case rel => exact ⟨_, h', rfl, rfl, ht', TR.new (cano_ml _ _) hc' hk', bl_alloc hb2 _⟩
              case rest =>
                clear hmw x0 x1 x2 x3 y0 y1 y2
                obtain ⟨B1, h1, rfl, rfl, ok1, hT1, hb1⟩ := hcut
                have HE1 := Lib.hid (HE.out.step hb1)
                have HX1 := Lib.hid (bk_step HXX.out hb1)
                have HB1 := Lib.hid (bl_step HB.out hb1)
                clear HE HXX HB hb1
                have HT1 := Lib.hid hT1
                obtain ⟨A1, d1, g1, m1, l1, k1⟩ := hT1
                have hun := fun w' (hb : Below wc.heap.size wc w') => unmrk_w h1 ca A1 d1 Any jn mark w' HLA.out.1 ok1 l1 (k1.step hb) (fun _ _ => trivial)
                rw [HEU.out] at hun
                obtain ⟨V, hV⟩ : ∃ V : World, V = wc := ⟨_, rfl⟩
                subst hV
                have x0 := cells_at g1 0; have x1 := cells_at g1 1; have x2 := cells_at g1 2; have x3 := cells_at g1 3; simp only [List.getElem?_toArray, List.getElem?_cons_zero, List.getElem?_cons_succ] at x0 x1 x2 x3
                have y0 := cells_at HX1.out 0; have y1 := cells_at HX1.out 1; have y2 := cells_at HX1.out 2; simp only [List.getElem?_toArray, List.getElem?_cons_zero, List.getElem?_cons_succ] at y0 y1 y2
                clear g1 k1 m1
                go_upto_region 11 with fail
                go_cut [12, 13] (fun sp sq wx => ∃ (B h' : Nat), sp = .pointer (some ⟨B, 0, none⟩) ∧ sq = .int .i64 0 ∧ TreeOk h' cb ∧ TR wx Any B h' (cano h' cb) ∧ Below V.heap.size V wx)
                case first =>
                  go_wp2_with (go_at_call 34; (with_reducible refine Calls.mono (hun _ (Below.refl _ _)) ?_); rintro e w2 ⟨h', A', cap', rfl, ht', hc', hk', hb2⟩)
                  go_meet
                  case rel => exact ⟨_, h', rfl, rfl, ht', TR.new (cano_ml _ _) hc' hk', bl_alloc hb2 _⟩
                case rest =>
                  clear hun x0 x1 x2 x3 y0 y1 y2
                  obtain ⟨B2, h2, rfl, rfl, ok2, hT2, hb1⟩ := hcut
                  have HE := Lib.hid (HE1.out.step hb1)
                  have HXX := Lib.hid (bk_step HX1.out hb1)
                  have HB := Lib.hid (bl_step HB1.out hb1)
                  have HTa := Lib.hid (HT1.out.step hb1)
                  have HT2 := Lib.hid hT2
                  clear HE1 HX1 HB1 HT1 hb1 hT2
                  obtain ⟨A1, d1, g1, m1, l1, k1⟩ := HTa.out
                  have hst := fun w' (hb : Below wc.heap.size wc w') => set_w h1 ca A1 d1 Any jn 5 w' HLA.out.1 ok1 l1 (k1.step hb) (fun _ _ => trivial)
                  rw [HE5.out] at hst
                  obtain ⟨V, hV⟩ : ∃ V : World, V = wc := ⟨_, rfl⟩
                  subst hV
                  have x0 := cells_at g1 0; have x1 := cells_at g1 1; have x2 := cells_at g1 2; have x3 := cells_at g1 3; simp only [List.getElem?_toArray, List.getElem?_cons_zero, List.getElem?_cons_succ] at x0 x1 x2 x3
                  have y0 := cells_at HXX.out 0; have y1 := cells_at HXX.out 1; have y2 := cells_at HXX.out 2; simp only [List.getElem?_toArray, List.getElem?_cons_zero, List.getElem?_cons_succ] at y0 y1 y2
                  clear g1 k1 m1
                  go_upto_region 12 with fail
                  go_cut [14, 15] (fun sp sq wx => ∃ (B h' : Nat), sp = .pointer (some ⟨B, 0, none⟩) ∧ sq = .int .i64 0 ∧ TreeOk h' cc ∧ TR wx Any B h' (cano h' cc) ∧ Below V.heap.size V wx)
                  case first =>
                    go_wp2_with (go_at_call 30; (with_reducible refine Calls.mono (hst _ (Below.refl _ _)) ?_); rintro e w2 ⟨h', A', cap', rfl, ht', hc', hk', hb2⟩)
                    go_meet
                    case rel => exact ⟨_, h', rfl, rfl, ht', TR.new (cano_ml _ _) hc' hk', bl_alloc hb2 _⟩
                  case rest =>
                    clear hst x0 x1 x2 x3 y0 y1 y2
                    obtain ⟨B3, h3, rfl, rfl, ok3, hT3, hb1⟩ := hcut
                    have HE1 := Lib.hid (HE.out.step hb1)
                    have HX1 := Lib.hid (bk_step HXX.out hb1)
                    have HB1 := Lib.hid (bl_step HB.out hb1)
                    have HTb := Lib.hid (HTa.out.step hb1)
                    have HTc := Lib.hid (HT2.out.step hb1)
                    have HT3 := Lib.hid hT3
                    clear HE HXX HB HTa HT2 hb1 hT3
                    obtain ⟨V, hV⟩ : ∃ V : World, V = wc := ⟨_, rfl⟩
                    subst hV
                    obtain ⟨A1, d1, g1, m1, l1, k1⟩ := HTb.out
                    obtain ⟨A2, d2, g2, m2, l2, k2⟩ := HTc.out
                    obtain ⟨A3, d3, g3, m3, l3, k3⟩ := HT3.out
                    have hm1 := fun i q w' (hb : Below V.heap.size V w') => marked_w h1 ca A1 d1 Any i q w' HLA.out.1 ok1 l1 (k1.step hb)
                    have hm2 := fun i q w' (hb : Below V.heap.size V w') => marked_w h2 cb A2 d2 Any i q w' HLA.out.2.1 ok2 l2 (k2.step hb)
                    have hm3 := fun i q w' (hb : Below V.heap.size V w') => marked_w h3 cc A3 d3 Any i q w' HLA.out.2.2 ok3 l3 (k3.step hb)
                    have ha1 := hm1 jn mark
                    have ha2 := hm2 jn mark
                    have ha3 := hm3 jn mark
                    rw [HMA.out.1] at ha1
                    rw [HMA.out.2.1] at ha2
                    rw [HMA.out.2.2] at ha3
                    have HM1 := Lib.hid hm1
                    have HM3 := Lib.hid hm3
                    have G1 := Lib.hid g1
                    have G2 := Lib.hid g2
                    have G3 := Lib.hid g3
                    have x0 := cells_at g1 0; have x1 := cells_at g1 1; have x2 := cells_at g1 2; have x3 := cells_at g1 3; simp only [List.getElem?_toArray, List.getElem?_cons_zero, List.getElem?_cons_succ] at x0 x1 x2 x3
                    have y0 := cells_at HX1.out 0; have y1 := cells_at HX1.out 1; have y2 := cells_at HX1.out 2; simp only [List.getElem?_toArray, List.getElem?_cons_zero, List.getElem?_cons_succ] at y0 y1 y2
                    clear hm1 hm2 hm3 k1 k2 k3 g1 g2 g3 HTb HTc HT3
                    go_upto_region 13 with fail
                    go_cut [109] (fun s wx => s = .bool false ∧ Below V.heap.size V wx)
                    case first =>
                      go_wp2_with (first
                        | (go_at_call 19; (with_reducible refine Calls.mono (ha1 _ (Below.refl _ _)) ?_); rintro e w3 ⟨rfl, hb3⟩; clear x0 x1 x2 x3 y0 y1 y2; have x0 := cells_at (bk_step G2.out hb3) 0; have x1 := cells_at (bk_step G2.out hb3) 1; have x2 := cells_at (bk_step G2.out hb3) 2; have x3 := cells_at (bk_step G2.out hb3) 3; simp only [List.getElem?_toArray, List.getElem?_cons_zero, List.getElem?_cons_succ] at x0 x1 x2 x3; have y0 := cells_at (bk_step HX1.out hb3) 0; have y1 := cells_at (bk_step HX1.out hb3) 1; have y2 := cells_at (bk_step HX1.out hb3) 2; simp only [List.getElem?_toArray, List.getElem?_cons_zero, List.getElem?_cons_succ] at y0 y1 y2)
                        | (go_at_call 19; (with_reducible refine Calls.mono (ha2 _ hb3) ?_); rintro e w4 ⟨rfl, hb4⟩; clear x0 x1 x2 x3 y0 y1 y2; have x0 := cells_at (bk_step G3.out (bl_step hb3 hb4)) 0; have x1 := cells_at (bk_step G3.out (bl_step hb3 hb4)) 1; have x2 := cells_at (bk_step G3.out (bl_step hb3 hb4)) 2; have x3 := cells_at (bk_step G3.out (bl_step hb3 hb4)) 3; simp only [List.getElem?_toArray, List.getElem?_cons_zero, List.getElem?_cons_succ] at x0 x1 x2 x3; have y0 := cells_at (bk_step HX1.out (bl_step hb3 hb4)) 0; have y1 := cells_at (bk_step HX1.out (bl_step hb3 hb4)) 1; have y2 := cells_at (bk_step HX1.out (bl_step hb3 hb4)) 2; simp only [List.getElem?_toArray, List.getElem?_cons_zero, List.getElem?_cons_succ] at y0 y1 y2)
                        | (go_at_call 19; (with_reducible refine Calls.mono (ha3 _ (bl_step hb3 hb4)) ?_); rintro e w5 ⟨rfl, hb5⟩))
                      go_meet
                      case rel => exact ⟨rfl, bl_step (bl_step hb3 hb4) hb5⟩
                    case rest =>
                      clear ha1 ha2 ha3 x0 x1 x2 x3 y0 y1 y2
                      obtain ⟨rfl, hb1⟩ := hcut
                      have HBV := Lib.hid hb1
                      clear hb1
                      go_wp2
                      go_loopw [16] (fun s16 wx => ∃ i : Nat, s16 = .int .i64 i ∧ i ≤ es.length ∧ Below V.heap.size V wx) (fun s16 _ => es.length - (intOf s16).toNat)
                      case atStart => exact ⟨0, rfl, by omega, HBV.out⟩
                      case round =>
                        clear HBV
                        obtain ⟨n, rfl, hn, hB⟩ := hrel
                        have HBV := Lib.hid hB
                        clear hB
                        by_cases hlt : n < es.length
                        · obtain ⟨⟨d2, s2, q2⟩, hx2⟩ : ∃ x, es[n]? = some x := ⟨_, List.getElem?_eq_getElem hlt⟩
                          obtain ⟨j2, hj2, hjl2, _, hm72, _⟩ := HENT.out _ (List.mem_of_getElem? hx2)
                          simp only [Prod.mk.injEq] at hj2
                          obtain ⟨rfl, rfl, rfl⟩ := hj2
                          have HX2 := Lib.hid hx2
                          have n0 : (0 : Int) ≤ (n : Int) := by omega
                          have n1 : (n : Int) < (es.length : Int) := by omega
                          clear hx2 hm72
                          go_wp2
                          go_loopw [17] (fun s17 wx => ∃ k : Int, s17 = .int .i64 k ∧ (k = 1 ∨ k = 2 ∨ k = 4 ∨ k = 8) ∧ Below V.heap.size V wx) (fun s17 _ => 9 - (intOf s17).toNat)
                          case atStart => exact ⟨1, rfl, .inl rfl, HBV.out⟩
                          case round =>
                            clear HBV
                            obtain ⟨k, rfl, hk, hB⟩ := hrel
                            have HBV := Lib.hid hB
                            clear hB
                            by_cases hk8 : k = 8
                            · subst hk8
                              clear hk
                              go_wp2
                              go_roundw
                              case rel => exact ⟨n + 1, by go_num, by omega, HBV.out⟩
                              case measure => simp [intOf]; omega
                            · have hk1 : oneB k = true := by unfold oneB; simp; omega
                              have hk4 : k ≤ 4 := by omega
                              have HK := Lib.hid hk
                              obtain ⟨hf, p0, p1, p2⟩ := (HE1.out.step HBV.out).cells HX2.out
                              clear hk
                              go_upto_region 21 with fail
                              go_cut [18] (fun s18 wx => s18 = .bool (bits .and .i64 (c j2).2 k != 0) ∧ wx = wr)
                              case first =>
                                go_wp2
                                go_meet
                                case rel => exact ⟨by first | rfl | simp [bne], rfl⟩
                              case rest =>
                                obtain ⟨rfl, rfl⟩ := hcut
                                obtain ⟨t, ht⟩ : ∃ t, t = (bits .and .i64 (c j2).2 k != 0) := ⟨_, rfl⟩
                                rw [← ht]
                                have lX := bk_lt (bk_step HX1.out HBV.out)
                                have y0 := cells_at (bk_step HX1.out HBV.out) 0; have y1 := cells_at (bk_step HX1.out HBV.out) 1; have y2 := cells_at (bk_step HX1.out HBV.out) 2; simp only [List.getElem?_toArray, List.getElem?_cons_zero, List.getElem?_cons_succ] at y0 y1 y2
                                clear p1 p2 y1 y2
                                have hk2 : -1000000 ≤ k * 2 ∧ k * 2 ≤ 1000000 := by have := HK.out; omega
                                have e1 := w64 hk2
                                by_cases hjj : j2 = jn
                                · subst hjj
                                  clear ht
                                  go_upto_region 22 with fail
                                  go_quiet (fail)
                                  go_wp2
                                  go_roundw
                                  case rel => exact ⟨k * 2, rfl, by have := HK.out; omega, below_drewN HBV.out _⟩
                                  case measure => have := HK.out; simp [intOf]; omega
                                · have c1 := fun w' (hb : Below wc.heap.size wc w') => HM1.out j2 k w' (bl_step HBV.out hb)
                                  have c3 := fun w' (hb : Below wc.heap.size wc w') => HM3.out j2 k w' (bl_step HBV.out hb)
                                  obtain ⟨o1, o2⟩ := HOTH.out j2 hjl2 hjj k hk1
                                  rw [o1] at c1
                                  rw [o2] at c3
                                  change ∀ w', Below wc.heap.size wc w' → Calls Try.prog _ _ w' (RetB (bits .and .i64 (c j2).2 k != 0) w') at c1
                                  change ∀ w', Below wc.heap.size wc w' → Calls Try.prog _ _ w' (RetB (bits .and .i64 (c j2).2 k != 0) w') at c3
                                  rw [← ht] at c1 c3
                                  clear ht o1 o2
                                  have hji : ¬ ((j2 : Int) = (jn : Int)) := by omega
                                  have gB1 := bk_step G1.out HBV.out
                                  have gB3 := bk_step G3.out HBV.out
                                  have lB1 := bk_lt gB1
                                  have lB3 := bk_lt gB3
                                  have x0 := cells_at gB1 0; have x1 := cells_at gB1 1; have x2 := cells_at gB1 2; have x3 := cells_at gB1 3; simp only [List.getElem?_toArray, List.getElem?_cons_zero, List.getElem?_cons_succ] at x0 x1 x2 x3
                                  have r0 := cells_at gB3 0; have r1 := cells_at gB3 1; have r2 := cells_at gB3 2; have r3 := cells_at gB3 3
                                  simp only [List.getElem?_toArray, List.getElem?_cons_zero, List.getElem?_cons_succ] at r0 r1 r2 r3
                                  clear gB1 gB3
                                  go_upto_region 22 with fail
                                  refine wp_region_sg 31 161 [SP.eq (.slice (some ⟨f, o, none⟩) es.length ce), SP.eq (.int .i64 n), SP.eq (.pointer (some ⟨f, o + n * 3, none⟩)), SP.eq (.pointer (some ⟨f, o + n * 3, none⟩)), SP.eq (.int .i64 j2), SP.eq (.pointer (some ⟨X, 0, none⟩)), SP.eq (.int .i64 jn), SP.eq (.bool true), SP.eq (.bool true), SP.eq (trV h1 A1 (cano h1 ca).kids.length d1 (cano h1 ca).val (cano h1 ca).marks), SP.eq (.slice (some ⟨f, o, none⟩) es.length ce), SP.eq (.int .i64 n), SP.eq (.pointer (some ⟨f, o + n * 3, none⟩)), SP.eq (.pointer (some ⟨f, o + n * 3, none⟩)), SP.eq (.int .i64 j2), SP.eq (.int .i64 k), SP.eq (.bool t), SP.eq (.bool t), SP.eq (.bool false), SP.eq (.bool false), SP.eq (trV h3 A3 (cano h3 cc).kids.length d3 (cano h3 cc).val (cano h3 cc).marks), SP.eq (.slice (some ⟨f, o, none⟩) es.length ce), SP.eq (.int .i64 n), SP.eq (.pointer (some ⟨f, o + n * 3, none⟩)), SP.eq (.pointer (some ⟨f, o + n * 3, none⟩)), SP.eq (.int .i64 j2), SP.eq (.int .i64 k), SP.eq (.bool t), SP.eq (.bool t), SP.eq (.bool false), SP.eq (.bool false)] kb22 (fun _ => false) (by kernel_rfl) (by kernel_rfl) (by kernel_rfl) rfl (fun k b h v w hv => by
                                      unfold kb22 at h
                                      split at h
                                      all_goals first | (cases h; exact hv) | cases h) ?_
                                  simp only [List.take_succ_cons, List.take_zero, List.drop_succ_cons, List.drop_zero]
                                  refine relWalkG_cons rfl (fun x hC hd K hK => ?_) (fun v0 => ?_)
                                  · go_simp
                                    exact hK _ _ hC (Below.refl _ _) rfl
                                  simp only [Act.put, List.setIfInBounds_toArray, List.set_cons_zero, List.set_cons_succ]
                                  refine relWalkG_cons rfl (fun x hC hd K hK => ?_) (fun v1 => ?_)
                                  · go_simp
                                    exact hK _ _ hC (Below.refl _ _) rfl
                                  simp only [Act.put, List.setIfInBounds_toArray, List.set_cons_zero, List.set_cons_succ]
                                  refine relWalkG_cons rfl (fun x hC hd K hK => ?_) (fun v2 => ?_)
                                  · obtain rfl : v0 = _ := hd 0 (by kernel_rfl)
                                    obtain rfl : v1 = _ := hd 1 (by kernel_rfl)
                                    go_simp
                                    exact hK _ _ hC (Below.refl _ _) (by simp [SP.eq, GS])
                                  simp only [Act.put, List.setIfInBounds_toArray, List.set_cons_zero, List.set_cons_succ]
                                  refine relWalkG_cons rfl (fun x hC hd K hK => ?_) (fun v3 => ?_)
                                  · obtain rfl : v2 = _ := hd 2 (by kernel_rfl)
                                    go_simp
                                    exact hK _ _ hC (Below.refl _ _) rfl
                                  simp only [Act.put, List.setIfInBounds_toArray, List.set_cons_zero, List.set_cons_succ]
                                  refine relWalkG_cons rfl (fun x hC hd K hK => ?_) (fun v4 => ?_)
                                  · obtain rfl : v3 = _ := hd 3 (by kernel_rfl)
                                    have u0 := (hC.cell (p := ⟨f, _, none⟩) hf).trans p0
                                    go_simp
                                    exact hK _ _ hC (Below.refl _ _) rfl
                                  simp only [Act.put, List.setIfInBounds_toArray, List.set_cons_zero, List.set_cons_succ]
                                  refine relWalkG_cons rfl (fun x hC hd K hK => ?_) (fun v5 => ?_)
                                  · go_simp
                                    exact hK _ _ hC (Below.refl _ _) rfl
                                  simp only [Act.put, List.setIfInBounds_toArray, List.set_cons_zero, List.set_cons_succ]
                                  refine relWalkG_cons rfl (fun x hC hd K hK => ?_) (fun v6 => ?_)
                                  · obtain rfl : v5 = _ := hd 5 (by kernel_rfl)
                                    have u0 := (hC.cell (p := ⟨X, _, none⟩) lX).trans y0
                                    go_simp
                                    exact hK _ _ hC (Below.refl _ _) rfl
                                  simp only [Act.put, List.setIfInBounds_toArray, List.set_cons_zero, List.set_cons_succ]
                                  refine relWalkG_cons rfl (fun x hC hd K hK => ?_) (fun v7 => ?_)
                                  · obtain rfl : v4 = _ := hd 4 (by kernel_rfl)
                                    obtain rfl : v6 = _ := hd 6 (by kernel_rfl)
                                    go_simp
                                    exact hK _ _ hC (Below.refl _ _) (by simp [SP.eq, GS]; exact hji)
                                  simp only [Act.put, List.setIfInBounds_toArray, List.set_cons_zero, List.set_cons_succ]
                                  refine relWalkG_cons rfl (fun x hC hd K hK => ?_) (fun v8 => ?_)
                                  · obtain rfl : v7 = _ := hd 7 (by kernel_rfl)
                                    go_simp
                                    exact hK _ _ hC (Below.refl _ _) rfl
                                  simp only [Act.put, List.setIfInBounds_toArray, List.set_cons_zero, List.set_cons_succ]
                                  refine relWalkG_cons rfl (fun x hC hd K hK => ?_) (fun v9 => ?_)
                                  · have u0 := (hC.cell (p := ⟨B1, _, none⟩) lB1).trans x0
                                    have u1 := (hC.cell (p := ⟨B1, _, none⟩) lB1).trans x1
                                    have u2 := (hC.cell (p := ⟨B1, _, none⟩) lB1).trans x2
                                    have u3 := (hC.cell (p := ⟨B1, _, none⟩) lB1).trans x3
                                    go_simp
                                    exact hK _ _ hC (Below.refl _ _) rfl
                                  simp only [Act.put, List.setIfInBounds_toArray, List.set_cons_zero, List.set_cons_succ]
                                  refine relWalkG_cons rfl (fun x hC hd K hK => ?_) (fun v10 => ?_)
                                  · go_simp
                                    exact hK _ _ hC (Below.refl _ _) rfl
                                  simp only [Act.put, List.setIfInBounds_toArray, List.set_cons_zero, List.set_cons_succ]
                                  refine relWalkG_cons rfl (fun x hC hd K hK => ?_) (fun v11 => ?_)
                                  · go_simp
                                    exact hK _ _ hC (Below.refl _ _) rfl
                                  simp only [Act.put, List.setIfInBounds_toArray, List.set_cons_zero, List.set_cons_succ]
                                  refine relWalkG_cons rfl (fun x hC hd K hK => ?_) (fun v12 => ?_)
                                  · obtain rfl : v10 = _ := hd 10 (by kernel_rfl)
                                    obtain rfl : v11 = _ := hd 11 (by kernel_rfl)
                                    go_simp
                                    exact hK _ _ hC (Below.refl _ _) (by simp [SP.eq, GS])
                                  simp only [Act.put, List.setIfInBounds_toArray, List.set_cons_zero, List.set_cons_succ]
                                  refine relWalkG_cons rfl (fun x hC hd K hK => ?_) (fun v13 => ?_)
                                  · obtain rfl : v12 = _ := hd 12 (by kernel_rfl)
                                    go_simp
                                    exact hK _ _ hC (Below.refl _ _) rfl
                                  simp only [Act.put, List.setIfInBounds_toArray, List.set_cons_zero, List.set_cons_succ]
                                  refine relWalkG_cons rfl (fun x hC hd K hK => ?_) (fun v14 => ?_)
                                  · obtain rfl : v13 = _ := hd 13 (by kernel_rfl)
                                    have u0 := (hC.cell (p := ⟨f, _, none⟩) hf).trans p0
                                    go_simp
                                    exact hK _ _ hC (Below.refl _ _) rfl
                                  simp only [Act.put, List.setIfInBounds_toArray, List.set_cons_zero, List.set_cons_succ]
                                  refine relWalkG_cons rfl (fun x hC hd K hK => ?_) (fun v15 => ?_)
                                  · go_simp
                                    exact hK _ _ hC (Below.refl _ _) rfl
                                  simp only [Act.put, List.setIfInBounds_toArray, List.set_cons_zero, List.set_cons_succ]
                                  refine relWalkG_cons rfl (fun x hC hd K hK => ?_) (fun v16 => ?_)
                                  · obtain rfl : v9 = _ := hd 9 (by kernel_rfl)
                                    obtain rfl : v14 = _ := hd 14 (by kernel_rfl)
                                    obtain rfl : v15 = _ := hd 15 (by kernel_rfl)
                                    go_simp
                                    go_at_call 19
                                    refine (c1 x hC).mono ?_
                                    rintro e w1 ⟨rfl, hb⟩; exact hK _ _ (bl_step hC hb) hb rfl
                                  simp only [Act.put, List.setIfInBounds_toArray, List.set_cons_zero, List.set_cons_succ]
                                  refine relWalkG_cons rfl (fun x hC hd K hK => ?_) (fun v17 => ?_)
                                  · go_simp
                                    exact hK _ _ hC (Below.refl _ _) rfl
                                  simp only [Act.put, List.setIfInBounds_toArray, List.set_cons_zero, List.set_cons_succ]
                                  refine relWalkG_cons rfl (fun x hC hd K hK => ?_) (fun v18 => ?_)
                                  · obtain rfl : v16 = _ := hd 16 (by kernel_rfl)
                                    obtain rfl : v17 = _ := hd 17 (by kernel_rfl)
                                    go_simp
                                    exact hK _ _ hC (Below.refl _ _) (by simp [SP.eq, GS])
                                  simp only [Act.put, List.setIfInBounds_toArray, List.set_cons_zero, List.set_cons_succ]
                                  refine relWalkG_cons rfl (fun x hC hd K hK => ?_) (fun v19 => ?_)
                                  · obtain rfl : v18 = _ := hd 18 (by kernel_rfl)
                                    go_simp
                                    exact hK _ _ hC (Below.refl _ _) rfl
                                  simp only [Act.put, List.setIfInBounds_toArray, List.set_cons_zero, List.set_cons_succ]
                                  refine relWalkG_cons rfl (fun x hC hd K hK => ?_) (fun v20 => ?_)
                                  · have u0 := (hC.cell (p := ⟨B3, _, none⟩) lB3).trans r0
                                    have u1 := (hC.cell (p := ⟨B3, _, none⟩) lB3).trans r1
                                    have u2 := (hC.cell (p := ⟨B3, _, none⟩) lB3).trans r2
                                    have u3 := (hC.cell (p := ⟨B3, _, none⟩) lB3).trans r3
                                    go_simp
                                    exact hK _ _ hC (Below.refl _ _) rfl
                                  simp only [Act.put, List.setIfInBounds_toArray, List.set_cons_zero, List.set_cons_succ]
                                  refine relWalkG_cons rfl (fun x hC hd K hK => ?_) (fun v21 => ?_)
                                  · go_simp
                                    exact hK _ _ hC (Below.refl _ _) rfl
                                  simp only [Act.put, List.setIfInBounds_toArray, List.set_cons_zero, List.set_cons_succ]
                                  refine relWalkG_cons rfl (fun x hC hd K hK => ?_) (fun v22 => ?_)
                                  · go_simp
                                    exact hK _ _ hC (Below.refl _ _) rfl
                                  simp only [Act.put, List.setIfInBounds_toArray, List.set_cons_zero, List.set_cons_succ]
                                  refine relWalkG_cons rfl (fun x hC hd K hK => ?_) (fun v23 => ?_)
                                  · obtain rfl : v21 = _ := hd 21 (by kernel_rfl)
                                    obtain rfl : v22 = _ := hd 22 (by kernel_rfl)
                                    go_simp
                                    exact hK _ _ hC (Below.refl _ _) (by simp [SP.eq, GS])
                                  simp only [Act.put, List.setIfInBounds_toArray, List.set_cons_zero, List.set_cons_succ]
                                  refine relWalkG_cons rfl (fun x hC hd K hK => ?_) (fun v24 => ?_)
                                  · obtain rfl : v23 = _ := hd 23 (by kernel_rfl)
                                    go_simp
                                    exact hK _ _ hC (Below.refl _ _) rfl
                                  simp only [Act.put, List.setIfInBounds_toArray, List.set_cons_zero, List.set_cons_succ]
                                  refine relWalkG_cons rfl (fun x hC hd K hK => ?_) (fun v25 => ?_)
                                  · obtain rfl : v24 = _ := hd 24 (by kernel_rfl)
                                    have u0 := (hC.cell (p := ⟨f, _, none⟩) hf).trans p0
                                    go_simp
                                    exact hK _ _ hC (Below.refl _ _) rfl
                                  simp only [Act.put, List.setIfInBounds_toArray, List.set_cons_zero, List.set_cons_succ]
                                  refine relWalkG_cons rfl (fun x hC hd K hK => ?_) (fun v26 => ?_)
                                  · go_simp
                                    exact hK _ _ hC (Below.refl _ _) rfl
                                  simp only [Act.put, List.setIfInBounds_toArray, List.set_cons_zero, List.set_cons_succ]
                                  refine relWalkG_cons rfl (fun x hC hd K hK => ?_) (fun v27 => ?_)
                                  · obtain rfl : v20 = _ := hd 20 (by kernel_rfl)
                                    obtain rfl : v25 = _ := hd 25 (by kernel_rfl)
                                    obtain rfl : v26 = _ := hd 26 (by kernel_rfl)
                                    go_simp
                                    go_at_call 19
                                    refine (c3 x hC).mono ?_
                                    rintro e w1 ⟨rfl, hb⟩; exact hK _ _ (bl_step hC hb) hb rfl
                                  simp only [Act.put, List.setIfInBounds_toArray, List.set_cons_zero, List.set_cons_succ]
                                  refine relWalkG_cons rfl (fun x hC hd K hK => ?_) (fun v28 => ?_)
                                  · go_simp
                                    exact hK _ _ hC (Below.refl _ _) rfl
                                  simp only [Act.put, List.setIfInBounds_toArray, List.set_cons_zero, List.set_cons_succ]
                                  refine relWalkG_cons rfl (fun x hC hd K hK => ?_) (fun v29 => ?_)
                                  · obtain rfl : v27 = _ := hd 27 (by kernel_rfl)
                                    obtain rfl : v28 = _ := hd 28 (by kernel_rfl)
                                    go_simp
                                    exact hK _ _ hC (Below.refl _ _) (by simp [SP.eq, GS])
                                  simp only [Act.put, List.setIfInBounds_toArray, List.set_cons_zero, List.set_cons_succ]
                                  refine relWalkG_cons rfl (fun x hC hd K hK => ?_) (fun v30 => ?_)
                                  · obtain rfl : v19 = _ := hd 19 (by kernel_rfl)
                                    obtain rfl : v29 = _ := hd 29 (by kernel_rfl)
                                    go_simp
                                    exact hK _ _ hC (Below.refl _ _) (by simp [SP.eq, GS])
                                  simp only [Act.put, List.setIfInBounds_toArray, List.set_cons_zero, List.set_cons_succ]
                                  refine relWalkG_nil ?_
                                  intro x' hC hG
                                  obtain rfl : v8 = _ := hG 8 (by omega)
                                  obtain rfl : v30 = _ := hG 30 (by omega)
                                  clear hG
                                  have HC2 := Lib.hid (bl_step HBV.out hC)
                                  go_wp2
                                  go_roundw
                                  case rel => exact ⟨k * 2, rfl, by have := HK.out; omega, HC2.out⟩
                                  case measure => have := HK.out; simp [intOf]; omega
                        · obtain rfl : n = es.length := by omega
                          go_wp2_with (go_at_call 26; (with_reducible refine Calls.mono (awake_w _) ?_); rintro e w9 ⟨rfl, hb9⟩)
                          go_ret
                          exact ⟨rfl, bl_step HB1.out (bl_step HBV.out hb9)⟩
end Go.Proofs.Ytpoagdffpajdjaa
