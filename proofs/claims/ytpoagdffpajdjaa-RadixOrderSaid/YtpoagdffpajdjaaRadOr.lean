/-
  The law RadixOrder, by contracts.
-/
import Derived.Test.YtpoagdffpajdjaaRadOp
import Derived.Test.YtpoagdffpajdjaaSP
import Derived.Test.YtpoagdffpajdjaaRelA
import Derived.Deep.CutRange
import Derived.StillTailTactics
import Derived.BigQuiet
import Derived.IntWalk
namespace Go.Proofs.Ytpoagdffpajdjaa
open Go.RowKit
set_option linter.unusedVariables false
set_option linter.unusedSimpArgs false

theorem keep_below {S : Nat → Prop} {w w' : World} (hb : Below w.heap.size w w') : KeepS S w w' := ⟨hb.size, fun z _ h => hb.block z h⟩
theorem keep_setRow {S : Nat → Prop} (w : World) (X : Nat) (cs : Array Value) (h : ∀ z, S z → z ≠ X) : KeepS S w (w.setRow X cs) := ⟨Nat.le_of_eq (by simp [World.setRow]), fun z hz _ => setRow_other _ _ _ _ (h z hz)⟩
abbrev NS (W : World) (b X : Nat) : Nat → Prop := fun z => W.heap.size ≤ z ∧ z ≠ X ∧ z ≠ b
/-- The state of the law: the tree in T, the built one in B, the one under way in X, the tape in b, the entries that are left. -/
structure OS (W : World) (b T B X h h' : Nat) (c d : Cn) (v : Value) (R : List En) (wx : World) : Prop where
  ok : TreeOk h' d
  tt : TR wx (NS W b X) T h (cano h c)
  bk : TR wx (NS W b X) B h (cano h c)
  tx : TR wx (NS W b X) X h' (cano h' d)
  ea : EA wx (fun z => z ≠ X ∧ z ≠ b) v R
  tp : TpP W b wx
  tX : T ≠ X
  tb : T ≠ b
  bX : B ≠ X
  bb : B ≠ b
  xb : X ≠ b
  le : W.heap.size ≤ X
theorem OS.drew {W w w' : World} {b T B X h h' : Nat} {c d : Cn} {v : Value} {R : List En} (s : OS W b T B X h h' c d v R w) (hT : TpP W b w') (hg : w.grownBy w' (some b)) : OS W b T B X h h' c d v R w' :=
  { s with
    tt := s.tt.kept hg.size fun z hz hlt => hg.block z hlt (fun e => by injection e with e; have := s.tb; rcases hz with hz | rfl <;> omega)
    bk := s.bk.kept hg.size fun z hz hlt => hg.block z hlt (fun e => by injection e with e; have := s.bb; rcases hz with hz | rfl <;> omega)
    tx := s.tx.kept hg.size fun z hz hlt => hg.block z hlt (fun e => by injection e with e; have := s.xb; rcases hz with hz | rfl <;> omega)
    ea := s.ea.kept hg.size fun z hz hlt => hg.block z hlt (fun e => by injection e with e; omega)
    tp := hT }
theorem OS.step {W w w' : World} {b T B X h h' : Nat} {c d : Cn} {v : Value} {R : List En} (s : OS W b T B X h h' c d v R w) (hb : Below w.heap.size w w') : OS W b T B X h h' c d v R w' :=
  { s with tt := s.tt.step hb, bk := s.bk.step hb, tx := s.tx.step hb, ea := s.ea.step hb, tp := s.tp.step hb }
theorem OS.free {W w : World} {b T B X h h' : Nat} {c d : Cn} {v : Value} {R : List En} (s : OS W b T B X h h' c d v R w) : ∀ z, w.heap.size ≤ z → NS W b X z := fun z hz => by
  have h1 := s.tx.lt
  have h2 := s.tp.lt
  have h3 := s.tp.2.1.size
  exact ⟨by omega, by omega, by omega⟩
theorem OS.put {W w : World} {b T B X h h' h2 : Nat} {c d d2 : Cn} {v : Value} {R : List En} (s : OS W b T B X h h' c d v R w) (ok : TreeOk h2 d2) {A : Option Addr} {cap : Nat} (hc : (cano h2 d2).kids.length ≤ cap) (hk : NK w (NS W b X) A (cano h2 d2).kids) :
    OS W b T B X h h2 c d2 v R (w.setRow X #[.int .i64 h2, .slice A (cano h2 d2).kids.length cap, .int .i64 (cano h2 d2).val, .int .i64 (cano h2 d2).marks]) := by
  obtain ⟨A0, c0, g0, _⟩ := s.tx
  have hsz : (w.setRow X #[.int .i64 h2, .slice A (cano h2 d2).kids.length cap, .int .i64 (cano h2 d2).val, .int .i64 (cano h2 d2).marks]).heap.size = w.heap.size := by simp [World.setRow]
  exact { s with
    ok := ok
    tt := s.tt.kept (Nat.le_of_eq hsz.symm) fun z hz _ => setRow_other _ _ _ _ (by have := s.tX; rcases hz with hz | rfl; exact hz.2.1; exact this)
    bk := s.bk.kept (Nat.le_of_eq hsz.symm) fun z hz _ => setRow_other _ _ _ _ (by have := s.bX; rcases hz with hz | rfl; exact hz.2.1; exact this)
    tx := ⟨A, cap, setRow_heap _ _ _ _ _ _ g0, cano_ml _ _, hc, hk.kept (Nat.le_of_eq hsz.symm) (fun z hz _ => setRow_other _ _ _ _ hz.2.1)⟩
    ea := s.ea.kept (Nat.le_of_eq hsz.symm) fun z hz _ => setRow_other _ _ _ _ hz.1
    tp := s.tp.gb (gb_setRow _ _ _) (fun k hk => by injection hk with hk; subst hk; exact ⟨s.le, s.xb⟩) }
theorem OS.rest {W w w' : World} {b T B X h h' : Nat} {c d : Cn} {v v' : Value} {R R' : List En} (s : OS W b T B X h h' c d v R w) (hb : Below w.heap.size w w') (he : EA w' (fun z => z ≠ X ∧ z ≠ b) v' R') : OS W b T B X h h' c d v' R' w' :=
  { s.step hb with ea := he }
def SK.te (S : Nat → Prop) (d : Cn) (err : Int) : SK S := ⟨fun v w => ∃ (h : Nat) (A : Option Addr) (cap : Nat), v = .tuple #[trV h A (cano h d).kids.length cap (cano h d).val (cano h d).marks, .int .i64 err] ∧ TreeOk h d ∧ (cano h d).kids.length ≤ cap ∧ NK w S A (cano h d).kids, fun v w w' hb ⟨h, A, cap, h1, h2, h3, h4⟩ => ⟨h, A, cap, h1, h2, h3, h4.kept hb.1 hb.2⟩⟩
def SK.tre (S : Nat → Prop) (d : Cn) : SK S := ⟨fun v w => ∃ (h : Nat) (A : Option Addr) (cap : Nat), v = trV h A (cano h d).kids.length cap (cano h d).val (cano h d).marks ∧ TreeOk h d ∧ (cano h d).kids.length ≤ cap ∧ NK w S A (cano h d).kids, fun v w w' hb ⟨h, A, cap, h1, h2, h3, h4⟩ => ⟨h, A, cap, h1, h2, h3, h4.kept hb.1 hb.2⟩⟩
theorem build_ents {h : Nat} {c : Cn} (hl : leafy c) (ht : TreeOk h c) : BuildIs (ents 0 (4 ^ h) c) c 0 := by
  have hok : okTo (ents 0 (4 ^ h) c) (ents 0 (4 ^ h) c).length := fun j hj e he => by
    obtain ⟨k, rfl, hk, h1, h2, h3⟩ := ent_of hl ht (List.mem_of_getElem? he)
    exact enE_ok.2 ⟨⟨by omega, by omega⟩, h1, h2.1, h2.2, h3⟩
  refine .inr (.inr ⟨badE_end hok, fun hd => ?_, (cOf_ents ht.2.1).symm, rfl⟩)
  obtain ⟨i, j, hji, hi, a, b, ha, hb, hab⟩ := hd
  have hp := ents_sorted 0 (4 ^ h) c
  rw [List.pairwise_iff_getElem] at hp
  obtain ⟨hil, rfl⟩ := List.getElem?_eq_some_iff.1 ha
  obtain ⟨hjl, rfl⟩ := List.getElem?_eq_some_iff.1 hb
  have := hp j i hjl hil hji
  omega
theorem upd_self (c : Cn) (x : Nat) : upd c x (c x) = c := by
  funext j
  unfold upd
  split
  · next h => rw [h]
  · rfl
def lenV (v : Value) : Nat := match v with | .slice _ n _ => n | _ => 0
/-- The other entry, where the tree has none there. -/
def exo (c : Cn) (x : Nat) : Option Nat := if c x = (0, 0) then some x else none
theorem exo_ok {c : Cn} {x : Nat} : ∀ y, exo c x = some y → c y = (0, 0) := fun y hy => by
  unfold exo at hy
  split at hy
  · next h => injection hy with hy; subst hy; exact h
  · cases hy
set_option maxRecDepth 100000 in
set_option maxHeartbeats 4000000 in
theorem radixOrder_walk (a0 : Option Addr) (len0 cap0 : Nat) (z0 : List Int) (a1 : Option Addr) (len1 cap1 : Nat) (z1 : List Int) (w : World) (w0 : IsRow .i64 w a0 len0 cap0 z0) (w1 : IsRow .i64 w a1 len1 cap1 z1) :
    Calls Try.prog 9 #[.slice a0 len0 cap0, .slice a1 len1 cap1] w fun e w' => e = .returned (.bool true) ∧ Below w.heap.size w w' := by
  have HT := Lib.hid (Tp.start w0)
  have HR1 := Lib.hid w1
  clear w0 w1
  go_enter Try.func9, Try.ntmps9
  go_upto_region 1 with fail
  go_cut [5] (fun s5 wx => ∃ (Z h : Nat) (c : Cn), s5 = .pointer (some ⟨Z, 0, none⟩) ∧ leafy c ∧ TreeOk h c ∧ TR wx (fun z => w.heap.size ≤ z) Z h (cano h c) ∧ Below w.heap.size w wx)
  case first =>
    go_wp2_with (go_at_call 27; go_must (refine (tree_t w _ _ HT.out).mono ?_); rintro e w1 ⟨h, c, A, cap, rfl, hlf, hok, hcap, hk, hT1⟩)
    go_meet
    case rel => exact ⟨_, h, c, rfl, hlf, hok, TR.new (cano_ml _ _) hcap (hk.weak fun z _ hz => by simp at hz; omega), bl_alloc hT1.2.1 _⟩
  case rest =>
    clear HT
    obtain ⟨Z, h, c, rfl, hlf, hok, hT, hB⟩ := hcut
    have HLF := Lib.hid hlf
    have HOK := Lib.hid hok
    have HB := Lib.hid hB
    have HT := Lib.hid hT
    obtain ⟨A, cap, hX, hm, hcap, hk⟩ := hT
    have hbeh := Beh.good hlf hok hcap hk
    have HEN := Lib.hid hbeh.en
    have hlen := hbeh.len
    have HBI := Lib.hid (build_ents hlf hok)
    have HRR := Lib.hid (RR.start hlf hok)
    have HDN := Lib.hid (dn_start hok)
    generalize hes : ents 0 (4 ^ h) c = es at HEN hlen HBI HRR HDN
    have x0 := cells_at hX 0; have x1 := cells_at hX 1; have x2 := cells_at hX 2; have x3 := cells_at hX 3; simp only [List.getElem?_toArray, List.getElem?_cons_zero, List.getElem?_cons_succ] at x0 x1 x2 x3
    clear hlf hok hB hbeh hes hX hk hm hcap
    go_upto_region 2 with fail
    go_cut [6] (fun s6 wx => EA wx Any s6 es ∧ TR wx (fun z => w.heap.size ≤ z) Z h (cano h c) ∧ Below w.heap.size w wx)
    case first =>
      go_wp2_with (go_at_call 24; go_must (refine (HEN.out _ (Below.refl _ _)).mono ?_); rintro e w2 ⟨u, rfl, hown, hb2⟩)
      go_meet
      case rel => exact ⟨EA.of_own hown (fun _ _ => trivial), HT.out.step hb2, bl_step HB.out hb2⟩
    case rest =>
      clear HT HB HEN x0 x1 x2 x3
      obtain ⟨hE, hT, hB⟩ := hcut
      have HE := Lib.hid hE
      have HT := Lib.hid hT
      have HB := Lib.hid hB
      clear hE hT hB
      go_upto_region 3 with fail
      go_cut [7] (fun s7 wx => ∃ b, s7 = .pointer (some ⟨b, 0, none⟩) ∧ TpP w b wx ∧ EA wx (fun z => z ≠ b) u6 es ∧ TR wx (fun z => w.heap.size ≤ z ∧ z ≠ b) Z h (cano h c) ∧ Z ≠ b)
      case first =>
        go_wp2
        go_meet
        case rel => exact ⟨wc.heap.size, rfl, TpP.start HR1.out HB.out, (HE.out.weak (fun z hz _ => by omega)).step (bl_alloc (Below.refl _ _) _), (HT.out.weak fun z hz h => ⟨h, by omega⟩).alloc _, by have := HT.out.lt; omega⟩
      case rest =>
        clear HE HT HB HR1
        obtain ⟨b, rfl, hTp, hE, hT, hZb⟩ := hcut
        have HTp := Lib.hid hTp
        have HE := Lib.hid hE
        have HT := Lib.hid hT
        have hbl := hTp.lt
        have hws := hTp.2.1.size
        have hbu := build_w es u6 (fun z => w.heap.size ≤ z ∧ z ≠ b) _ c 0 wc HBI.out (by omega) hE (fun z hz => ⟨by omega, by omega⟩)
        clear hTp hE hT HBI
        go_upto_region 4 with fail
        go_cut [8, 9] (fun s8 s9 wx => ∃ B, s8 = .pointer (some ⟨B, 0, none⟩) ∧ s9 = .int .i64 0 ∧ TpP w b wx ∧ EA wx (fun z => z ≠ b) u6 es ∧ TR wx (fun z => w.heap.size ≤ z ∧ z ≠ b) Z h (cano h c) ∧ TR wx (fun z => w.heap.size ≤ z ∧ z ≠ b) B h (cano h c) ∧ B ≠ b)
        case first =>
          go_wp2_with (go_at_call 37; (with_reducible refine Calls.mono hbu ?_); rintro e w2 ⟨h', A', cap', rfl, ht', hc', hk', hb2⟩; obtain rfl := ht'.uniq HOK.out)
          go_meet
          case rel => exact ⟨_, rfl, rfl, (HTp.out.step hb2).step (bl_alloc (Below.refl _ _) _), (HE.out.step hb2).step (bl_alloc (Below.refl _ _) _), (HT.out.step hb2).alloc _, TR.new (cano_ml _ _) hc' hk', by have := hb2.size; omega⟩
        case rest =>
          clear HTp HE HT hbu hbl hws
          obtain ⟨B, rfl, rfl, hTp, hE, hT, hBk, hBb⟩ := hcut
          have HTp := Lib.hid hTp
          have HE := Lib.hid hE
          have HT := Lib.hid hT
          have HBk := Lib.hid hBk
          clear hTp hE hT hBk
          go_upto_region 5 with fail
          go_cut [10] (fun s10 wx => ∃ X, s10 = .pointer (some ⟨X, 0, none⟩) ∧ OS w b Z B X h 0 c zeroC u6 es wx)
          case first =>
            go_wp2
            go_meet
            case rel =>
              have l1 := HT.out.lt
              have l2 := HBk.out.lt
              have l3 := HTp.out.lt
              have l4 := HTp.out.2.1.size
              refine ⟨wc.heap.size, rfl, ⟨TreeOk.zero, (HT.out.weak fun z hz h => ⟨h.1, by omega, h.2⟩).alloc _, (HBk.out.weak fun z hz h => ⟨h.1, by omega, h.2⟩).alloc _, TR.new (t := cano 0 zeroC) (A := none) (cap := 0) (Nat.zero_le _) (Nat.zero_le _) (.nil _), (HE.out.weak fun z hz h => ⟨by omega, h⟩).step (bl_alloc (Below.refl _ _) _), HTp.out.step (bl_alloc (Below.refl _ _) _), by omega, hZb, by omega, hBb, by omega, by omega⟩⟩
          case rest =>
            clear HTp HE HT HBk hZb hBb
            obtain ⟨X, rfl, hO⟩ := hcut
            have HO := Lib.hid hO
            clear hO
            go_upto_region 6 with fail
            go_cut [11] (fun s11 wx => ∃ x : Nat, s11 = .int .i64 x ∧ x < 256 ∧ OS w b Z B X h 0 c zeroC u6 es wx)
            case first =>
              go_wp2_with (go_at_call 12; go_must (refine (next_p _ w _ b (by omega) (by omega) HO.out.tp).mono ?_); rintro e w2 ⟨x, rfl, h0, h1, hT, hg⟩; have HO2 := Lib.hid (HO.out.drew hT hg))
              go_meet
              case rel =>
                obtain ⟨x, rfl⟩ := Int.eq_ofNat_of_zero_le h0
                exact ⟨x, rfl, by omega, HO2.out⟩
            case rest =>
              clear HO
              obtain ⟨x, rfl, hx, hO⟩ := hcut
              have HO := Lib.hid hO
              obtain ⟨A, cap, hX, hm, hcap, hk⟩ := hO.tt
              have hge := get_w h c A cap _ (x : Int) wc HLF.out HOK.out hcap hk
              obtain ⟨y, hy⟩ : ∃ y, getR c (x : Int) = y := ⟨_, rfl⟩
              have hyx : y = (c x).1 := by rw [← hy]; unfold getR inB; rw [decide_eq_true (by omega)]; simp
              have HGE := Lib.hid hy
              rw [hy] at hge
              have hy0 : (y = 0) ↔ c x = (0, 0) := by
                rw [hyx]
                rcases HLF.out x with e | ⟨e, _⟩
                · rw [e]; simp
                · constructor
                  · intro h; exact absurd h e
                  · intro h; rw [h]
              have HY0 := Lib.hid hy0
              have x0 := cells_at hX 0; have x1 := cells_at hX 1; have x2 := cells_at hX 2; have x3 := cells_at hX 3; simp only [List.getElem?_toArray, List.getElem?_cons_zero, List.getElem?_cons_succ] at x0 x1 x2 x3
              clear hO hX hm hcap hk hy hyx hy0
              go_upto_region 7 with fail
              go_cut [34] (fun s34 wx => s34 = .bool (decide (y = 0)) ∧ OS w b Z B X h 0 c zeroC u6 es wx)
              case first =>
                go_wp2_with (go_at_call 17; (with_reducible refine Calls.mono hge ?_); rintro e w2 ⟨rfl, hb2⟩)
                go_meet
                case rel => exact ⟨by first | rfl | simp, HO.out.step hb2⟩
              case rest =>
                clear HO hge x0 x1 x2 x3
                obtain ⟨rfl, hO⟩ := hcut
                have HO := Lib.hid hO
                clear hO
                go_upto_if 34 with fail
                go_cut [] (fun wx => ∃ h', OS w b Z B X h h' c (dn c (exo c x) es) u6 es wx)
                case first =>
                  by_cases hyz : y = 0
                  · have hcx : c x = (0, 0) := HY0.out.1 hyz
                    have HD := Lib.hid (show upd zeroC x (77, 0) = dn c (exo c x) es by unfold exo; rw [if_pos hcx]; exact (HDN.out.2 x hcx).symm)
                    have hb1 : decide (y = 0) = true := decide_eq_true hyz
                    rw [hb1]
                    have hO := HO.out
                    obtain ⟨A, cap, hX, hm, hcap, hk⟩ := hO.tx
                    have hst := set_w 0 zeroC A cap _ (x : Int) 77 wc leafy_zero TreeOk.zero hcap hk hO.free
                    rw [set_nat hx 77, HD.out] at hst
                    have HX := Lib.hid hX
                    have x0 := cells_at hX 0; have x1 := cells_at hX 1; have x2 := cells_at hX 2; have x3 := cells_at hX 3; simp only [List.getElem?_toArray, List.getElem?_cons_zero, List.getElem?_cons_succ] at x0 x1 x2 x3
                    clear hO hX hm hcap hk hyz hb1 hcx
                    go_wp2_with (first
                      | (go_at_call 30; (with_reducible refine Calls.mono hst ?_); rintro e w2 ⟨h', A', cap', rfl, ht', hc', hk', hb2⟩; have HO2 := Lib.hid ((HO.out.step hb2).put ht' hc' hk'); have HX2 := Lib.hid (bk_step HX.out hb2))
                      | (refine wpList_store_rowTo rfl 28 (.tmp 10) (.tmp 39) rfl rfl (X) #[.int .i64 h', .slice A' (cano h' (dn c (exo c x) es)).kids.length cap', .int .i64 (cano h' (dn c (exo c x) es)).val, .int .i64 (cano h' (dn c (exo c x) es)).marks] rfl rfl 28 _ (HX2.out) tree_size rfl (tree_one _ _ _ _ _ _) ?_))
                    go_meet
                    case rel => exact ⟨h', HO2.out⟩
                  · have hcx : ¬ c x = (0, 0) := fun e => hyz (HY0.out.2 e)
                    have HD := Lib.hid (show zeroC = dn c (exo c x) es by unfold exo; rw [if_neg hcx]; exact HDN.out.1.symm)
                    have hb1 : decide (y = 0) = false := decide_eq_false hyz
                    rw [hb1]
                    clear hyz hb1 hcx
                    go_wp2
                    go_meet
                    case rel => exact ⟨0, by rw [← HD.out]; exact HO.out⟩
                case rest =>
                  clear HO HDN
                  obtain ⟨h1, hO⟩ := hcut
                  have HO := Lib.hid hO
                  clear hO
                  go_wp2
                  go_loopw [6] (fun s6 wx => ∃ (R : List En) (h' : Nat), OS w b Z B X h h' c (dn c (exo c x) R) s6 R wx ∧ RR c R ∧ R.length ≤ 256) (fun s6 _ => lenV s6)
                  case atStart => exact ⟨es, h1, HO.out, HRR.out, hlen⟩
                  case round =>
                    clear HO HRR hlen h1
                    obtain ⟨R, h1, hO, hRR, hlen⟩ := hrel
                    obtain ⟨E, ce, he6, e1, e2, hE'⟩ := hO.ea
                    subst he6
                    have HO := Lib.hid hO
                    have HRR := Lib.hid hRR
                    clear hO hRR
                    by_cases hl0 : R.length = 0
                    · obtain rfl : R = [] := List.eq_nil_of_length_eq_zero hl0
                      have hO := HO.out
                      obtain ⟨D, hD⟩ : ∃ D : Cn, D = dn c (exo c x) [] := ⟨_, rfl⟩
                      rw [← hD] at hO
                      rw [dn_nil] at hD
                      have HDD := Lib.hid hD
                      clear hD HO hE' HRR
                      have HO := Lib.hid hO
                      obtain ⟨A, cap, hX, hm, hcap, hk⟩ := hO.tt
                      have hge := get_w h c A cap _ (x : Int) wr HLF.out HOK.out hcap hk
                      rw [HGE.out] at hge
                      have x0 := cells_at hX 0; have x1 := cells_at hX 1; have x2 := cells_at hX 2; have x3 := cells_at hX 3; simp only [List.getElem?_toArray, List.getElem?_cons_zero, List.getElem?_cons_succ] at x0 x1 x2 x3
                      clear hO hX hm hcap hk
                      go_upto_region 18 with fail
                      go_cut [100] (fun s100 wx => s100 = .bool (decide (y = 0)) ∧ OS w b Z B X h h1 c D (.slice E ([] : List En).length ce) [] wx)
                      case first =>
                        go_wp2_with (go_at_call 17; (with_reducible refine Calls.mono hge ?_); rintro e w2 ⟨rfl, hb2⟩)
                        go_meet
                        case rel => exact ⟨by first | rfl | simp, HO.out.step hb2⟩
                      case rest =>
                        clear HO hge x0 x1 x2 x3
                        obtain ⟨rfl, hO⟩ := hcut
                        have HO := Lib.hid hO
                        clear hO
                        go_upto_if 100 with fail
                        go_cut [] (fun wx => ∃ h', OS w b Z B X h h' c c (.slice E ([] : List En).length ce) [] wx)
                        case first =>
                          by_cases hyz : y = 0
                          · have hcx : c x = (0, 0) := HY0.out.1 hyz
                            have HD := Lib.hid (show upd D x (0, 0) = c by
                              rw [HDD.out]; unfold exo; rw [if_pos hcx]
                              show upd (upd c x (77, 0)) x (0, 0) = c
                              rw [upd_upd, ← hcx]; exact upd_self c x)
                            have hlD : leafy D := by
                              rw [HDD.out]; unfold exo; rw [if_pos hcx]
                              exact HLF.out.upd (x := (77, 0)) (.inr ⟨by decide, by decide, by decide, .inl (by decide)⟩) x
                            have hb1 : decide (y = 0) = true := decide_eq_true hyz
                            rw [hb1]
                            have hO := HO.out
                            obtain ⟨A, cap, hX, hm, hcap, hk⟩ := hO.tx
                            have hst := set_w h1 D A cap _ (x : Int) 0 wc hlD hO.ok hcap hk hO.free
                            rw [set_nat hx 0, HD.out] at hst
                            have HX := Lib.hid hX
                            have x0 := cells_at hX 0; have x1 := cells_at hX 1; have x2 := cells_at hX 2; have x3 := cells_at hX 3; simp only [List.getElem?_toArray, List.getElem?_cons_zero, List.getElem?_cons_succ] at x0 x1 x2 x3
                            clear hO hX hm hcap hk hyz hb1 hcx hlD
                            go_wp2_with (first
                              | (go_at_call 30; (with_reducible refine Calls.mono hst ?_); rintro e w2 ⟨h', A', cap', rfl, ht', hc', hk', hb2⟩; have HO2 := Lib.hid ((HO.out.step hb2).put ht' hc' hk'); have HX2 := Lib.hid (bk_step HX.out hb2))
                              | (refine wpList_store_rowTo rfl 28 (.tmp 10) (.tmp 105) rfl rfl (X) #[.int .i64 h', .slice A' (cano h' c).kids.length cap', .int .i64 (cano h' c).val, .int .i64 (cano h' c).marks] rfl rfl 28 _ (HX2.out) tree_size rfl (tree_one _ _ _ _ _ _) ?_))
                            go_meet
                            case rel => exact ⟨h', HO2.out⟩
                          · have hcx : ¬ c x = (0, 0) := fun e => hyz (HY0.out.2 e)
                            have HD := Lib.hid (show D = c by rw [HDD.out]; unfold exo; rw [if_neg hcx])
                            have hb1 : decide (y = 0) = false := decide_eq_false hyz
                            rw [hb1]
                            clear hyz hb1 hcx
                            go_wp2
                            go_meet
                            case rel => exact ⟨h1, by have := HO.out; rw [HD.out] at this; exact this⟩
                        case rest =>
                          clear HO HDD
                          obtain ⟨h3, hO⟩ := hcut
                          obtain rfl := hO.ok.uniq HOK.out
                          have HB := Lib.hid hO.tp.2.1
                          obtain ⟨A1, d1, g1, m1, l1, k1⟩ := hO.bk
                          obtain ⟨A2, d2, g2, m2, l2, k2⟩ := hO.tt
                          obtain ⟨A3, d3, g3, m3, l3, k3⟩ := hO.tx
                          have hs1 := same_w h3 c A1 A2 d1 d2 wc l1 l2 (k1.weak fun _ _ _ => trivial) (k2.weak fun _ _ _ => trivial)
                          have hs2 := fun w' (hb : Below wc.heap.size wc w') => same_w h3 c A3 A2 d3 d2 w' l3 l2 ((k3.weak fun _ _ _ => trivial).step hb) ((k2.weak fun _ _ _ => trivial).step hb)
                          have G2 := Lib.hid g2
                          have G3 := Lib.hid g3
                          have x0 := cells_at g1 0; have x1 := cells_at g1 1; have x2 := cells_at g1 2; have x3 := cells_at g1 3; simp only [List.getElem?_toArray, List.getElem?_cons_zero, List.getElem?_cons_succ] at x0 x1 x2 x3
                          have y0 := cells_at g2 0; have y1 := cells_at g2 1; have y2 := cells_at g2 2; have y3 := cells_at g2 3; simp only [List.getElem?_toArray, List.getElem?_cons_zero, List.getElem?_cons_succ] at y0 y1 y2 y3
                          clear g1 g2 g3 m1 m2 m3 l1 l2 l3 k1 k2 k3 hO HY0 HGE
                          go_wp2_with (first
                            | (go_at_call 36; (with_reducible refine Calls.mono hs1 ?_); rintro e w3 ⟨rfl, hb3⟩; clear x0 x1 x2 x3 y0 y1 y2 y3; have hb3' := hb3; have g2 := bk_step G2.out hb3; have g3 := bk_step G3.out hb3; have x0 := cells_at g3 0; have x1 := cells_at g3 1; have x2 := cells_at g3 2; have x3 := cells_at g3 3; simp only [List.getElem?_toArray, List.getElem?_cons_zero, List.getElem?_cons_succ] at x0 x1 x2 x3; have y0 := cells_at g2 0; have y1 := cells_at g2 1; have y2 := cells_at g2 2; have y3 := cells_at g2 3; simp only [List.getElem?_toArray, List.getElem?_cons_zero, List.getElem?_cons_succ] at y0 y1 y2 y3; clear g2 g3)
                            | (go_at_call 36; (with_reducible refine Calls.mono (hs2 _ hb3) ?_); rintro e w4 ⟨rfl, hb4⟩)
                            | (go_at_call 26; (with_reducible refine Calls.mono (awake_w _) ?_); rintro e w9 ⟨rfl, hb9⟩))
                          go_ret
                          exact ⟨rfl, bl_step HB.out (bl_step (bl_step hb3 hb4) hb9)⟩
                    · obtain ⟨f, o, rfl, hfl, hbf, hce⟩ : ∃ f o, E = some ⟨f, o, none⟩ ∧ f < wr.heap.size ∧ (f ≠ X ∧ f ≠ b) ∧ ∀ i d s c, R[i]? = some (d, s, c) → wr.cell? ⟨f, o + i * 3, none⟩ = some (.int .i64 d) ∧ wr.cell? ⟨f, o + i * 3 + 1, none⟩ = some (.int .i64 s) ∧ wr.cell? ⟨f, o + i * 3 + 2, none⟩ = some (.int .i64 c) := by
                        rcases hE' with h0 | h0
                        · rw [h0] at hl0; exact absurd rfl hl0
                        · exact h0
                      have k0 : (0 : Int) < (R.length : Int) := by omega
                      clear hE' hce hfl
                      unfold maxLen at e2
                      go_upto_region 10 with fail
                      go_cut [12] (fun s12 wx => ∃ (i j : Nat) (y m : Int), s12 = .int .i64 i ∧ R[i]? = some ((j : Int), y, m) ∧ j < 256 ∧ y ≠ 0 ∧ mk7 m ∧ (0 < y ∨ m = 0) ∧ OS w b Z B X h h1 c (dn c (exo c x) R) (.slice (some ⟨f, o, none⟩) R.length ce) R wx)
                      case first =>
                        go_wp2_with (go_at_call 12; go_must (with_reducible refine Calls.mono (next_p (R.length : Int) w _ b (by omega) (by omega) HO.out.tp) ?_); rintro e w2 ⟨q, rfl, h0, h1, hT, hg⟩; have HO2 := Lib.hid (HO.out.drew hT hg))
                        go_meet
                        case rel =>
                          obtain ⟨i, rfl⟩ := Int.eq_ofNat_of_zero_le h0
                          have hi : i < R.length := by omega
                          obtain ⟨j, hj, hj1, hj2, hj3, hj4⟩ := HRR.out.2 _ (List.getElem_mem hi)
                          exact ⟨i, j, _, _, rfl, by rw [List.getElem?_eq_getElem hi, hj], hj1, hj2, hj3, hj4, HO2.out⟩
                      case rest =>
                        clear HO
                        obtain ⟨i, j, y, m, rfl, hRi, hj, hy, hm7, hym, hO⟩ := hcut
                        have HO := Lib.hid hO
                        have HRI := Lib.hid hRi
                        have HM7 := Lib.hid hm7
                        have HYM := Lib.hid hym
                        have hil := (List.getElem?_eq_some_iff.1 hRi).1
                        obtain ⟨hfl, p0, p1, p2⟩ := hO.ea.cellsAt hRi
                        have i0 : (0 : Int) ≤ (i : Int) := by omega
                        have i1 : (i : Int) < (R.length : Int) := by omega
                        have hO' := hO
                        obtain ⟨A, cap, hX, hm, hcap, hk⟩ := hO'.tx
                        have hst := fun w' (hb : Below wc.heap.size wc w') => set_w h1 (dn c (exo c x) R) A cap (NS w b X) (j : Int) y w' (leafy_dn HLF.out _ _) hO.ok hcap (hk.step hb) (fun z hz => hO.free z (Nat.le_trans hb.size hz))
                        rw [set_nat hj y] at hst
                        have HX := Lib.hid hX
                        have hlX := bk_lt hX
                        have x0 := cells_at hX 0; have x1 := cells_at hX 1; have x2 := cells_at hX 2; have x3 := cells_at hX 3; simp only [List.getElem?_toArray, List.getElem?_cons_zero, List.getElem?_cons_succ] at x0 x1 x2 x3
                        clear hO hO' hX hm hcap hk hRi hm7 hym
                        go_upto_region 11 with fail
                        go_cut [] (fun wx => ∃ h', OS w b Z B X h h' c (upd (dn c (exo c x) R) j (y, 0)) (.slice (some ⟨f, o, none⟩) R.length ce) R wx)
                        case first =>
                          refine wp_region_sk (S := NS w b X) 122 15 (fun i => decide (i ≤ 13)) (fun wx => ∃ h', OS w b Z B X h h' c (upd (dn c (exo c x) R) j (y, 0)) (.slice (some ⟨f, o, none⟩) R.length ce) R wx) [SK.eq (trV h1 A (cano h1 (dn c (exo c x) R)).kids.length cap (cano h1 (dn c (exo c x) R)).val (cano h1 (dn c (exo c x) R)).marks), SK.eq (.slice (some ⟨f, o, none⟩) R.length ce), SK.eq (.int .i64 i), SK.eq (.pointer (some ⟨f, o + i * 3, none⟩)), SK.eq (.pointer (some ⟨f, o + i * 3, none⟩)), SK.eq (.int .i64 j), SK.eq (.slice (some ⟨f, o, none⟩) R.length ce), SK.eq (.int .i64 i), SK.eq (.pointer (some ⟨f, o + i * 3, none⟩)), SK.eq (.pointer (some ⟨f, o + i * 3 + 1, none⟩)), SK.eq (.int .i64 y), SK.te (NS w b X) (upd (dn c (exo c x) R) j (y, 0)) 0, SK.te (NS w b X) (upd (dn c (exo c x) R) j (y, 0)) 0, SK.tre (NS w b X) (upd (dn c (exo c x) R) j (y, 0)), SK.eq (.int .i64 0)] (by kernel_rfl) (by kernel_rfl) rfl (fun _ => trivial) ?_
                          refine relWalkA_pre rfl rfl (fun x hC hd K hK => ?_) (fun v0 => ?_)
                          · have hC' : Below wc.heap.size wc x := hC
                            have u0 := (hC'.cell (p := ⟨X, _, none⟩) hlX).trans x0
                            have u1 := (hC'.cell (p := ⟨X, _, none⟩) hlX).trans x1
                            have u2 := (hC'.cell (p := ⟨X, _, none⟩) hlX).trans x2
                            have u3 := (hC'.cell (p := ⟨X, _, none⟩) hlX).trans x3
                            go_simp
                            exact hK _ _ hC (KeepS.refl _) rfl
                          simp only [Act.put, List.setIfInBounds_toArray, List.set_cons_zero, List.set_cons_succ]
                          refine relWalkA_pre rfl rfl (fun x hC hd K hK => ?_) (fun v1 => ?_)
                          · go_simp
                            exact hK _ _ hC (KeepS.refl _) rfl
                          simp only [Act.put, List.setIfInBounds_toArray, List.set_cons_zero, List.set_cons_succ]
                          refine relWalkA_pre rfl rfl (fun x hC hd K hK => ?_) (fun v2 => ?_)
                          · go_simp
                            exact hK _ _ hC (KeepS.refl _) rfl
                          simp only [Act.put, List.setIfInBounds_toArray, List.set_cons_zero, List.set_cons_succ]
                          refine relWalkA_pre rfl rfl (fun x hC hd K hK => ?_) (fun v3 => ?_)
                          · obtain rfl : v1 = _ := hd 1 (by kernel_rfl)
                            obtain rfl : v2 = _ := hd 2 (by kernel_rfl)
                            go_simp
                            exact hK _ _ hC (KeepS.refl _) rfl
                          simp only [Act.put, List.setIfInBounds_toArray, List.set_cons_zero, List.set_cons_succ]
                          refine relWalkA_pre rfl rfl (fun x hC hd K hK => ?_) (fun v4 => ?_)
                          · obtain rfl : v3 = _ := hd 3 (by kernel_rfl)
                            go_simp
                            exact hK _ _ hC (KeepS.refl _) rfl
                          simp only [Act.put, List.setIfInBounds_toArray, List.set_cons_zero, List.set_cons_succ]
                          refine relWalkA_pre rfl rfl (fun x hC hd K hK => ?_) (fun v5 => ?_)
                          · obtain rfl : v4 = _ := hd 4 (by kernel_rfl)
                            have hC' : Below wc.heap.size wc x := hC
                            have u0 := (hC'.cell (p := ⟨f, _, none⟩) hfl).trans p0
                            go_simp
                            exact hK _ _ hC (KeepS.refl _) rfl
                          simp only [Act.put, List.setIfInBounds_toArray, List.set_cons_zero, List.set_cons_succ]
                          refine relWalkA_pre rfl rfl (fun x hC hd K hK => ?_) (fun v6 => ?_)
                          · go_simp
                            exact hK _ _ hC (KeepS.refl _) rfl
                          simp only [Act.put, List.setIfInBounds_toArray, List.set_cons_zero, List.set_cons_succ]
                          refine relWalkA_pre rfl rfl (fun x hC hd K hK => ?_) (fun v7 => ?_)
                          · go_simp
                            exact hK _ _ hC (KeepS.refl _) rfl
                          simp only [Act.put, List.setIfInBounds_toArray, List.set_cons_zero, List.set_cons_succ]
                          refine relWalkA_pre rfl rfl (fun x hC hd K hK => ?_) (fun v8 => ?_)
                          · obtain rfl : v6 = _ := hd 6 (by kernel_rfl)
                            obtain rfl : v7 = _ := hd 7 (by kernel_rfl)
                            go_simp
                            exact hK _ _ hC (KeepS.refl _) rfl
                          simp only [Act.put, List.setIfInBounds_toArray, List.set_cons_zero, List.set_cons_succ]
                          refine relWalkA_pre rfl rfl (fun x hC hd K hK => ?_) (fun v9 => ?_)
                          · obtain rfl : v8 = _ := hd 8 (by kernel_rfl)
                            go_simp
                            exact hK _ _ hC (KeepS.refl _) rfl
                          simp only [Act.put, List.setIfInBounds_toArray, List.set_cons_zero, List.set_cons_succ]
                          refine relWalkA_pre rfl rfl (fun x hC hd K hK => ?_) (fun v10 => ?_)
                          · obtain rfl : v9 = _ := hd 9 (by kernel_rfl)
                            have hC' : Below wc.heap.size wc x := hC
                            have u0 := (hC'.cell (p := ⟨f, _, none⟩) hfl).trans p1
                            go_simp
                            exact hK _ _ hC (KeepS.refl _) rfl
                          simp only [Act.put, List.setIfInBounds_toArray, List.set_cons_zero, List.set_cons_succ]
                          refine relWalkA_pre rfl rfl (fun x2 hC hd K hK => ?_) (fun v11 => ?_)
                          · obtain rfl : v0 = _ := hd 0 (by kernel_rfl)
                            obtain rfl : v5 = _ := hd 5 (by kernel_rfl)
                            obtain rfl : v10 = _ := hd 10 (by kernel_rfl)
                            have hC' : Below wc.heap.size wc x2 := hC
                            go_simp
                            go_at_call 30
                            refine (hst x2 hC').mono ?_
                            rintro e w1 ⟨h', A', cap', rfl, ht', hc', hk', hb⟩
                            exact hK _ _ (bl_step hC' hb) (keep_below hb) ⟨h', A', cap', rfl, ht', hc', hk'⟩
                          simp only [Act.put, List.setIfInBounds_toArray, List.set_cons_zero, List.set_cons_succ]
                          refine relWalkA_pre rfl rfl (fun x2 hC hd K hK => ?_) (fun v12 => ?_)
                          · obtain ⟨h', A', cap', e, ht', hc', hk'⟩ := hd 11 (by kernel_rfl)
                            obtain rfl : v11 = _ := e
                            go_simp
                            exact hK _ _ hC (KeepS.refl _) ⟨h', A', cap', rfl, ht', hc', hk'⟩
                          simp only [Act.put, List.setIfInBounds_toArray, List.set_cons_zero, List.set_cons_succ]
                          refine relWalkA_pre rfl rfl (fun x2 hC hd K hK => ?_) (fun v13 => ?_)
                          · obtain ⟨h', A', cap', e, ht', hc', hk'⟩ := hd 12 (by kernel_rfl)
                            obtain rfl : v12 = _ := e
                            go_simp
                            exact hK _ _ hC (KeepS.refl _) ⟨h', A', cap', rfl, ht', hc', hk'⟩
                          simp only [Act.put, List.setIfInBounds_toArray, List.set_cons_zero, List.set_cons_succ]
                          refine relWalkA_any rfl (fun w => KeepS.refl w) (fun x2 hd K hK => ?_) (fun v14 => ?_)
                          · obtain ⟨h', A', cap', e, ht', hc', hk'⟩ := hd 12 (by kernel_rfl)
                            obtain rfl : v12 = _ := e
                            go_simp
                            exact hK _ rfl
                          simp only [Act.put, List.setIfInBounds_toArray, List.set_cons_zero, List.set_cons_succ]
                          refine relWalkA_store (fun x2 hC hd K hK => ?_) (fun v15 => ?_)
                          · obtain ⟨h', A', cap', e, ht', hc', hk'⟩ := hd 13 (by kernel_rfl)
                            obtain rfl : v13 = _ := e
                            have hC' : Below wc.heap.size wc x2 := hC
                            have HPUT := Lib.hid ((HO.out.step hC').put ht' hc' hk')
                            have HX2 := bk_step HX.out hC'
                            refine wp_store_row rfl 28 (.tmp 10) (.tmp 61) rfl rfl X #[.int .i64 h', .slice A' (cano h' (upd (dn c (exo c x) R) j (y, 0))).kids.length cap', .int .i64 (cano h' (upd (dn c (exo c x) R) j (y, 0))).val, .int .i64 (cano h' (upd (dn c (exo c x) R) j (y, 0))).marks] rfl rfl 28 _ HX2 tree_size rfl (tree_one _ _ _ _ _ _) ?_
                            exact hK undef _ ⟨h', HPUT.out⟩ (keep_setRow _ _ _ (fun z hz => hz.2.1)) trivial
                          simp only [Act.put, List.setIfInBounds_toArray, List.set_cons_zero, List.set_cons_succ]
                          refine relWalkA_nil ?_
                          intro wz hD hG
                          clear hG
                          go_wp2
                          go_meet
                          case rel => exact hD
                        case rest =>
                          clear HO hst HX hlX x0 x1 x2 x3 hfl p0 p1 p2
                          obtain ⟨h2, hO⟩ := hcut
                          have HO := Lib.hid hO
                          clear hO
                          go_wp2
                          go_loopw [13] (fun s13 wx => ∃ (k h' : Nat), s13 = .int .i64 k ∧ k ≤ 3 ∧ OS w b Z B X h h' c (upd (dn c (exo c x) R) j (y, lowM m k)) (.slice (some ⟨f, o, none⟩) R.length ce) R wx) (fun s13 _ => 3 - (intOf s13).toNat)
                          case atStart => exact ⟨0, h2, rfl, by omega, by rw [lowM_zero]; exact HO.out⟩
                          case round =>
                            clear HO h2
                            obtain ⟨k, h2, rfl, hk3, hO⟩ := hrel
                            have HO := Lib.hid hO
                            obtain ⟨hfl, p0, p1, p2⟩ := hO.ea.cellsAt HRI.out
                            clear hO
                            obtain rfl | rfl | rfl | rfl : k = 0 ∨ k = 1 ∨ k = 2 ∨ k = 3 := by omega
                            · skip
                              have hml := mk_low HM7.out (k := 0) (by omega) 1 rfl
                              have HML := Lib.hid hml
                              clear hml
                              have HOQ := fun n => Lib.hid (HO.out.step (below_drewN (Below.refl _ _) n))
                              by_cases q : bits .and .i64 m 1 = 0
                              · have hb : (bits .and .i64 m 1 != 0) = false := by simp [q]
                                have HQ := Lib.hid q
                                clear q
                                go_upto_region 15 with fail
                                go_quiet (fail)
                                go_wp2
                                go_roundw
                                case rel => exact ⟨0 + 1, h2, by go_num, by omega, by rw [← HML.out.2 HQ.out]; exact (HOQ _).out⟩
                                case measure => simp [intOf]
                              · have hb : (bits .and .i64 m 1 != 0) = true := by simp [q]
                                have hyp : 0 < y := and_zero_pos HYM.out (b := 1) rfl q
                                have HQ := Lib.hid q
                                clear q
                                go_upto_region 15 with fail
                                go_quiet (fail)
                                go_upto_region 16 with fail
                                rename_i nq
                                obtain ⟨wc, hV⟩ : ∃ V : World, V = wr.drewN nq := ⟨_, rfl⟩
                                rw [← hV]
                                have hO : OS w b Z B X h h2 c (upd (dn c (exo c x) R) j (y, lowM m 0)) (.slice (some ⟨f, o, none⟩) R.length ce) R wc := by rw [hV]; exact (HOQ nq).out
                                clear hV HOQ HO hfl p0 p1 p2
                                have HO := Lib.hid hO
                                obtain ⟨hfl, p0, p1, p2⟩ := hO.ea.cellsAt HRI.out
                                have hO' := hO
                                obtain ⟨A, cap, hX, hm, hcap, hk⟩ := hO'.tx
                                have hlf2 : leafy (upd (dn c (exo c x) R) j (y, lowM m 0)) := (leafy_dn HLF.out _ _).upd (x := (y, lowM m 0)) (.inr ⟨by show y ≠ 0; omega, (lowM_mk7 HM7.out 0 (by omega)).1, (lowM_mk7 HM7.out 0 (by omega)).2, .inl hyp⟩) j
                                have hst := fun w' (hb : Below wc.heap.size wc w') => mrk_w h2 (upd (dn c (exo c x) R) j (y, lowM m 0)) A cap (NS w b X) (j : Int) 1 w' hlf2 hO.ok hcap (hk.step hb) (fun z hz => hO.free z (Nat.le_trans hb.size hz))
                                rw [mark_pos hj (k := 1) rfl (by rw [upd_same]; exact hyp), upd_same, upd_upd, show orI (lowM m 0) 1 = lowM m (0 + 1) from HML.out.1 HQ.out] at hst
                                have HX := Lib.hid hX
                                have hlX := bk_lt hX
                                have x0 := cells_at hX 0; have x1 := cells_at hX 1; have x2 := cells_at hX 2; have x3 := cells_at hX 3; simp only [List.getElem?_toArray, List.getElem?_cons_zero, List.getElem?_cons_succ] at x0 x1 x2 x3
                                clear hO hO' hX hm hcap hk hb hlf2 HML
                                refine wp_region_sk (S := NS w b X) 122 12 (fun i => decide (i ≤ 10)) (fun wx => ∃ h', OS w b Z B X h h' c (upd (dn c (exo c x) R) j (y, lowM m (0 + 1))) (.slice (some ⟨f, o, none⟩) R.length ce) R wx) [SK.eq (trV h2 A (cano h2 (upd (dn c (exo c x) R) j (y, lowM m 0))).kids.length cap (cano h2 (upd (dn c (exo c x) R) j (y, lowM m 0))).val (cano h2 (upd (dn c (exo c x) R) j (y, lowM m 0))).marks), SK.eq (.slice (some ⟨f, o, none⟩) R.length ce), SK.eq (.int .i64 i), SK.eq (.pointer (some ⟨f, o + i * 3, none⟩)), SK.eq (.pointer (some ⟨f, o + i * 3, none⟩)), SK.eq (.int .i64 j), SK.eq (.int .i64 0), SK.eq (.int .i64 1), SK.te (NS w b X) (upd (dn c (exo c x) R) j (y, lowM m (0 + 1))) 0, SK.te (NS w b X) (upd (dn c (exo c x) R) j (y, lowM m (0 + 1))) 0, SK.tre (NS w b X) (upd (dn c (exo c x) R) j (y, lowM m (0 + 1))), SK.eq (.int .i64 0)] (by kernel_rfl) (by kernel_rfl) rfl (fun _ => trivial) ?_
                                refine relWalkA_pre rfl rfl (fun x hC hd K hK => ?_) (fun v0 => ?_)
                                · have hC' : Below wc.heap.size wc x := hC
                                  have u0 := (hC'.cell (p := ⟨X, _, none⟩) hlX).trans x0
                                  have u1 := (hC'.cell (p := ⟨X, _, none⟩) hlX).trans x1
                                  have u2 := (hC'.cell (p := ⟨X, _, none⟩) hlX).trans x2
                                  have u3 := (hC'.cell (p := ⟨X, _, none⟩) hlX).trans x3
                                  go_simp
                                  exact hK _ _ hC (KeepS.refl _) rfl
                                simp only [Act.put, List.setIfInBounds_toArray, List.set_cons_zero, List.set_cons_succ]
                                refine relWalkA_pre rfl rfl (fun x hC hd K hK => ?_) (fun v1 => ?_)
                                · go_simp
                                  exact hK _ _ hC (KeepS.refl _) rfl
                                simp only [Act.put, List.setIfInBounds_toArray, List.set_cons_zero, List.set_cons_succ]
                                refine relWalkA_pre rfl rfl (fun x hC hd K hK => ?_) (fun v2 => ?_)
                                · go_simp
                                  exact hK _ _ hC (KeepS.refl _) rfl
                                simp only [Act.put, List.setIfInBounds_toArray, List.set_cons_zero, List.set_cons_succ]
                                refine relWalkA_pre rfl rfl (fun x hC hd K hK => ?_) (fun v3 => ?_)
                                · obtain rfl : v1 = _ := hd 1 (by kernel_rfl)
                                  obtain rfl : v2 = _ := hd 2 (by kernel_rfl)
                                  go_simp
                                  exact hK _ _ hC (KeepS.refl _) rfl
                                simp only [Act.put, List.setIfInBounds_toArray, List.set_cons_zero, List.set_cons_succ]
                                refine relWalkA_pre rfl rfl (fun x hC hd K hK => ?_) (fun v4 => ?_)
                                · obtain rfl : v3 = _ := hd 3 (by kernel_rfl)
                                  go_simp
                                  exact hK _ _ hC (KeepS.refl _) rfl
                                simp only [Act.put, List.setIfInBounds_toArray, List.set_cons_zero, List.set_cons_succ]
                                refine relWalkA_pre rfl rfl (fun x hC hd K hK => ?_) (fun v5 => ?_)
                                · obtain rfl : v4 = _ := hd 4 (by kernel_rfl)
                                  have hC' : Below wc.heap.size wc x := hC
                                  have u0 := (hC'.cell (p := ⟨f, _, none⟩) hfl).trans p0
                                  go_simp
                                  exact hK _ _ hC (KeepS.refl _) rfl
                                simp only [Act.put, List.setIfInBounds_toArray, List.set_cons_zero, List.set_cons_succ]
                                refine relWalkA_pre rfl rfl (fun x hC hd K hK => ?_) (fun v6 => ?_)
                                · go_simp
                                  exact hK _ _ hC (KeepS.refl _) rfl
                                simp only [Act.put, List.setIfInBounds_toArray, List.set_cons_zero, List.set_cons_succ]
                                refine relWalkA_pre rfl rfl (fun x hC hd K hK => ?_) (fun v7 => ?_)
                                · obtain rfl : v6 = _ := hd 6 (by kernel_rfl)
                                  go_simp
                                  exact hK _ _ hC (KeepS.refl _) rfl
                                simp only [Act.put, List.setIfInBounds_toArray, List.set_cons_zero, List.set_cons_succ]
                                refine relWalkA_pre rfl rfl (fun x2 hC hd K hK => ?_) (fun v8 => ?_)
                                · obtain rfl : v0 = _ := hd 0 (by kernel_rfl)
                                  obtain rfl : v5 = _ := hd 5 (by kernel_rfl)
                                  obtain rfl : v7 = _ := hd 7 (by kernel_rfl)
                                  have hC' : Below wc.heap.size wc x2 := hC
                                  go_simp
                                  go_at_call 32
                                  refine (hst x2 hC').mono ?_
                                  rintro e w1 ⟨h', A', cap', rfl, ht', hc', hk', hb⟩
                                  exact hK _ _ (bl_step hC' hb) (keep_below hb) ⟨h', A', cap', rfl, ht', hc', hk'⟩
                                simp only [Act.put, List.setIfInBounds_toArray, List.set_cons_zero, List.set_cons_succ]
                                refine relWalkA_pre rfl rfl (fun x2 hC hd K hK => ?_) (fun v9 => ?_)
                                · obtain ⟨h', A', cap', e, ht', hc', hk'⟩ := hd 8 (by kernel_rfl)
                                  obtain rfl : v8 = _ := e
                                  go_simp
                                  exact hK _ _ hC (KeepS.refl _) ⟨h', A', cap', rfl, ht', hc', hk'⟩
                                simp only [Act.put, List.setIfInBounds_toArray, List.set_cons_zero, List.set_cons_succ]
                                refine relWalkA_pre rfl rfl (fun x2 hC hd K hK => ?_) (fun v10 => ?_)
                                · obtain ⟨h', A', cap', e, ht', hc', hk'⟩ := hd 9 (by kernel_rfl)
                                  obtain rfl : v9 = _ := e
                                  go_simp
                                  exact hK _ _ hC (KeepS.refl _) ⟨h', A', cap', rfl, ht', hc', hk'⟩
                                simp only [Act.put, List.setIfInBounds_toArray, List.set_cons_zero, List.set_cons_succ]
                                refine relWalkA_any rfl (fun w => KeepS.refl w) (fun x2 hd K hK => ?_) (fun v11 => ?_)
                                · obtain ⟨h', A', cap', e, ht', hc', hk'⟩ := hd 9 (by kernel_rfl)
                                  obtain rfl : v9 = _ := e
                                  go_simp
                                  exact hK _ rfl
                                simp only [Act.put, List.setIfInBounds_toArray, List.set_cons_zero, List.set_cons_succ]
                                refine relWalkA_store (fun x2 hC hd K hK => ?_) (fun v12 => ?_)
                                · obtain ⟨h', A', cap', e, ht', hc', hk'⟩ := hd 10 (by kernel_rfl)
                                  obtain rfl : v10 = _ := e
                                  have hC' : Below wc.heap.size wc x2 := hC
                                  have HPUT := Lib.hid ((HO.out.step hC').put ht' hc' hk')
                                  have HX2 := bk_step HX.out hC'
                                  refine wp_store_row rfl 28 (.tmp 10) (.tmp 86) rfl rfl X #[.int .i64 h', .slice A' (cano h' (upd (dn c (exo c x) R) j (y, lowM m (0 + 1)))).kids.length cap', .int .i64 (cano h' (upd (dn c (exo c x) R) j (y, lowM m (0 + 1)))).val, .int .i64 (cano h' (upd (dn c (exo c x) R) j (y, lowM m (0 + 1)))).marks] rfl rfl 28 _ HX2 tree_size rfl (tree_one _ _ _ _ _ _) ?_
                                  exact hK undef _ ⟨h', HPUT.out⟩ (keep_setRow _ _ _ (fun z hz => hz.2.1)) trivial
                                simp only [Act.put, List.setIfInBounds_toArray, List.set_cons_zero, List.set_cons_succ]
                                refine relWalkA_nil ?_
                                intro wz hD hG
                                clear hG
                                clear HO hst HX hlX x0 x1 x2 x3 hfl p0 p1 p2
                                obtain ⟨h', hO⟩ := hD
                                have HO := Lib.hid hO
                                clear hO
                                go_wp2
                                go_roundw
                                case rel => exact ⟨0 + 1, h', by go_num, by omega, HO.out⟩
                                case measure => simp [intOf]
                            · skip
                              have hml := mk_low HM7.out (k := 1) (by omega) 2 rfl
                              have HML := Lib.hid hml
                              clear hml
                              have HOQ := fun n => Lib.hid (HO.out.step (below_drewN (Below.refl _ _) n))
                              by_cases q : bits .and .i64 m 2 = 0
                              · have hb : (bits .and .i64 m 2 != 0) = false := by simp [q]
                                have HQ := Lib.hid q
                                clear q
                                go_upto_region 15 with fail
                                go_quiet (fail)
                                go_wp2
                                go_roundw
                                case rel => exact ⟨1 + 1, h2, by go_num, by omega, by rw [← HML.out.2 HQ.out]; exact (HOQ _).out⟩
                                case measure => simp [intOf]
                              · have hb : (bits .and .i64 m 2 != 0) = true := by simp [q]
                                have hyp : 0 < y := and_zero_pos HYM.out (b := 2) rfl q
                                have HQ := Lib.hid q
                                clear q
                                go_upto_region 15 with fail
                                go_quiet (fail)
                                go_upto_region 16 with fail
                                rename_i nq
                                obtain ⟨wc, hV⟩ : ∃ V : World, V = wr.drewN nq := ⟨_, rfl⟩
                                rw [← hV]
                                have hO : OS w b Z B X h h2 c (upd (dn c (exo c x) R) j (y, lowM m 1)) (.slice (some ⟨f, o, none⟩) R.length ce) R wc := by rw [hV]; exact (HOQ nq).out
                                clear hV HOQ HO hfl p0 p1 p2
                                have HO := Lib.hid hO
                                obtain ⟨hfl, p0, p1, p2⟩ := hO.ea.cellsAt HRI.out
                                have hO' := hO
                                obtain ⟨A, cap, hX, hm, hcap, hk⟩ := hO'.tx
                                have hlf2 : leafy (upd (dn c (exo c x) R) j (y, lowM m 1)) := (leafy_dn HLF.out _ _).upd (x := (y, lowM m 1)) (.inr ⟨by show y ≠ 0; omega, (lowM_mk7 HM7.out 1 (by omega)).1, (lowM_mk7 HM7.out 1 (by omega)).2, .inl hyp⟩) j
                                have hst := fun w' (hb : Below wc.heap.size wc w') => mrk_w h2 (upd (dn c (exo c x) R) j (y, lowM m 1)) A cap (NS w b X) (j : Int) 2 w' hlf2 hO.ok hcap (hk.step hb) (fun z hz => hO.free z (Nat.le_trans hb.size hz))
                                rw [mark_pos hj (k := 2) rfl (by rw [upd_same]; exact hyp), upd_same, upd_upd, show orI (lowM m 1) 2 = lowM m (1 + 1) from HML.out.1 HQ.out] at hst
                                have HX := Lib.hid hX
                                have hlX := bk_lt hX
                                have x0 := cells_at hX 0; have x1 := cells_at hX 1; have x2 := cells_at hX 2; have x3 := cells_at hX 3; simp only [List.getElem?_toArray, List.getElem?_cons_zero, List.getElem?_cons_succ] at x0 x1 x2 x3
                                clear hO hO' hX hm hcap hk hb hlf2 HML
                                refine wp_region_sk (S := NS w b X) 122 12 (fun i => decide (i ≤ 10)) (fun wx => ∃ h', OS w b Z B X h h' c (upd (dn c (exo c x) R) j (y, lowM m (1 + 1))) (.slice (some ⟨f, o, none⟩) R.length ce) R wx) [SK.eq (trV h2 A (cano h2 (upd (dn c (exo c x) R) j (y, lowM m 1))).kids.length cap (cano h2 (upd (dn c (exo c x) R) j (y, lowM m 1))).val (cano h2 (upd (dn c (exo c x) R) j (y, lowM m 1))).marks), SK.eq (.slice (some ⟨f, o, none⟩) R.length ce), SK.eq (.int .i64 i), SK.eq (.pointer (some ⟨f, o + i * 3, none⟩)), SK.eq (.pointer (some ⟨f, o + i * 3, none⟩)), SK.eq (.int .i64 j), SK.eq (.int .i64 1), SK.eq (.int .i64 2), SK.te (NS w b X) (upd (dn c (exo c x) R) j (y, lowM m (1 + 1))) 0, SK.te (NS w b X) (upd (dn c (exo c x) R) j (y, lowM m (1 + 1))) 0, SK.tre (NS w b X) (upd (dn c (exo c x) R) j (y, lowM m (1 + 1))), SK.eq (.int .i64 0)] (by kernel_rfl) (by kernel_rfl) rfl (fun _ => trivial) ?_
                                refine relWalkA_pre rfl rfl (fun x hC hd K hK => ?_) (fun v0 => ?_)
                                · have hC' : Below wc.heap.size wc x := hC
                                  have u0 := (hC'.cell (p := ⟨X, _, none⟩) hlX).trans x0
                                  have u1 := (hC'.cell (p := ⟨X, _, none⟩) hlX).trans x1
                                  have u2 := (hC'.cell (p := ⟨X, _, none⟩) hlX).trans x2
                                  have u3 := (hC'.cell (p := ⟨X, _, none⟩) hlX).trans x3
                                  go_simp
                                  exact hK _ _ hC (KeepS.refl _) rfl
                                simp only [Act.put, List.setIfInBounds_toArray, List.set_cons_zero, List.set_cons_succ]
                                refine relWalkA_pre rfl rfl (fun x hC hd K hK => ?_) (fun v1 => ?_)
                                · go_simp
                                  exact hK _ _ hC (KeepS.refl _) rfl
                                simp only [Act.put, List.setIfInBounds_toArray, List.set_cons_zero, List.set_cons_succ]
                                refine relWalkA_pre rfl rfl (fun x hC hd K hK => ?_) (fun v2 => ?_)
                                · go_simp
                                  exact hK _ _ hC (KeepS.refl _) rfl
                                simp only [Act.put, List.setIfInBounds_toArray, List.set_cons_zero, List.set_cons_succ]
                                refine relWalkA_pre rfl rfl (fun x hC hd K hK => ?_) (fun v3 => ?_)
                                · obtain rfl : v1 = _ := hd 1 (by kernel_rfl)
                                  obtain rfl : v2 = _ := hd 2 (by kernel_rfl)
                                  go_simp
                                  exact hK _ _ hC (KeepS.refl _) rfl
                                simp only [Act.put, List.setIfInBounds_toArray, List.set_cons_zero, List.set_cons_succ]
                                refine relWalkA_pre rfl rfl (fun x hC hd K hK => ?_) (fun v4 => ?_)
                                · obtain rfl : v3 = _ := hd 3 (by kernel_rfl)
                                  go_simp
                                  exact hK _ _ hC (KeepS.refl _) rfl
                                simp only [Act.put, List.setIfInBounds_toArray, List.set_cons_zero, List.set_cons_succ]
                                refine relWalkA_pre rfl rfl (fun x hC hd K hK => ?_) (fun v5 => ?_)
                                · obtain rfl : v4 = _ := hd 4 (by kernel_rfl)
                                  have hC' : Below wc.heap.size wc x := hC
                                  have u0 := (hC'.cell (p := ⟨f, _, none⟩) hfl).trans p0
                                  go_simp
                                  exact hK _ _ hC (KeepS.refl _) rfl
                                simp only [Act.put, List.setIfInBounds_toArray, List.set_cons_zero, List.set_cons_succ]
                                refine relWalkA_pre rfl rfl (fun x hC hd K hK => ?_) (fun v6 => ?_)
                                · go_simp
                                  exact hK _ _ hC (KeepS.refl _) rfl
                                simp only [Act.put, List.setIfInBounds_toArray, List.set_cons_zero, List.set_cons_succ]
                                refine relWalkA_pre rfl rfl (fun x hC hd K hK => ?_) (fun v7 => ?_)
                                · obtain rfl : v6 = _ := hd 6 (by kernel_rfl)
                                  go_simp
                                  exact hK _ _ hC (KeepS.refl _) rfl
                                simp only [Act.put, List.setIfInBounds_toArray, List.set_cons_zero, List.set_cons_succ]
                                refine relWalkA_pre rfl rfl (fun x2 hC hd K hK => ?_) (fun v8 => ?_)
                                · obtain rfl : v0 = _ := hd 0 (by kernel_rfl)
                                  obtain rfl : v5 = _ := hd 5 (by kernel_rfl)
                                  obtain rfl : v7 = _ := hd 7 (by kernel_rfl)
                                  have hC' : Below wc.heap.size wc x2 := hC
                                  go_simp
                                  go_at_call 32
                                  refine (hst x2 hC').mono ?_
                                  rintro e w1 ⟨h', A', cap', rfl, ht', hc', hk', hb⟩
                                  exact hK _ _ (bl_step hC' hb) (keep_below hb) ⟨h', A', cap', rfl, ht', hc', hk'⟩
                                simp only [Act.put, List.setIfInBounds_toArray, List.set_cons_zero, List.set_cons_succ]
                                refine relWalkA_pre rfl rfl (fun x2 hC hd K hK => ?_) (fun v9 => ?_)
                                · obtain ⟨h', A', cap', e, ht', hc', hk'⟩ := hd 8 (by kernel_rfl)
                                  obtain rfl : v8 = _ := e
                                  go_simp
                                  exact hK _ _ hC (KeepS.refl _) ⟨h', A', cap', rfl, ht', hc', hk'⟩
                                simp only [Act.put, List.setIfInBounds_toArray, List.set_cons_zero, List.set_cons_succ]
                                refine relWalkA_pre rfl rfl (fun x2 hC hd K hK => ?_) (fun v10 => ?_)
                                · obtain ⟨h', A', cap', e, ht', hc', hk'⟩ := hd 9 (by kernel_rfl)
                                  obtain rfl : v9 = _ := e
                                  go_simp
                                  exact hK _ _ hC (KeepS.refl _) ⟨h', A', cap', rfl, ht', hc', hk'⟩
                                simp only [Act.put, List.setIfInBounds_toArray, List.set_cons_zero, List.set_cons_succ]
                                refine relWalkA_any rfl (fun w => KeepS.refl w) (fun x2 hd K hK => ?_) (fun v11 => ?_)
                                · obtain ⟨h', A', cap', e, ht', hc', hk'⟩ := hd 9 (by kernel_rfl)
                                  obtain rfl : v9 = _ := e
                                  go_simp
                                  exact hK _ rfl
                                simp only [Act.put, List.setIfInBounds_toArray, List.set_cons_zero, List.set_cons_succ]
                                refine relWalkA_store (fun x2 hC hd K hK => ?_) (fun v12 => ?_)
                                · obtain ⟨h', A', cap', e, ht', hc', hk'⟩ := hd 10 (by kernel_rfl)
                                  obtain rfl : v10 = _ := e
                                  have hC' : Below wc.heap.size wc x2 := hC
                                  have HPUT := Lib.hid ((HO.out.step hC').put ht' hc' hk')
                                  have HX2 := bk_step HX.out hC'
                                  refine wp_store_row rfl 28 (.tmp 10) (.tmp 86) rfl rfl X #[.int .i64 h', .slice A' (cano h' (upd (dn c (exo c x) R) j (y, lowM m (1 + 1)))).kids.length cap', .int .i64 (cano h' (upd (dn c (exo c x) R) j (y, lowM m (1 + 1)))).val, .int .i64 (cano h' (upd (dn c (exo c x) R) j (y, lowM m (1 + 1)))).marks] rfl rfl 28 _ HX2 tree_size rfl (tree_one _ _ _ _ _ _) ?_
                                  exact hK undef _ ⟨h', HPUT.out⟩ (keep_setRow _ _ _ (fun z hz => hz.2.1)) trivial
                                simp only [Act.put, List.setIfInBounds_toArray, List.set_cons_zero, List.set_cons_succ]
                                refine relWalkA_nil ?_
                                intro wz hD hG
                                clear hG
                                clear HO hst HX hlX x0 x1 x2 x3 hfl p0 p1 p2
                                obtain ⟨h', hO⟩ := hD
                                have HO := Lib.hid hO
                                clear hO
                                go_wp2
                                go_roundw
                                case rel => exact ⟨1 + 1, h', by go_num, by omega, HO.out⟩
                                case measure => simp [intOf]
                            · skip
                              have hml := mk_low HM7.out (k := 2) (by omega) 4 rfl
                              have HML := Lib.hid hml
                              clear hml
                              have HOQ := fun n => Lib.hid (HO.out.step (below_drewN (Below.refl _ _) n))
                              by_cases q : bits .and .i64 m 4 = 0
                              · have hb : (bits .and .i64 m 4 != 0) = false := by simp [q]
                                have HQ := Lib.hid q
                                clear q
                                go_upto_region 15 with fail
                                go_quiet (fail)
                                go_wp2
                                go_roundw
                                case rel => exact ⟨2 + 1, h2, by go_num, by omega, by rw [← HML.out.2 HQ.out]; exact (HOQ _).out⟩
                                case measure => simp [intOf]
                              · have hb : (bits .and .i64 m 4 != 0) = true := by simp [q]
                                have hyp : 0 < y := and_zero_pos HYM.out (b := 4) rfl q
                                have HQ := Lib.hid q
                                clear q
                                go_upto_region 15 with fail
                                go_quiet (fail)
                                go_upto_region 16 with fail
                                rename_i nq
                                obtain ⟨wc, hV⟩ : ∃ V : World, V = wr.drewN nq := ⟨_, rfl⟩
                                rw [← hV]
                                have hO : OS w b Z B X h h2 c (upd (dn c (exo c x) R) j (y, lowM m 2)) (.slice (some ⟨f, o, none⟩) R.length ce) R wc := by rw [hV]; exact (HOQ nq).out
                                clear hV HOQ HO hfl p0 p1 p2
                                have HO := Lib.hid hO
                                obtain ⟨hfl, p0, p1, p2⟩ := hO.ea.cellsAt HRI.out
                                have hO' := hO
                                obtain ⟨A, cap, hX, hm, hcap, hk⟩ := hO'.tx
                                have hlf2 : leafy (upd (dn c (exo c x) R) j (y, lowM m 2)) := (leafy_dn HLF.out _ _).upd (x := (y, lowM m 2)) (.inr ⟨by show y ≠ 0; omega, (lowM_mk7 HM7.out 2 (by omega)).1, (lowM_mk7 HM7.out 2 (by omega)).2, .inl hyp⟩) j
                                have hst := fun w' (hb : Below wc.heap.size wc w') => mrk_w h2 (upd (dn c (exo c x) R) j (y, lowM m 2)) A cap (NS w b X) (j : Int) 4 w' hlf2 hO.ok hcap (hk.step hb) (fun z hz => hO.free z (Nat.le_trans hb.size hz))
                                rw [mark_pos hj (k := 4) rfl (by rw [upd_same]; exact hyp), upd_same, upd_upd, show orI (lowM m 2) 4 = lowM m (2 + 1) from HML.out.1 HQ.out] at hst
                                have HX := Lib.hid hX
                                have hlX := bk_lt hX
                                have x0 := cells_at hX 0; have x1 := cells_at hX 1; have x2 := cells_at hX 2; have x3 := cells_at hX 3; simp only [List.getElem?_toArray, List.getElem?_cons_zero, List.getElem?_cons_succ] at x0 x1 x2 x3
                                clear hO hO' hX hm hcap hk hb hlf2 HML
                                refine wp_region_sk (S := NS w b X) 122 12 (fun i => decide (i ≤ 10)) (fun wx => ∃ h', OS w b Z B X h h' c (upd (dn c (exo c x) R) j (y, lowM m (2 + 1))) (.slice (some ⟨f, o, none⟩) R.length ce) R wx) [SK.eq (trV h2 A (cano h2 (upd (dn c (exo c x) R) j (y, lowM m 2))).kids.length cap (cano h2 (upd (dn c (exo c x) R) j (y, lowM m 2))).val (cano h2 (upd (dn c (exo c x) R) j (y, lowM m 2))).marks), SK.eq (.slice (some ⟨f, o, none⟩) R.length ce), SK.eq (.int .i64 i), SK.eq (.pointer (some ⟨f, o + i * 3, none⟩)), SK.eq (.pointer (some ⟨f, o + i * 3, none⟩)), SK.eq (.int .i64 j), SK.eq (.int .i64 2), SK.eq (.int .i64 4), SK.te (NS w b X) (upd (dn c (exo c x) R) j (y, lowM m (2 + 1))) 0, SK.te (NS w b X) (upd (dn c (exo c x) R) j (y, lowM m (2 + 1))) 0, SK.tre (NS w b X) (upd (dn c (exo c x) R) j (y, lowM m (2 + 1))), SK.eq (.int .i64 0)] (by kernel_rfl) (by kernel_rfl) rfl (fun _ => trivial) ?_
                                refine relWalkA_pre rfl rfl (fun x hC hd K hK => ?_) (fun v0 => ?_)
                                · have hC' : Below wc.heap.size wc x := hC
                                  have u0 := (hC'.cell (p := ⟨X, _, none⟩) hlX).trans x0
                                  have u1 := (hC'.cell (p := ⟨X, _, none⟩) hlX).trans x1
                                  have u2 := (hC'.cell (p := ⟨X, _, none⟩) hlX).trans x2
                                  have u3 := (hC'.cell (p := ⟨X, _, none⟩) hlX).trans x3
                                  go_simp
                                  exact hK _ _ hC (KeepS.refl _) rfl
                                simp only [Act.put, List.setIfInBounds_toArray, List.set_cons_zero, List.set_cons_succ]
                                refine relWalkA_pre rfl rfl (fun x hC hd K hK => ?_) (fun v1 => ?_)
                                · go_simp
                                  exact hK _ _ hC (KeepS.refl _) rfl
                                simp only [Act.put, List.setIfInBounds_toArray, List.set_cons_zero, List.set_cons_succ]
                                refine relWalkA_pre rfl rfl (fun x hC hd K hK => ?_) (fun v2 => ?_)
                                · go_simp
                                  exact hK _ _ hC (KeepS.refl _) rfl
                                simp only [Act.put, List.setIfInBounds_toArray, List.set_cons_zero, List.set_cons_succ]
                                refine relWalkA_pre rfl rfl (fun x hC hd K hK => ?_) (fun v3 => ?_)
                                · obtain rfl : v1 = _ := hd 1 (by kernel_rfl)
                                  obtain rfl : v2 = _ := hd 2 (by kernel_rfl)
                                  go_simp
                                  exact hK _ _ hC (KeepS.refl _) rfl
                                simp only [Act.put, List.setIfInBounds_toArray, List.set_cons_zero, List.set_cons_succ]
                                refine relWalkA_pre rfl rfl (fun x hC hd K hK => ?_) (fun v4 => ?_)
                                · obtain rfl : v3 = _ := hd 3 (by kernel_rfl)
                                  go_simp
                                  exact hK _ _ hC (KeepS.refl _) rfl
                                simp only [Act.put, List.setIfInBounds_toArray, List.set_cons_zero, List.set_cons_succ]
                                refine relWalkA_pre rfl rfl (fun x hC hd K hK => ?_) (fun v5 => ?_)
                                · obtain rfl : v4 = _ := hd 4 (by kernel_rfl)
                                  have hC' : Below wc.heap.size wc x := hC
                                  have u0 := (hC'.cell (p := ⟨f, _, none⟩) hfl).trans p0
                                  go_simp
                                  exact hK _ _ hC (KeepS.refl _) rfl
                                simp only [Act.put, List.setIfInBounds_toArray, List.set_cons_zero, List.set_cons_succ]
                                refine relWalkA_pre rfl rfl (fun x hC hd K hK => ?_) (fun v6 => ?_)
                                · go_simp
                                  exact hK _ _ hC (KeepS.refl _) rfl
                                simp only [Act.put, List.setIfInBounds_toArray, List.set_cons_zero, List.set_cons_succ]
                                refine relWalkA_pre rfl rfl (fun x hC hd K hK => ?_) (fun v7 => ?_)
                                · obtain rfl : v6 = _ := hd 6 (by kernel_rfl)
                                  go_simp
                                  exact hK _ _ hC (KeepS.refl _) rfl
                                simp only [Act.put, List.setIfInBounds_toArray, List.set_cons_zero, List.set_cons_succ]
                                refine relWalkA_pre rfl rfl (fun x2 hC hd K hK => ?_) (fun v8 => ?_)
                                · obtain rfl : v0 = _ := hd 0 (by kernel_rfl)
                                  obtain rfl : v5 = _ := hd 5 (by kernel_rfl)
                                  obtain rfl : v7 = _ := hd 7 (by kernel_rfl)
                                  have hC' : Below wc.heap.size wc x2 := hC
                                  go_simp
                                  go_at_call 32
                                  refine (hst x2 hC').mono ?_
                                  rintro e w1 ⟨h', A', cap', rfl, ht', hc', hk', hb⟩
                                  exact hK _ _ (bl_step hC' hb) (keep_below hb) ⟨h', A', cap', rfl, ht', hc', hk'⟩
                                simp only [Act.put, List.setIfInBounds_toArray, List.set_cons_zero, List.set_cons_succ]
                                refine relWalkA_pre rfl rfl (fun x2 hC hd K hK => ?_) (fun v9 => ?_)
                                · obtain ⟨h', A', cap', e, ht', hc', hk'⟩ := hd 8 (by kernel_rfl)
                                  obtain rfl : v8 = _ := e
                                  go_simp
                                  exact hK _ _ hC (KeepS.refl _) ⟨h', A', cap', rfl, ht', hc', hk'⟩
                                simp only [Act.put, List.setIfInBounds_toArray, List.set_cons_zero, List.set_cons_succ]
                                refine relWalkA_pre rfl rfl (fun x2 hC hd K hK => ?_) (fun v10 => ?_)
                                · obtain ⟨h', A', cap', e, ht', hc', hk'⟩ := hd 9 (by kernel_rfl)
                                  obtain rfl : v9 = _ := e
                                  go_simp
                                  exact hK _ _ hC (KeepS.refl _) ⟨h', A', cap', rfl, ht', hc', hk'⟩
                                simp only [Act.put, List.setIfInBounds_toArray, List.set_cons_zero, List.set_cons_succ]
                                refine relWalkA_any rfl (fun w => KeepS.refl w) (fun x2 hd K hK => ?_) (fun v11 => ?_)
                                · obtain ⟨h', A', cap', e, ht', hc', hk'⟩ := hd 9 (by kernel_rfl)
                                  obtain rfl : v9 = _ := e
                                  go_simp
                                  exact hK _ rfl
                                simp only [Act.put, List.setIfInBounds_toArray, List.set_cons_zero, List.set_cons_succ]
                                refine relWalkA_store (fun x2 hC hd K hK => ?_) (fun v12 => ?_)
                                · obtain ⟨h', A', cap', e, ht', hc', hk'⟩ := hd 10 (by kernel_rfl)
                                  obtain rfl : v10 = _ := e
                                  have hC' : Below wc.heap.size wc x2 := hC
                                  have HPUT := Lib.hid ((HO.out.step hC').put ht' hc' hk')
                                  have HX2 := bk_step HX.out hC'
                                  refine wp_store_row rfl 28 (.tmp 10) (.tmp 86) rfl rfl X #[.int .i64 h', .slice A' (cano h' (upd (dn c (exo c x) R) j (y, lowM m (2 + 1)))).kids.length cap', .int .i64 (cano h' (upd (dn c (exo c x) R) j (y, lowM m (2 + 1)))).val, .int .i64 (cano h' (upd (dn c (exo c x) R) j (y, lowM m (2 + 1)))).marks] rfl rfl 28 _ HX2 tree_size rfl (tree_one _ _ _ _ _ _) ?_
                                  exact hK undef _ ⟨h', HPUT.out⟩ (keep_setRow _ _ _ (fun z hz => hz.2.1)) trivial
                                simp only [Act.put, List.setIfInBounds_toArray, List.set_cons_zero, List.set_cons_succ]
                                refine relWalkA_nil ?_
                                intro wz hD hG
                                clear hG
                                clear HO hst HX hlX x0 x1 x2 x3 hfl p0 p1 p2
                                obtain ⟨h', hO⟩ := hD
                                have HO := Lib.hid hO
                                clear hO
                                go_wp2
                                go_roundw
                                case rel => exact ⟨2 + 1, h', by go_num, by omega, HO.out⟩
                                case measure => simp [intOf]
                            · have hO := HO.out
                              rw [lowM_three HM7.out, dn_next HRR.out HRI.out exo_ok] at hO
                              have HO := Lib.hid hO
                              clear hO p0 p1 p2
                              have hcl := cutL_len hil
                              have e1' : (R.length : Int) ≤ (ce : Int) := by omega
                              have e2' : (ce : Int) ≤ 9223372036854775807 := by omega
                              have j0 : (i : Int) ≤ (ce : Int) := by omega
                              have j1 : (i : Int) + 1 ≤ (ce : Int) := by omega
                              have j3 : (0 : Int) ≤ (i : Int) + 1 := by omega
                              have j2 : IntKind.i64.wrap ((i : Int) + 1) = (i : Int) + 1 := IntWalk.i64_in ((i : Int) + 1) (by omega)
                              have j4 : ((i : Int) + 1).toNat = i + 1 := by omega
                              have k1 : i ≤ R.length := by omega
                              have k2 : i ≤ ce := by omega
                              have j5 : (i : Int) + 1 ≤ (R.length : Int) := by omega
                              have HOQ := fun n => Lib.hid (HO.out.step (below_drewN (Below.refl _ _) n))
                              go_upto_region 17 with fail
                              have HEA := Lib.hid (HO.out.step (w' := wr.drew) (Below.refl wr.heap.size wr).drew)
                              by_cases hm0 : i + 1 = R.length
                              · have HM0 := Lib.hid hm0
                                have j6 : R.length - (i + 1) = 0 := by omega
                                obtain ⟨B0, hB0⟩ : ∃ B0 : Option Addr, (if ce = i + 1 then some (⟨f, o, none⟩ : Addr) else some ⟨f, o + (i + 1) * 3, none⟩) = B0 := ⟨_, rfl⟩
                                clear hm0
                                go_still_tail 8, (by kernel_rfl)
                                change wpList _ _ _ _ _ wr.drew
                                generalize wr.drew = V at HEA
                                go_wp2_with (with_reducible refine wpList_appE_nil rfl (.tmp 91) (.tmp 95) rfl ⟨f, o, none⟩ _ i i _ (Nat.le_refl _) rfl rfl ?_)
                                go_roundw
                                case rel => exact ⟨cutL R i, h2, HEA.out.rest (Below.refl _ _) (HEA.out.ea.cut_last HM0.out), HRR.out.cut i, by omega⟩
                                case measure => simp only [lenV]; omega
                              · have hml : (ens (R.drop (i + 1))).length = (R.length - (i + 1)) * 3 := by rw [ens_len, List.length_drop]
                                have hol : (ens (R.take i)).length = i * 3 := by rw [ens_len, List.length_take]; omega
                                have hce : ce ≠ i + 1 := by omega
                                have hmm : 0 < R.length - (i + 1) := by omega
                                have HML := Lib.hid hml
                                have HOL := Lib.hid hol
                                obtain ⟨i0, hi, hz0, hz1, hz2⟩ := info_parts entry_info
                                have HI := Lib.hid hi
                                have HZ0 := Lib.hid hz0
                                have HZ1 := Lib.hid hz1
                                have HZ2 := Lib.hid hz2
                                clear hm0 hml hol hi hz0 hz1 hz2
                                go_still_tail 8, (by kernel_rfl)
                                change wpList _ _ _ _ _ wr.drew
                                generalize wr.drew = V at HEA
                                go_wp2_with (at_builtin; go_loud (refine wpList_append_grows _ rfl (.tmp 91) (.tmp 95) 41 rfl 48 i0 _ 3 24 Try.underlying41 HI.out HZ0.out HZ1.out HZ2.out rfl (by omega) (some ⟨f, o, none⟩) i i (ens (R.take i)) rfl (fun h => by cases h) HOL.out (HEA.out.ea.olds i) ⟨f, o + (i + 1) * 3, none⟩ (R.length - (i + 1)) _ (ens (R.drop (i + 1))) rfl HML.out (HEA.out.ea.news i) (ens_one _) (by omega) (by unfold maxLen; omega) (by omega) ?_); intro v4 w4 hown4 hg4; rw [cutL_ens, show i + (R.length - (i + 1)) = (cutL R i).length by omega] at hown4; have HN4 := Lib.hid (HEA.out.rest ((Below.refl _ _).grown hg4 (Nat.le_refl _) (fun k hk => by cases hk)) (EA.of_own (S := fun z => z ≠ X ∧ z ≠ b) hown4 (fun z hz => by have h1 := (hown4.lt z hz).1; have h2 := HEA.out.tx.lt; have h3 := HEA.out.tp.lt; exact ⟨by omega, by omega⟩))); clear hown4 hg4)
                                obtain ⟨E2, c2, he2, _⟩ := HN4.out.ea
                                subst he2
                                go_roundw
                                case rel => exact ⟨cutL R i, h2, HN4.out, HRR.out.cut i, by omega⟩
                                case measure => simp only [lenV]; omega
end Go.Proofs.Ytpoagdffpajdjaa
