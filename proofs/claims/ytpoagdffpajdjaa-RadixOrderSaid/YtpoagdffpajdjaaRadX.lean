/-
  A tree in a box; awake, by contract.
-/
import Derived.Test.YtpoagdffpajdjaaRadW
namespace Go.Proofs.Ytpoagdffpajdjaa
open Go.RowKit
set_option linter.unusedVariables false
set_option linter.unusedSimpArgs false

/-- Block b holds a tree, whose nodes lie in blocks of S. -/
def TR (w : World) (S : Nat → Prop) (b : Nat) (hI : Int) (t : T) : Prop := ∃ A cap, w.heap[b]? = some (.cells #[.int .i64 hI, .slice A t.kids.length cap, .int .i64 t.val, .int .i64 t.marks] 28 (0, 0)) ∧ t.kids.length ≤ maxLen ∧ t.kids.length ≤ cap ∧ NK w S A t.kids
theorem TR.step {w w' : World} {S : Nat → Prop} {b : Nat} {hI : Int} {t : T} (h : TR w S b hI t) (hb : Below w.heap.size w w') : TR w' S b hI t := by
  obtain ⟨A, cap, h1, h2, h3, h4⟩ := h
  exact ⟨A, cap, bk_step h1 hb, h2, h3, h4.step hb⟩
theorem TR.alloc {w : World} {S : Nat → Prop} {b : Nat} {hI : Int} {t : T} (h : TR w S b hI t) (o : Obj) : TR (w.alloc o) S b hI t := h.step ((Below.refl _ _).alloc (Nat.le_refl _) _)
theorem TR.lt {w : World} {S : Nat → Prop} {b : Nat} {hI : Int} {t : T} (h : TR w S b hI t) : b < w.heap.size := by obtain ⟨A, cap, h1, _⟩ := h; exact bk_lt h1
theorem TR.weak {w : World} {S S' : Nat → Prop} {b : Nat} {hI : Int} {t : T} (h : TR w S b hI t) (hs : ∀ z, z < w.heap.size → S z → S' z) : TR w S' b hI t := by
  obtain ⟨A, cap, h1, h2, h3, h4⟩ := h
  exact ⟨A, cap, h1, h2, h3, h4.weak hs⟩
theorem TR.kept {w w' : World} {S : Nat → Prop} {b : Nat} {hI : Int} {t : T} (h : TR w S b hI t) (hs : w.heap.size ≤ w'.heap.size) (hb : ∀ z, S z ∨ z = b → z < w.heap.size → w'.heap[z]? = w.heap[z]?) : TR w' S b hI t := by
  obtain ⟨A, cap, h1, h2, h3, h4⟩ := h
  exact ⟨A, cap, (hb b (.inr rfl) (bk_lt h1)).trans h1, h2, h3, h4.kept hs fun z hz => hb z (.inl hz)⟩
theorem TR.new {w : World} {S : Nat → Prop} {hI : Int} {t : T} {A : Option Addr} {cap : Nat} (h2 : t.kids.length ≤ maxLen) (h3 : t.kids.length ≤ cap) (h4 : NK w S A t.kids) : TR (w.alloc (.cells #[.int .i64 hI, .slice A t.kids.length cap, .int .i64 t.val, .int .i64 t.marks] 28)) S w.heap.size hI t :=
  ⟨A, cap, heap_alloc_new _ _, h2, h3, h4.alloc _⟩
/-- What is known of a valid tree's value. -/
structure VT (w : World) (S : Nat → Prop) (h : Nat) (c : Cn) (A : Option Addr) (cap : Nat) : Prop where
  hl : leafy c
  ok : TreeOk h c
  hc : (cano h c).kids.length ≤ cap
  nk : NK w S A (cano h c).kids
theorem VT.step {w w' : World} {S : Nat → Prop} {h : Nat} {c : Cn} {A : Option Addr} {cap : Nat} (v : VT w S h c A cap) (hb : Below w.heap.size w w') : VT w' S h c A cap := ⟨v.hl, v.ok, v.hc, v.nk.step hb⟩
theorem TR.vt {w : World} {S : Nat → Prop} {b h : Nat} {c : Cn} (t : TR w S b h (cano h c)) (hl : leafy c) (ok : TreeOk h c) : ∃ A cap, w.heap[b]? = some (.cells #[.int .i64 (h : Int), .slice A (cano h c).kids.length cap, .int .i64 (cano h c).val, .int .i64 (cano h c).marks] 28 (0, 0)) ∧ VT w S h c A cap := by
  obtain ⟨A, cap, h1, _, h3, h4⟩ := t
  exact ⟨A, cap, h1, hl, ok, h3, h4⟩
theorem leafy.upd {c : Cn} (h : leafy c) {x : Int × Int} (hx : leafV x) (i : Nat) : leafy (upd c i x) := fun j => by
  unfold Proofs.Ytpoagdffpajdjaa.upd
  split
  · exact hx
  · exact h j
def aw1 : Cn := upd zeroC 5 (9, 0)
def aw2 : Cn := upd aw1 5 (9, 1)
def aw3 : Cn := upd aw2 5 (0, 0)
theorem aw1_leafy : leafy aw1 := leafy_zero.upd (.inr ⟨by decide, by decide, by decide, .inl (by decide)⟩) 5
theorem aw2_leafy : leafy aw2 := aw1_leafy.upd (.inr ⟨by decide, by decide, by decide, .inl (by decide)⟩) 5
theorem aw3_leafy : leafy aw3 := aw2_leafy.upd (.inl rfl) 5
theorem aw1_ok : TreeOk 2 aw1 := ⟨by omega, fun i hi => by simp at hi; unfold aw1 upd zeroC; rw [if_neg (by omega)], .inr ⟨5, by decide, by decide⟩⟩
theorem aw2_ok : TreeOk 2 aw2 := ⟨by omega, fun i hi => by simp at hi; unfold aw2 aw1 upd zeroC; rw [if_neg (by omega), if_neg (by omega)], .inr ⟨5, by decide, by decide⟩⟩
theorem aw3_ok : TreeOk 0 aw3 := ⟨by omega, fun i hi => by unfold aw3 aw2 aw1 upd zeroC; (repeat' split) <;> rfl, .inl rfl⟩
theorem aw_set1 : setR zeroC 5 9 = (aw1, 0) := rfl
theorem aw_mark : markR aw1 5 1 = (aw2, 0) := rfl
theorem aw_set2 : setR aw2 5 0 = (aw3, 0) := rfl
theorem aw_ents : ents 0 16 aw2 = [(5, 9, 1)] := by decide +kernel
theorem aw_get : getR aw1 5 = 9 := by decide +kernel
theorem aw_marked : markedR aw2 5 1 = true := by decide +kernel
theorem aw_next : nextP (ents 0 16 aw2) 0 1 = (5, true) := by rw [aw_ents]; decide +kernel
theorem aw_count : countP (ents 0 16 aw2) 0 = 1 := by rw [aw_ents]; decide +kernel
theorem aw_bad : validT 1 .nil = false := by decide +kernel
theorem own_slice {w : World} {B sz n : Nat} {t : TypeId} {v : Value} {xs : List Value} (h : w.ownsRow B t sz v n xs) : ∃ A cap, v = .slice A n cap := by
  rcases h.2 with ⟨h1, rfl⟩ | ⟨g, cap, cur, h1, _⟩
  · exact ⟨none, 0, h1⟩
  · exact ⟨_, cap, h1⟩
def SP.tr (hI : Int) (t : T) (S : Nat → Prop) : SP := ⟨fun v w => ∃ A cap, v = trV hI A t.kids.length cap t.val t.marks ∧ t.kids.length ≤ cap ∧ NK w S A t.kids, fun v w w' hb ⟨A, cap, h1, h2, h3⟩ => ⟨A, cap, h1, h2, h3.step hb⟩⟩
set_option maxRecDepth 100000 in
set_option maxHeartbeats 4000000 in
theorem awake_w (w : World) : Calls Try.prog 26 #[] w (RetB true w) := by
  have h1 : ∀ w', Calls Try.prog 30 #[.agg #[.int .i64 0, .slice none 0 0, .int .i64 0, .int .i64 0], .int .i64 5, .int .i64 9] w' (RetTE aw1 0 Any w') := fun w' => set_w 0 zeroC none 0 Any 5 9 w' leafy_zero TreeOk.zero (Nat.zero_le _) (.nil _) (fun _ _ => trivial)
  have hbad : ∀ w', Calls Try.prog 15 #[.agg #[.int .i64 1, .slice none 0 0, .int .i64 0, .int .i64 0]] w' (RetB false w') := fun w' => by
    have := valid_w 1 .nil none 0 Any w' (Nat.zero_le _) (Nat.zero_le _) (.nil _)
    rw [aw_bad] at this
    exact this
  go_enter Try.func26, Try.ntmps26
  go_upto_region 1 with fail
  go_cut [1, 2] (fun s1 s2 wx => ∃ b1, s1 = .pointer (some ⟨b1, 0, none⟩) ∧ s2 = .int .i64 0 ∧ TR wx Any b1 2 (cano 2 aw1) ∧ Below w.heap.size w wx)
  case first =>
    go_wp2_with (go_at_call 30; (with_reducible refine Calls.mono (h1 _) ?_); rintro e w1 ⟨h', A', cap', rfl, ht', hc', hk', hb1⟩; obtain rfl := ht'.uniq aw1_ok)
    go_meet
    case rel => exact ⟨_, rfl, rfl, TR.new (cano_ml _ _) hc' hk', bl_alloc hb1 _⟩
  case rest =>
    clear h1
    obtain ⟨b1, rfl, rfl, hT, hW⟩ := hcut
    have HT1 := Lib.hid hT
    obtain ⟨A1, c1, hX1, _, hc1, hk1⟩ := hT
    have HW := Lib.hid hW
    have hm := fun w' (hb : Below wc.heap.size wc w') => mrk_w 2 aw1 A1 c1 Any 5 1 w' aw1_leafy aw1_ok hc1 (hk1.step hb) (fun _ _ => trivial)
    rw [aw_mark] at hm
    clear hW hk1 hc1
    generalize (cano 2 aw1).kids.length = n1 at *
    generalize (cano 2 aw1).val = v1 at *
    generalize (cano 2 aw1).marks = m1 at *
    have x0 := cells_at hX1 0; have x1 := cells_at hX1 1; have x2 := cells_at hX1 2; have x3 := cells_at hX1 3; simp only [List.getElem?_toArray, List.getElem?_cons_zero, List.getElem?_cons_succ] at x0 x1 x2 x3
    go_upto_region 2 with fail
    go_cut [3, 4] (fun s3 s4 wx => ∃ b2, s3 = .pointer (some ⟨b2, 0, none⟩) ∧ s4 = .int .i64 0 ∧ TR wx Any b1 2 (cano 2 aw1) ∧ TR wx Any b2 2 (cano 2 aw2) ∧ Below w.heap.size w wx)
    case first =>
      go_wp2_with (go_at_call 32; (with_reducible refine Calls.mono (hm _ (Below.refl _ _)) ?_); rintro e w1 ⟨h', A', cap', rfl, ht', hc', hk', hb1⟩; obtain rfl := ht'.uniq aw2_ok)
      go_meet
      case rel => exact ⟨_, rfl, rfl, (HT1.out.step hb1).alloc _, TR.new (cano_ml _ _) hc' hk', bl_alloc (bl_step HW.out hb1) _⟩
    case rest =>
      clear HT1 HW hm hX1 x0 x1 x2 x3
      obtain ⟨b2, rfl, rfl, hT1, hT, hW⟩ := hcut
      have HT1 := Lib.hid hT1
      have HT2 := Lib.hid hT
      obtain ⟨A2, c2, hX2, _, hc2, hk2⟩ := hT
      have HW := Lib.hid hW
      have hn := fun fr m w' (hb : Below wc.heap.size wc w') => rxNext_w 2 aw2 A2 c2 Any fr m w' aw2_leafy aw2_ok hc2 (hk2.step hb)
      have hs := fun w' (hb : Below wc.heap.size wc w') => set_w 2 aw2 A2 c2 Any 5 0 w' aw2_leafy aw2_ok hc2 (hk2.step hb) (fun _ _ => trivial)
      rw [aw_set2] at hs
      have hn1 := fun w' hb => hn 0 1 w' hb
      unfold RetNx at hn1
      rw [show 4 ^ 2 = 16 from rfl, aw_next] at hn1
      clear hT1 hW hn
      obtain ⟨W2, hW2⟩ : ∃ W2 : World, W2 = wc := ⟨_, rfl⟩
      subst hW2
      have hge := fun w' (hb : Below W2.heap.size W2 w') => marked_w 2 aw2 A2 c2 Any 5 1 w' aw2_leafy aw2_ok hc2 (hk2.step hb)
      rw [aw_marked] at hge
      have hco := fun w' (hb : Below W2.heap.size W2 w') => count_w 2 aw2 A2 c2 Any 0 w' aw2_leafy aw2_ok hc2 (hk2.step hb)
      rw [show 4 ^ 2 = 16 from rfl, aw_count] at hco
      have hen := fun w' (hb : Below W2.heap.size W2 w') => entries_w 2 aw2 A2 c2 Any w' aw2_leafy aw2_ok hc2 (hk2.step hb)
      rw [show 4 ^ 2 = 16 from rfl, aw_ents] at hen
      clear hk2 hc2
      generalize (cano 2 aw2).kids.length = n2 at *
      generalize (cano 2 aw2).val = v2 at *
      generalize (cano 2 aw2).marks = m2 at *
      have HX2 := Lib.hid hX2
      clear hX2
      have x0 := cells_at HX2.out 0; have x1 := cells_at HX2.out 1; have x2 := cells_at HX2.out 2; have x3 := cells_at HX2.out 3; simp only [List.getElem?_toArray, List.getElem?_cons_zero, List.getElem?_cons_succ] at x0 x1 x2 x3
      go_upto_region 3 with fail
      go_cut [5, 6] (fun s5 s6 wx => s5 = .int .i64 5 ∧ s6 = .bool true ∧ Below W2.heap.size W2 wx)
      case first =>
        go_wp2_with (go_at_call 13; (with_reducible refine Calls.mono (hn1 _ (Below.refl _ _)) ?_); rintro e w1 ⟨rfl, hb1⟩)
        go_meet
        case rel => exact ⟨rfl, rfl, hb1⟩
      case rest =>
        clear x0 x1 x2 x3 hn1
        obtain ⟨rfl, rfl, hB⟩ := hcut
        have HB := Lib.hid hB
        have HX3 := Lib.hid (bk_step HX2.out hB)
        have x0 := cells_at HX3.out 0; have x1 := cells_at HX3.out 1; have x2 := cells_at HX3.out 2; have x3 := cells_at HX3.out 3; simp only [List.getElem?_toArray, List.getElem?_cons_zero, List.getElem?_cons_succ] at x0 x1 x2 x3
        clear hB
        go_upto_region 4 with fail
        go_cut [7, 8] (fun s7 s8 wx => ∃ b3, s7 = .pointer (some ⟨b3, 0, none⟩) ∧ s8 = .int .i64 0 ∧ TR wx Any b3 0 (cano 0 aw3) ∧ Below W2.heap.size W2 wx)
        case first =>
          go_wp2_with (go_at_call 30; (with_reducible refine Calls.mono (hs _ HB.out) ?_); rintro e w1 ⟨h', A', cap', rfl, ht', hc', hk', hb1⟩; obtain rfl := ht'.uniq aw3_ok)
          go_meet
          case rel => exact ⟨_, rfl, rfl, TR.new (cano_ml _ _) hc' hk', bl_alloc (bl_step HB.out hb1) _⟩
        case rest =>
          clear HB HX3 x0 x1 x2 x3 hs
          obtain ⟨b3, rfl, rfl, hT3, hB⟩ := hcut
          obtain ⟨W3, hW3⟩ : ∃ W3 : World, W3 = wc := ⟨_, rfl⟩
          subst hW3
          have HB := Lib.hid hB
          have hT1 := HT1.out.step hB
          have HX2' := Lib.hid (bk_step HX2.out hB)
          obtain ⟨A1', c1', hX1, _, hc1', hk1'⟩ := hT1
          have hge1 := fun w' (hb : Below W3.heap.size W3 w') => get_w 2 aw1 A1' c1' Any 5 w' aw1_leafy aw1_ok hc1' (hk1'.step hb)
          rw [aw_get] at hge1
          obtain ⟨A3, c3, hX3, _, hc3, hk3⟩ := hT3
          have hva := fun w' (hb : Below W3.heap.size W3 w') => valid_w (0 : Nat) (cano 0 aw3) A3 c3 Any w' (cano_ml _ _) hc3 (hk3.step hb)
          rw [valid_of aw3_leafy aw3_ok] at hva
          rw [show (cano 0 aw3).kids.length = 0 from rfl] at hva hX3
          have x0 := cells_at hX1 0
          have x1 := cells_at hX1 1
          have x2 := cells_at hX1 2
          have x3 := cells_at hX1 3
          have y0 := cells_at HX2'.out 0
          have y1 := cells_at HX2'.out 1
          have y2 := cells_at HX2'.out 2
          have y3 := cells_at HX2'.out 3
          have z0 := cells_at hX3 0
          have z1 := cells_at hX3 1
          have z2 := cells_at hX3 2
          have z3 := cells_at hX3 3
          simp only [List.getElem?_toArray, List.getElem?_cons_zero, List.getElem?_cons_succ] at x0 x1 x2 x3 y0 y1 y2 y3 z0 z1 z2 z3
          have l1 := bk_lt hX1
          have l2 := bk_lt HX2'.out
          have l3 := bk_lt hX3
          have HBW := Lib.hid (bl_step HW.out HB.out)
          clear hX1 hX3 hB hc1' hk1' hc3 hk3
          generalize (cano 2 aw1).kids.length = n1 at *
          generalize (cano 2 aw1).val = v1 at *
          generalize (cano 2 aw1).marks = m1 at *
          generalize (cano 0 aw3).val = v3 at *
          generalize (cano 0 aw3).marks = m3 at *
          go_wp2_with (first
            | (go_at_call 17; (with_reducible refine Calls.mono (hge1 _ (Below.refl _ _)) ?_); rintro e w1 ⟨rfl, hb⟩; have HB1 := Lib.hid hb; obtain ⟨hc, hf, s1, s2, s3, s4, s5, s6, s7⟩ := kept HB1.out; clear hb)
            | (go_at_call 19; (with_reducible refine Calls.mono (hge _ (bl_step HB.out HB1.out)) ?_); rintro e w2 ⟨rfl, hb⟩; have HB2 := Lib.hid (bl_step HB1.out hb); obtain ⟨hc, hf, s1, s2, s3, s4, s5, s6, s7⟩ := kept HB2.out; clear hb)
            | (go_at_call 15; (with_reducible refine Calls.mono (hva _ HB2.out) ?_); rintro e w3 ⟨rfl, hb⟩; have HB3 := Lib.hid (bl_step HB2.out hb); obtain ⟨hc, hf, s1, s2, s3, s4, s5, s6, s7⟩ := kept HB3.out; clear hb)
            | (go_at_call 15; (with_reducible refine Calls.mono (hbad _) ?_); rintro e w4 ⟨rfl, hb⟩; have HB4 := Lib.hid (bl_step HB3.out hb); obtain ⟨hc, hf, s1, s2, s3, s4, s5, s6, s7⟩ := kept HB4.out; clear hb)
            | (go_at_call 21; (with_reducible refine Calls.mono (hco _ (bl_step HB.out HB4.out)) ?_); rintro e w5 ⟨rfl, hb⟩; have HB5 := Lib.hid (bl_step HB4.out hb); obtain ⟨hc, hf, s1, s2, s3, s4, s5, s6, s7⟩ := kept HB5.out; clear hb)
            | (go_at_call 24; (with_reducible refine Calls.mono (hen _ (bl_step HB.out HB5.out)) ?_); rintro e w6 ⟨vv, rfl, hown, hb⟩; have HB6 := Lib.hid (bl_step HB5.out hb); obtain ⟨Ae, ce, hve⟩ := own_slice hown; rw [show ([(5, 9, 1)] : List En).length = 1 from rfl] at hve; subst hve; clear hown; obtain ⟨hc, hf, s1, s2, s3, s4, s5, s6, s7⟩ := kept HB6.out; clear hb))
          go_ret
          exact ⟨rfl, bl_step HBW.out HB6.out⟩

end Go.Proofs.Ytpoagdffpajdjaa
