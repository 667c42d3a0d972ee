/-
  The law InodePairs: plain part and walk.
-/
import Derived.Test.YtcgfffkfmnbneaaInoP
import Derived.Deep.CutBlock
namespace Go.Proofs.Ytcgfffkfmnbneaa
open Go.RowKit
set_option linter.unusedVariables false
set_option linter.unusedSimpArgs false

def RetP (q s b n : Int) (w : World) (e : Ending) (w' : World) : Prop := e = .returned (.tuple #[.agg #[.int .i64 q, .int .i64 s, .int .i64 b], .int .i64 n, .bool true]) ∧ Below w.heap.size w w'
theorem dec_same {q s b f : Int} (hv : vaB q s b = true) (h1 : 0 ≤ f) (h2 : f < 8) :
    decOk (secH (by8 (q / 256)) (by8 (q % 256)) (by8 s) (by8 b) f) f = true ∧ decQ (secH (by8 (q / 256)) (by8 (q % 256)) (by8 s) (by8 b) f) f = q ∧ decS (secH (by8 (q / 256)) (by8 (q % 256)) (by8 s) (by8 b) f) f = s ∧ decB (secH (by8 (q / 256)) (by8 (q % 256)) (by8 s) (by8 b) f) f = b :=
  (mixed hv hv h1 h2 _ rfl).1 ⟨rfl, rfl, rfl⟩
/-- Two sectors that are decoded, the first one older. -/
theorem choose_new {q s b q' s' b' f : Int} {S T : ByteArray} (hS : decOk S f = true ∧ decQ S f = q ∧ decS S f = s ∧ decB S f = b) (hT : decOk T f = true ∧ decQ T f = q' ∧ decS T f = s' ∧ decB T f = b') (hl : q < q') (mS : S.size ≤ maxLen) (mT : T.size ≤ maxLen) (w : World) :
    Calls Try.prog 15 #[.string S, .string T, .int .i64 f] w (RetP q' s' b' 1 w) ∧ Calls Try.prog 15 #[.string T, .string S, .int .i64 f] w (RetP q' s' b' 0 w) := by
  obtain ⟨s0, s1, s2, s3⟩ := hS
  obtain ⟨t0, t1, t2, t3⟩ := hT
  have c1 := choose_w S T f w mS mT
  have c2 := choose_w T S f w mT mS
  unfold RetCh RetC at c1 c2
  rw [s0, s1, s2, s3, t0, t1, t2, t3] at c1 c2
  have p1 : pk true true q q' = true := by simp [pk, hl]
  have p2 : pk true true q' q = false := by simp [pk]; omega
  rw [p1] at c1
  rw [p2] at c2
  exact ⟨c1, c2⟩
/-- One sector that is decoded, and one that is not. -/
theorem choose_one {q s b f : Int} {S T : ByteArray} (hS : decOk S f = true ∧ decQ S f = q ∧ decS S f = s ∧ decB S f = b) (hT : decOk T f = false) (mS : S.size ≤ maxLen) (mT : T.size ≤ maxLen) (w : World) :
    Calls Try.prog 15 #[.string T, .string S, .int .i64 f] w (RetP q s b 1 w) ∧ Calls Try.prog 15 #[.string S, .string T, .int .i64 f] w (RetP q s b 0 w) := by
  obtain ⟨s0, s1, s2, s3⟩ := hS
  have c1 := choose_w S T f w mS mT
  have c2 := choose_w T S f w mT mS
  unfold RetCh RetC at c1 c2
  rw [s0, s1, s2, s3, hT] at c1 c2
  exact ⟨c2, c1⟩

/-- What the law leans on: three inodes, their sectors, and what is chosen. -/
theorem pairs_pack {q0 s0 b0 q1 s1 b1 q2 s2 b2 f : Int} (v0 : vaB q0 s0 b0 = true) (v1 : vaB q1 s1 b1 = true) (v2 : vaB q2 s2 b2 = true) (l1 : q0 < q1) (l2 : q1 < q2) (h1 : 0 ≤ f) (h2 : f < 8) :
    ∃ SA SB SC T0 T1, (∀ w, Calls Try.prog 11 #[.agg #[.int .i64 q0, .int .i64 s0, .int .i64 b0], .int .i64 f] w (RetSE SA 0 w)) ∧
      (∀ w, Calls Try.prog 11 #[.agg #[.int .i64 q1, .int .i64 s1, .int .i64 b1], .int .i64 f] w (RetSE SB 0 w)) ∧
      (∀ w, Calls Try.prog 11 #[.agg #[.int .i64 q2, .int .i64 s2, .int .i64 b2], .int .i64 f] w (RetSE SC 0 w)) ∧
      (∀ w, Calls Try.prog 20 #[.string SA, .string SC, .int .i64 0] w (RetSE T0 0 w)) ∧ (∀ w, Calls Try.prog 20 #[.string SA, .string SC, .int .i64 1] w (RetSE T1 0 w)) ∧
      (∀ S, S = SA ∨ S = T0 ∨ S = T1 → ∀ w, Calls Try.prog 15 #[.string SB, .string S, .int .i64 f] w (RetP q1 s1 b1 0 w) ∧ Calls Try.prog 15 #[.string S, .string SB, .int .i64 f] w (RetP q1 s1 b1 1 w)) ∧
      (∀ w, Calls Try.prog 15 #[.string SB, .string SC, .int .i64 f] w (RetP q2 s2 b2 1 w) ∧ Calls Try.prog 15 #[.string SC, .string SB, .int .i64 f] w (RetP q2 s2 b2 0 w)) := by
  obtain ⟨e1, e2⟩ := enc_v v0 h1 h2
  obtain ⟨e3, e4⟩ := enc_v v1 h1 h2
  obtain ⟨e5, e6⟩ := enc_v v2 h1 h2
  have c0 := encode_w q0 s0 b0 f
  have c1 := encode_w q1 s1 b1 f
  have c2 := encode_w q2 s2 b2 f
  rw [e1, e2] at c0
  rw [e3, e4] at c1
  rw [e5, e6] at c2
  have g0 := dec_same v0 h1 h2
  have g1 := dec_same v1 h1 h2
  have g2 := dec_same v2 h1 h2
  obtain ⟨t1, t2⟩ := toS_0 (by8 (q0 / 256)) (by8 (q0 % 256)) (by8 s0) (by8 b0) (by8 (q2 / 256)) (by8 (q2 % 256)) (by8 s2) (by8 b2) f
  obtain ⟨t3, t4⟩ := toS_1 (by8 (q0 / 256)) (by8 (q0 % 256)) (by8 s0) (by8 b0) (by8 (q2 / 256)) (by8 (q2 % 256)) (by8 s2) (by8 b2) f
  have d0 := fun w => torn_w _ _ 0 w (secH_size (by8 (q0 / 256)) (by8 (q0 % 256)) (by8 s0) (by8 b0) f) (secH_size (by8 (q2 / 256)) (by8 (q2 % 256)) (by8 s2) (by8 b2) f)
  have d1 := fun w => torn_w _ _ 1 w (secH_size (by8 (q0 / 256)) (by8 (q0 % 256)) (by8 s0) (by8 b0) f) (secH_size (by8 (q2 / 256)) (by8 (q2 % 256)) (by8 s2) (by8 b2) f)
  rw [t1, t2] at d0
  rw [t3, t4] at d1
  have n0 := (mixed v2 v0 h1 h2 _ rfl).2 (fun h => by omega)
  have n1 := (mixed v0 v2 h1 h2 _ rfl).2 (fun h => by omega)
  refine ⟨_, _, _, _, _, c0, c1, c2, d0, d1, ?_, fun w => choose_new g1 g2 l2 (secH_size _ _ _ _ _) (secH_size _ _ _ _ _) w⟩
  rintro S (rfl | rfl | rfl) w
  · exact (choose_new g0 g1 l1 (secH_size _ _ _ _ _) (secH_size _ _ _ _ _) w).symm
  · exact (choose_one g1 n0 (secH_size _ _ _ _ _) (sec_size _ _ _ _ _ _ _ _) w).symm
  · exact (choose_one g1 n1 (secH_size _ _ _ _ _) (sec_size _ _ _ _ _ _ _ _) w).symm

theorem val_i64 {x : Int} (h : -9223372036854775808 ≤ x ∧ x < 9223372036854775808) : Value.int .i64 (IntKind.i64.wrap x) = Value.int .i64 x := by rw [IntWalk.i64_in x (by omega)]
/-- What is known of the values of the regions that draw the second and the third inode. -/
def PG (B b A : Nat) (q : Int) (j : Nat) (v : Value) (w : World) : Prop :=
  match j with
  | 0 => v = .pointer (some ⟨A, 0, none⟩)
  | 1 => v = .int .i64 q
  | 2 => v = .int .i64 (q + 1)
  | 3 => v = .pointer (some ⟨b, 0, none⟩)
  | 4 => ∃ y, v = .int .i64 y ∧ 0 ≤ y ∧ y < 129
  | 5 => v = .pointer (some ⟨b, 0, none⟩)
  | 6 => ∃ y, v = .int .i64 y ∧ 0 ≤ y ∧ y < 256
  | 7 => ∃ s c, v = .agg #[.int .i64 (q + 1), .int .i64 s, .int .i64 c] ∧ (0 ≤ s ∧ s < 129) ∧ (0 ≤ c ∧ c < 256)
  | 8 => ∃ g, v = .pointer (some ⟨g, 0, none⟩) ∧ g ≠ b ∧ B ≤ g ∧ w.heap[g]? = some IN0
  | _ => True
theorem PG.keep {B b A : Nat} {q : Int} {w w' : World} (hr : w.grownBy w' (some b)) : ∀ j v, PG B b A q j v w → PG B b A q j v w'
  | 0, v, h => h
  | 1, v, h => h
  | 2, v, h => h
  | 3, v, h => h
  | 4, v, h => h
  | 5, v, h => h
  | 6, v, h => h
  | 7, v, h => h
  | 8, v, ⟨g, h1, h2, h0, h3⟩ => ⟨g, h1, h2, h0, gb_block hr h2 h3⟩
  | _ + 9, v, h => h
def PH (B b A : Nat) (q : Int) (j : Nat) (v : Value) (w : World) : Prop :=
  match j with
  | 0 => v = .pointer (some ⟨A, 0, none⟩)
  | 1 => v = .int .i64 q
  | 2 => v = .int .i64 (q + 1)
  | 3 => v = .pointer (some ⟨b, 0, none⟩)
  | 4 => ∃ y, v = .int .i64 y ∧ 0 ≤ y ∧ y < 3
  | 5 => ∃ y, v = .int .i64 (q + 1 + y) ∧ 0 ≤ y ∧ y < 3
  | 6 => v = .pointer (some ⟨b, 0, none⟩)
  | 7 => ∃ y, v = .int .i64 y ∧ 0 ≤ y ∧ y < 129
  | 8 => v = .pointer (some ⟨b, 0, none⟩)
  | 9 => ∃ y, v = .int .i64 y ∧ 0 ≤ y ∧ y < 256
  | 10 => ∃ y s c, v = .agg #[.int .i64 (q + 1 + y), .int .i64 s, .int .i64 c] ∧ (0 ≤ y ∧ y < 3) ∧ (0 ≤ s ∧ s < 129) ∧ (0 ≤ c ∧ c < 256)
  | 11 => ∃ g, v = .pointer (some ⟨g, 0, none⟩) ∧ g ≠ b ∧ B ≤ g ∧ w.heap[g]? = some IN0
  | _ => True
theorem PH.keep {B b A : Nat} {q : Int} {w w' : World} (hr : w.grownBy w' (some b)) : ∀ j v, PH B b A q j v w → PH B b A q j v w'
  | 0, v, h => h
  | 1, v, h => h
  | 2, v, h => h
  | 3, v, h => h
  | 4, v, h => h
  | 5, v, h => h
  | 6, v, h => h
  | 7, v, h => h
  | 8, v, h => h
  | 9, v, h => h
  | 10, v, h => h
  | 11, v, ⟨g, h1, h2, h0, h3⟩ => ⟨g, h1, h2, h0, gb_block hr h2 h3⟩
  | _ + 12, v, h => h

set_option maxRecDepth 100000 in
set_option maxHeartbeats 4000000 in
theorem inodePairs_walk (a0 : Option Addr) (len0 cap0 : Nat) (z0 : List Int) (w : World) (w0 : IsRow .i64 w a0 len0 cap0 z0) :
    Calls Try.prog 5 #[.slice a0 len0 cap0] w fun e w' => e = .returned (.bool true) ∧ Below w.heap.size w w' := by
  have hT0 := Tp.start w0
  clear w0
  go_enter Try.func5, Try.ntmps5
  go_upto_region 3 with (go_at_call 19; refine (next_t _ w _ _ (by omega) (by omega) hT0).mono ?_; rintro e w1 ⟨f, rfl, f0, f1, hT1, hg1⟩)
  go_cut [5] (fun s5 wx => ∃ A q s b, s5 = .pointer (some ⟨A, 0, none⟩) ∧ A ≠ w.heap.size ∧ IAt wx A q s b ∧ (0 ≤ q ∧ q < 60000) ∧ (0 ≤ s ∧ s < 129) ∧ (0 ≤ b ∧ b < 256) ∧ Tp w w.heap.size wx)
  case first =>
    go_wp2_with (first
      | (go_at_call 19; refine (next_t _ w _ _ (by omega) (by omega) hT1).mono ?_; rintro e w2 ⟨q, rfl, q0, q1, hT2, hg2⟩; clear hT1)
      | (go_at_call 19; refine (next_t _ w _ _ (by omega) (by omega) hT2).mono ?_; rintro e w3 ⟨s, rfl, s0, s1, hT3, hg3⟩; clear hT2)
      | (go_at_call 19; refine (next_t _ w _ _ (by omega) (by omega) hT3).mono ?_; rintro e w4 ⟨b, rfl, b0, b1, hT4, hg4⟩; clear hT3))
    go_meet
    case rel => exact ⟨_, _, _, _, rfl, by have := hT4.lt; omega, IAt.new _ _ _ _ _ rfl, ⟨q0, q1⟩, ⟨s0, s1⟩, ⟨b0, b1⟩, hT4.alloc _⟩
  case rest =>
    obtain ⟨A, q, s, b, rfl, hne, iA, ⟨q0, q1⟩, ⟨s0, s1⟩, ⟨b0, b1⟩, hT⟩ := hcut
    clear hT0 hT1 hg1
    go_upto_region 4 with fail
    go_cut [6] (fun s6 wx => ∃ A2 s' b', s6 = .pointer (some ⟨A2, 0, none⟩) ∧ A2 ≠ w.heap.size ∧ IAt wx A2 (q + 1) s' b' ∧ (0 ≤ s' ∧ s' < 129) ∧ (0 ≤ b' ∧ b' < 256) ∧ IAt wx A q s b ∧ Tp w w.heap.size wx)
    case first =>
      refine wp_region_rel 9 158 (fun w' => Tp w w.heap.size w' ∧ IAt w' A q s b ∧ wc.grownBy w' (some w.heap.size)) (fun x y => x.grownBy y (some w.heap.size)) (PG wc.heap.size w.heap.size A q) (by kernel_rfl) (by kernel_rfl) rfl ⟨hT.drew, iA.drew, grownBy_drewN wc 1 _⟩ (fun x y hr => PG.keep hr) ?_
      simp only [List.take_succ_cons, List.take_zero, List.drop_succ_cons, List.drop_zero]
      have lA0 := iA.lt
      have lb0 := hT.lt
      have HA0 := Lib.hid iA
      clear hT iA
      refine relWalk_cons (fun x hC hd K hK => ?_) (fun v0 => ?_)
      · go_simp
        exact hK _ _ hC (World.grownBy.refl _ _) rfl
      simp only [Act.put, List.setIfInBounds_toArray, List.set_cons_zero, List.set_cons_succ]
      refine relWalk_cons (fun x hC hd K hK => ?_) (fun v1 => ?_)
      · obtain rfl : v0 = _ := hd 0 (by kernel_rfl)
        obtain ⟨m0, m1, m2⟩ := hC.2.1.cell
        go_simp
        exact hK _ _ hC (World.grownBy.refl _ _) rfl
      simp only [Act.put, List.setIfInBounds_toArray, List.set_cons_zero, List.set_cons_succ]
      refine relWalk_cons (fun x hC hd K hK => ?_) (fun v2 => ?_)
      · obtain rfl : v1 = _ := hd 1 (by kernel_rfl)
        go_simp
        exact hK _ _ hC (World.grownBy.refl _ _) (val_i64 (by omega))
      simp only [Act.put, List.setIfInBounds_toArray, List.set_cons_zero, List.set_cons_succ]
      refine relWalk_cons (fun x hC hd K hK => ?_) (fun v3 => ?_)
      · go_simp
        exact hK _ _ hC (World.grownBy.refl _ _) rfl
      simp only [Act.put, List.setIfInBounds_toArray, List.set_cons_zero, List.set_cons_succ]
      refine relWalk_cons (fun x hC hd K hK => ?_) (fun v4 => ?_)
      · obtain rfl : v3 = _ := hd 3 (by kernel_rfl)
        go_simp
        go_at_call 19
        refine (next_t _ w x _ (by omega) (by omega) hC.1).mono ?_
        rintro e w1 ⟨y, rfl, y0, y1, hT1, hg⟩
        exact hK _ _ ⟨hT1, IAt.grown hg hne hC.2.1, grownBy_trans hC.2.2 hg⟩ hg ⟨y, rfl, y0, y1⟩
      simp only [Act.put, List.setIfInBounds_toArray, List.set_cons_zero, List.set_cons_succ]
      refine relWalk_cons (fun x hC hd K hK => ?_) (fun v5 => ?_)
      · go_simp
        exact hK _ _ hC (World.grownBy.refl _ _) rfl
      simp only [Act.put, List.setIfInBounds_toArray, List.set_cons_zero, List.set_cons_succ]
      refine relWalk_cons (fun x hC hd K hK => ?_) (fun v6 => ?_)
      · obtain rfl : v5 = _ := hd 5 (by kernel_rfl)
        go_simp
        go_at_call 19
        refine (next_t _ w x _ (by omega) (by omega) hC.1).mono ?_
        rintro e w1 ⟨y, rfl, y0, y1, hT1, hg⟩
        exact hK _ _ ⟨hT1, IAt.grown hg hne hC.2.1, grownBy_trans hC.2.2 hg⟩ hg ⟨y, rfl, y0, y1⟩
      simp only [Act.put, List.setIfInBounds_toArray, List.set_cons_zero, List.set_cons_succ]
      refine relWalk_cons (fun x hC hd K hK => ?_) (fun v7 => ?_)
      · obtain rfl : v2 = _ := hd 2 (by kernel_rfl)
        obtain ⟨s', rfl, t0, t1⟩ := hd 4 (by kernel_rfl)
        obtain ⟨b', rfl, t2, t3⟩ := hd 6 (by kernel_rfl)
        go_simp
        exact hK _ _ hC (World.grownBy.refl _ _) ⟨s', b', rfl, ⟨t0, t1⟩, ⟨t2, t3⟩⟩
      simp only [Act.put, List.setIfInBounds_toArray, List.set_cons_zero, List.set_cons_succ]
      refine relWalk_cons (fun x hC hd K hK => ?_) (fun v8 => ?_)
      · go_simp
        exact hK _ _ ⟨hC.1.alloc _, hC.2.1.alloc _, grownBy_trans hC.2.2 (World.grownBy_alloc _ _ _)⟩ (World.grownBy_alloc _ _ _) ⟨_, rfl, by have := hC.1.lt; omega, hC.2.2.size, heap_alloc_new _ _⟩
      simp only [Act.put, List.setIfInBounds_toArray, List.set_cons_zero, List.set_cons_succ]
      refine relWalk_nil ?_
      intro x hC hG
      obtain ⟨s', b', e7, g1, g2⟩ := hG 7 (by omega)
      obtain ⟨g, e8, hn, hge, hi⟩ := hG 8 (by omega)
      obtain rfl : v7 = _ := e7
      obtain rfl : v8 = _ := e8
      obtain ⟨c0, c1, c2⟩ : x.cell? ⟨g, 0, none⟩ = some (.int .i64 0) ∧ x.cell? ⟨g, 1, none⟩ = some (.int .i64 0) ∧ x.cell? ⟨g, 2, none⟩ = some (.int .i64 0) := ⟨cells_at hi 0, cells_at hi 1, cells_at hi 2⟩
      have f0 := free_at hi 0
      have f1 := free_at hi 1
      have f2 := free_at hi 2
      have HI := Lib.hid hi
      clear hi
      go_wp2
      go_meet
      case rel =>
        have hgA : A ≠ g := by omega
        exact ⟨_, _, _, rfl, hn, ((IAt.set0 HI.out (q + 1)).set1 s').set2 b', g1, g2, set_other (by simpa using hgA) (set_other (by simpa using hgA) (set_other (by simpa using hgA) hC.2.1)), ((hC.1.set _ _ (by simp; omega)).set _ _ (by simp; omega)).set _ _ (by simp; omega)⟩
    case rest =>
      clear hT iA
      obtain ⟨A2, s', b', rfl, hne2, iA2, hs', hb', iA, hT⟩ := hcut
      go_upto_region 5 with fail
      go_cut [7] (fun s7 wx => ∃ A3 q2 s2 b2, s7 = .pointer (some ⟨A3, 0, none⟩) ∧ A3 ≠ w.heap.size ∧ IAt wx A3 q2 s2 b2 ∧ (q + 1 < q2 ∧ q2 < q + 5) ∧ (0 ≤ s2 ∧ s2 < 129) ∧ (0 ≤ b2 ∧ b2 < 256) ∧ IAt wx A2 (q + 1) s' b' ∧ IAt wx A q s b ∧ Tp w w.heap.size wx)
      case first =>
        refine wp_region_rel 12 158 (fun w' => Tp w w.heap.size w' ∧ IAt w' A2 (q + 1) s' b' ∧ wc.grownBy w' (some w.heap.size)) (fun x y => x.grownBy y (some w.heap.size)) (PH wc.heap.size w.heap.size A2 (q + 1)) (by kernel_rfl) (by kernel_rfl) rfl ⟨hT.drew, iA2.drew, grownBy_drewN wc 1 _⟩ (fun x y hr => PH.keep hr) ?_
        simp only [List.take_succ_cons, List.take_zero, List.drop_succ_cons, List.drop_zero]
        have lA0 := iA.lt
        have lA2 := iA2.lt
        have lb0 := hT.lt
        have HA0 := Lib.hid iA
        clear hT iA iA2
        have hneA := hne
        clear hne
        have hne := hne2
        refine relWalk_cons (fun x hC hd K hK => ?_) (fun v0 => ?_)
        · go_simp
          exact hK _ _ hC (World.grownBy.refl _ _) rfl
        simp only [Act.put, List.setIfInBounds_toArray, List.set_cons_zero, List.set_cons_succ]
        refine relWalk_cons (fun x hC hd K hK => ?_) (fun v1 => ?_)
        · obtain rfl : v0 = _ := hd 0 (by kernel_rfl)
          obtain ⟨m0, m1, m2⟩ := hC.2.1.cell
          go_simp
          exact hK _ _ hC (World.grownBy.refl _ _) rfl
        simp only [Act.put, List.setIfInBounds_toArray, List.set_cons_zero, List.set_cons_succ]
        refine relWalk_cons (fun x hC hd K hK => ?_) (fun v2 => ?_)
        · obtain rfl : v1 = _ := hd 1 (by kernel_rfl)
          go_simp
          exact hK _ _ hC (World.grownBy.refl _ _) (val_i64 (by omega))
        simp only [Act.put, List.setIfInBounds_toArray, List.set_cons_zero, List.set_cons_succ]
        refine relWalk_cons (fun x hC hd K hK => ?_) (fun v3 => ?_)
        · go_simp
          exact hK _ _ hC (World.grownBy.refl _ _) rfl
        simp only [Act.put, List.setIfInBounds_toArray, List.set_cons_zero, List.set_cons_succ]
        refine relWalk_cons (fun x hC hd K hK => ?_) (fun v4 => ?_)
        · obtain rfl : v3 = _ := hd 3 (by kernel_rfl)
          go_simp
          go_at_call 19
          refine (next_t _ w x _ (by omega) (by omega) hC.1).mono ?_
          rintro e w1 ⟨y, rfl, y0, y1, hT1, hg⟩
          exact hK _ _ ⟨hT1, IAt.grown hg hne hC.2.1, grownBy_trans hC.2.2 hg⟩ hg ⟨y, rfl, y0, y1⟩
        simp only [Act.put, List.setIfInBounds_toArray, List.set_cons_zero, List.set_cons_succ]
        refine relWalk_cons (fun x hC hd K hK => ?_) (fun v5 => ?_)
        · obtain rfl : v2 = _ := hd 2 (by kernel_rfl)
          obtain ⟨y, rfl, y0, y1⟩ := hd 4 (by kernel_rfl)
          go_simp
          exact hK _ _ hC (World.grownBy.refl _ _) ⟨y, val_i64 (by omega), y0, y1⟩
        simp only [Act.put, List.setIfInBounds_toArray, List.set_cons_zero, List.set_cons_succ]
        refine relWalk_cons (fun x hC hd K hK => ?_) (fun v6 => ?_)
        · go_simp
          exact hK _ _ hC (World.grownBy.refl _ _) rfl
        simp only [Act.put, List.setIfInBounds_toArray, List.set_cons_zero, List.set_cons_succ]
        refine relWalk_cons (fun x hC hd K hK => ?_) (fun v7 => ?_)
        · obtain rfl : v6 = _ := hd 6 (by kernel_rfl)
          go_simp
          go_at_call 19
          refine (next_t _ w x _ (by omega) (by omega) hC.1).mono ?_
          rintro e w1 ⟨y, rfl, y0, y1, hT1, hg⟩
          exact hK _ _ ⟨hT1, IAt.grown hg hne hC.2.1, grownBy_trans hC.2.2 hg⟩ hg ⟨y, rfl, y0, y1⟩
        simp only [Act.put, List.setIfInBounds_toArray, List.set_cons_zero, List.set_cons_succ]
        refine relWalk_cons (fun x hC hd K hK => ?_) (fun v8 => ?_)
        · go_simp
          exact hK _ _ hC (World.grownBy.refl _ _) rfl
        simp only [Act.put, List.setIfInBounds_toArray, List.set_cons_zero, List.set_cons_succ]
        refine relWalk_cons (fun x hC hd K hK => ?_) (fun v9 => ?_)
        · obtain rfl : v8 = _ := hd 8 (by kernel_rfl)
          go_simp
          go_at_call 19
          refine (next_t _ w x _ (by omega) (by omega) hC.1).mono ?_
          rintro e w1 ⟨y, rfl, y0, y1, hT1, hg⟩
          exact hK _ _ ⟨hT1, IAt.grown hg hne hC.2.1, grownBy_trans hC.2.2 hg⟩ hg ⟨y, rfl, y0, y1⟩
        simp only [Act.put, List.setIfInBounds_toArray, List.set_cons_zero, List.set_cons_succ]
        refine relWalk_cons (fun x hC hd K hK => ?_) (fun v10 => ?_)
        · obtain ⟨y, rfl, y0, y1⟩ := hd 5 (by kernel_rfl)
          obtain ⟨s2, rfl, t0, t1⟩ := hd 7 (by kernel_rfl)
          obtain ⟨b2, rfl, t2, t3⟩ := hd 9 (by kernel_rfl)
          go_simp
          exact hK _ _ hC (World.grownBy.refl _ _) ⟨y, s2, b2, rfl, ⟨y0, y1⟩, ⟨t0, t1⟩, ⟨t2, t3⟩⟩
        simp only [Act.put, List.setIfInBounds_toArray, List.set_cons_zero, List.set_cons_succ]
        refine relWalk_cons (fun x hC hd K hK => ?_) (fun v11 => ?_)
        · go_simp
          exact hK _ _ ⟨hC.1.alloc _, hC.2.1.alloc _, grownBy_trans hC.2.2 (World.grownBy_alloc _ _ _)⟩ (World.grownBy_alloc _ _ _) ⟨_, rfl, by have := hC.1.lt; omega, hC.2.2.size, heap_alloc_new _ _⟩
        simp only [Act.put, List.setIfInBounds_toArray, List.set_cons_zero, List.set_cons_succ]
        refine relWalk_nil ?_
        intro x hC hG
        obtain ⟨y, s2, b2, e7, gy, g1, g2⟩ := hG 10 (by omega)
        obtain ⟨g, e8, hn, hge, hi⟩ := hG 11 (by omega)
        obtain rfl : v10 = _ := e7
        obtain rfl : v11 = _ := e8
        obtain ⟨c0, c1, c2⟩ : x.cell? ⟨g, 0, none⟩ = some (.int .i64 0) ∧ x.cell? ⟨g, 1, none⟩ = some (.int .i64 0) ∧ x.cell? ⟨g, 2, none⟩ = some (.int .i64 0) := ⟨cells_at hi 0, cells_at hi 1, cells_at hi 2⟩
        have f0 := free_at hi 0
        have f1 := free_at hi 1
        have f2 := free_at hi 2
        have HI := Lib.hid hi
        clear hi
        go_wp2
        go_meet
        case rel =>
          have hgA : A ≠ g := by omega
          have hgA2 : A2 ≠ g := by omega
          exact ⟨_, _, _, _, rfl, hn, ((IAt.set0 HI.out _).set1 s2).set2 b2, by omega, g1, g2, set_other (by simpa using hgA2) (set_other (by simpa using hgA2) (set_other (by simpa using hgA2) hC.2.1)), set_other (by simpa using hgA) (set_other (by simpa using hgA) (set_other (by simpa using hgA) (gb_block hC.2.2 hneA HA0.out))), ((hC.1.set _ _ (by simp; omega)).set _ _ (by simp; omega)).set _ _ (by simp; omega)⟩
      case rest =>
        clear hT iA iA2
        obtain ⟨A3, q2, s2, b2, rfl, hne3, iA3, hq2, hs2, hb2, iA2, iA, hT⟩ := hcut
        have v0 : vaB q s b = true := by simp [vaB]; omega
        have v1 : vaB (q + 1) s' b' = true := by simp [vaB]; omega
        have v2 : vaB q2 s2 b2 = true := by simp [vaB]; omega
        obtain ⟨SA, SB, SC, T0, T1, c0, c1, c2, d0, d1, h7, h8⟩ := pairs_pack v0 v1 v2 (by omega) hq2.1 f0 f1
        have dq : (q2 == q + 1) = false := by simp; omega
        obtain ⟨Q1, hQ1⟩ : ∃ Q1, Q1 = q + 1 := ⟨_, rfl⟩
        rw [← hQ1] at dq c1 h7 iA2
        clear hQ1 v0 v1 v2 hq2 hs2 hb2 hs' hb' hne
        have hne2' := hne2
        clear hne2
        have k0 := fun w => (h7 SA (.inl rfl) w).1
        have k1 := fun w => (h7 SA (.inl rfl) w).2
        have k2 := fun w => (h7 T0 (.inr (.inl rfl)) w).1
        have k3 := fun w => (h7 T0 (.inr (.inl rfl)) w).2
        have k4 := fun w => (h7 T1 (.inr (.inr rfl)) w).1
        have k5 := fun w => (h7 T1 (.inr (.inr rfl)) w).2
        have k6 := fun w => (h8 w).1
        have k7 := fun w => (h8 w).2
        clear h7 h8
        have HA2 := Lib.hid iA2
        have HA3 := Lib.hid iA3
        obtain ⟨p0, p1, p2⟩ := iA.cell
        clear iA iA2 iA3
        go_upto_region 9 with (first
          | (go_at_call 11; (with_reducible refine Calls.mono (c0 _) ?_); rintro e w1 ⟨rfl, hb1⟩; clear p0 p1 p2; obtain ⟨p0, p1, p2⟩ := (IAt.step hb1 HA2.out).cell)
          | (go_at_call 11; (with_reducible refine Calls.mono (c1 _) ?_); rintro e w2 ⟨rfl, hb2⟩; clear p0 p1 p2; obtain ⟨p0, p1, p2⟩ := (IAt.step hb2 (IAt.step hb1 HA3.out)).cell)
          | (go_at_call 11; (with_reducible refine Calls.mono (c2 _) ?_); rintro e w3 ⟨rfl, hb3⟩; clear p0 p1 p2; have HT := Lib.hid (((hT.step hb1).step hb2).step hb3); have HA2' := Lib.hid (IAt.step hb3 (IAt.step hb2 (IAt.step hb1 HA2.out))); have HA3' := Lib.hid (IAt.step hb3 (IAt.step hb2 (IAt.step hb1 HA3.out))); clear HA2 HA3 hT hb1 hb2 hb3))
        go_upto_region 12 with fail
        go_cut [82] (fun s wx => ∃ x : Int, s = .int .i64 x ∧ (x = 0 ∨ x = 1 ∨ x = 2 ∨ x = 3) ∧ IAt wx A2 Q1 s' b' ∧ IAt wx A3 q2 s2 b2 ∧ Below w.heap.size w wx)
        case first =>
          go_wp2_with (go_at_call 19; refine (next_t _ w _ _ (by omega) (by omega) HT.out).mono ?_; rintro e w4 ⟨x, rfl, x0, x1, hT4, hg4⟩)
          go_meet
          case rel => exact ⟨_, rfl, by omega, IAt.grown hg4 hne2' HA2'.out, IAt.grown hg4 hne3 HA3'.out, hT4.below⟩
        case rest =>
          clear HA2' HA3' HT c0 c1 c2
          (try clear p0 p1 p2)
          obtain ⟨x, rfl, hx, iA2, iA3, hW⟩ := hcut
          have HA2 := Lib.hid iA2
          have HA3 := Lib.hid iA3
          clear iA2 iA3
          rcases hx with rfl | rfl | rfl | rfl
          · clear d0 d1 k2 k3 k4 k5 k6 k7
            go_wp2_with (first
              | (go_at_call 15; (with_reducible refine Calls.mono (k0 _) ?_); rintro e w6 ⟨rfl, hb6⟩)
              | (go_at_call 15; (with_reducible refine Calls.mono (k1 _) ?_); rintro e w7 ⟨rfl, hb7⟩; obtain ⟨m0, m1, m2⟩ := (IAt.step hb7 (IAt.new w6 _ Q1 s' b' rfl)).cell; have lm := (IAt.step hb7 (IAt.new w6 _ Q1 s' b' rfl)).lt; obtain ⟨n0, n1, n2⟩ := (IAt.step hb7 ((IAt.step hb6 HA2.out).alloc _)).cell; have ln := (IAt.step hb7 ((IAt.step hb6 HA2.out).alloc _)).lt; obtain ⟨j0, j1, j2⟩ := (IAt.step hb7 ((IAt.step hb6 HA3.out).alloc _)).cell; have lj := (IAt.step hb7 ((IAt.step hb6 HA3.out).alloc _)).lt)
              | (go_at_call 22; (with_reducible refine Calls.mono (awake_w _) ?_); rintro e w9 ⟨rfl, hb9⟩))
            go_ret
            exact ⟨rfl, bl_step (bl_alloc (bl_step (bl_alloc (bl_step hW hb6) _) hb7) _) hb9⟩
          · clear d0 d1 k0 k1 k2 k3 k4 k5
            go_wp2_with (first
              | (go_at_call 15; (with_reducible refine Calls.mono (k6 _) ?_); rintro e w6 ⟨rfl, hb6⟩)
              | (go_at_call 15; (with_reducible refine Calls.mono (k7 _) ?_); rintro e w7 ⟨rfl, hb7⟩; obtain ⟨m0, m1, m2⟩ := (IAt.step hb7 (IAt.new w6 _ q2 s2 b2 rfl)).cell; have lm := (IAt.step hb7 (IAt.new w6 _ q2 s2 b2 rfl)).lt; obtain ⟨n0, n1, n2⟩ := (IAt.step hb7 ((IAt.step hb6 HA2.out).alloc _)).cell; have ln := (IAt.step hb7 ((IAt.step hb6 HA2.out).alloc _)).lt; obtain ⟨j0, j1, j2⟩ := (IAt.step hb7 ((IAt.step hb6 HA3.out).alloc _)).cell; have lj := (IAt.step hb7 ((IAt.step hb6 HA3.out).alloc _)).lt)
              | (go_at_call 22; (with_reducible refine Calls.mono (awake_w _) ?_); rintro e w9 ⟨rfl, hb9⟩))
            go_ret
            exact ⟨rfl, bl_step (bl_alloc (bl_step (bl_alloc (bl_step hW hb6) _) hb7) _) hb9⟩
          · clear d1 k0 k1 k4 k5 k6 k7
            go_wp2_with (first
              | (go_at_call 20; (with_reducible refine Calls.mono (d0 _) ?_); rintro e w5 ⟨rfl, hb5⟩)
              | (go_at_call 15; (with_reducible refine Calls.mono (k2 _) ?_); rintro e w6 ⟨rfl, hb6⟩)
              | (go_at_call 15; (with_reducible refine Calls.mono (k3 _) ?_); rintro e w7 ⟨rfl, hb7⟩; obtain ⟨m0, m1, m2⟩ := (IAt.step hb7 (IAt.new w6 _ Q1 s' b' rfl)).cell; have lm := (IAt.step hb7 (IAt.new w6 _ Q1 s' b' rfl)).lt; obtain ⟨n0, n1, n2⟩ := (IAt.step hb7 ((IAt.step hb6 (IAt.step hb5 HA2.out)).alloc _)).cell; have ln := (IAt.step hb7 ((IAt.step hb6 (IAt.step hb5 HA2.out)).alloc _)).lt; obtain ⟨j0, j1, j2⟩ := (IAt.step hb7 ((IAt.step hb6 (IAt.step hb5 HA3.out)).alloc _)).cell; have lj := (IAt.step hb7 ((IAt.step hb6 (IAt.step hb5 HA3.out)).alloc _)).lt)
              | (go_at_call 22; (with_reducible refine Calls.mono (awake_w _) ?_); rintro e w9 ⟨rfl, hb9⟩))
            go_ret
            exact ⟨rfl, bl_step (bl_alloc (bl_step (bl_alloc (bl_step (bl_step hW hb5) hb6) _) hb7) _) hb9⟩
          · clear d0 k0 k1 k2 k3 k6 k7
            go_wp2_with (first
              | (go_at_call 20; (with_reducible refine Calls.mono (d1 _) ?_); rintro e w5 ⟨rfl, hb5⟩)
              | (go_at_call 15; (with_reducible refine Calls.mono (k4 _) ?_); rintro e w6 ⟨rfl, hb6⟩)
              | (go_at_call 15; (with_reducible refine Calls.mono (k5 _) ?_); rintro e w7 ⟨rfl, hb7⟩; obtain ⟨m0, m1, m2⟩ := (IAt.step hb7 (IAt.new w6 _ Q1 s' b' rfl)).cell; have lm := (IAt.step hb7 (IAt.new w6 _ Q1 s' b' rfl)).lt; obtain ⟨n0, n1, n2⟩ := (IAt.step hb7 ((IAt.step hb6 (IAt.step hb5 HA2.out)).alloc _)).cell; have ln := (IAt.step hb7 ((IAt.step hb6 (IAt.step hb5 HA2.out)).alloc _)).lt; obtain ⟨j0, j1, j2⟩ := (IAt.step hb7 ((IAt.step hb6 (IAt.step hb5 HA3.out)).alloc _)).cell; have lj := (IAt.step hb7 ((IAt.step hb6 (IAt.step hb5 HA3.out)).alloc _)).lt)
              | (go_at_call 22; (with_reducible refine Calls.mono (awake_w _) ?_); rintro e w9 ⟨rfl, hb9⟩))
            go_ret
            exact ⟨rfl, bl_step (bl_alloc (bl_step (bl_alloc (bl_step (bl_step hW hb5) hb6) _) hb7) _) hb9⟩

end Go.Proofs.Ytcgfffkfmnbneaa
