/-
  The law InodeFiles: plain part and walk.
-/
import Derived.Test.YtcgfffkfmnbneaaInoP
import Derived.Deep.CutBlock
namespace Go.Proofs.Ytcgfffkfmnbneaa
open Go.RowKit
set_option linter.unusedVariables false
set_option linter.unusedSimpArgs false

theorem secH_eq (a b c d a' b' c' d' : UInt8) (f g : Int) : ((secH a b c d f).toList == (secH a' b' c' d' g).toList) = (a == a' && b == b' && c == c' && d == d' && (nbU a f == nbU a' g && nbU b f == nbU b' g && nbU c f == nbU c' g && nbU d f == nbU d' g)) := by
  rw [ByteArray.toList_eq, ByteArray.toList_eq]
  show ([a, b, c, d, nbU a f, nbU b f, nbU c f, nbU d f] == [a', b', c', d', nbU a' g, nbU b' g, nbU c' g, nbU d' g]) = _
  simp [Bool.and_assoc]
theorem dec_secH {q s b f g : Int} (hv : vaB q s b = true) (h1 : 0 ≤ f) (h2 : f < 8) (h3 : 0 ≤ g) (h4 : g < 8) :
    decOk (secH (by8 (q / 256)) (by8 (q % 256)) (by8 s) (by8 b) f) g = (f == g) := by
  have hd : decide (0 ≤ g ∧ g < 8) = true := by simp; omega
  show (decide (0 ≤ g ∧ g < 8) && ok8 _ _ _ _ _ _ _ _ g) = _
  rw [hd, Bool.true_and]
  obtain ⟨a1, a2, a3, a4, a5, a6⟩ := va_t hv
  by_cases hfg : f = g
  · subst hfg
    simp only [ok8, beq_self_eq_true, Bool.and_true, Bool.true_and, decide_eq_true_eq]
    rw [by8_nat (by omega) (by omega)]
    omega
  · have : (f == g) = false := by simpa using hfg
    rw [this]
    cases hok : ok8 (by8 (q / 256)) (by8 (q % 256)) (by8 s) (by8 b) (nbU (by8 (q / 256)) f) (nbU (by8 (q % 256)) f) (nbU (by8 s) f) (nbU (by8 b) f) g with
    | false => rfl
    | true =>
      exfalso
      simp only [ok8, Bool.and_eq_true, beq_iff_eq] at hok
      exact hfg (nb_file h3 h4 h1 h2 hok.1.1.1.1).symm
theorem files_pack {q s b q' s' b' f g : Int} (hv : vaB q s b = true) (hv' : vaB q' s' b' = true) (h1 : 0 ≤ f) (h2 : f < 8) (h3 : 0 ≤ g) (h4 : g < 8) :
    ∃ S1 S2 ok q3 s3 b3, (∀ w, Calls Try.prog 11 #[.agg #[.int .i64 q, .int .i64 s, .int .i64 b], .int .i64 f] w (RetSE S1 0 w)) ∧
      (∀ w, Calls Try.prog 11 #[.agg #[.int .i64 q', .int .i64 s', .int .i64 b'], .int .i64 g] w (RetSE S2 0 w)) ∧
      (∀ w, Calls Try.prog 13 #[.string S1, .int .i64 g] w (RetD ok q3 s3 b3 w)) ∧
      ok = (f == g) ∧ (q = q' ∧ s = s' ∧ b = b' → (S1.toList == S2.toList) = (f == g)) ∧ (¬ (q = q' ∧ s = s' ∧ b = b') → (S1.toList == S2.toList) = false) := by
  obtain ⟨e1, e2⟩ := enc_v hv h1 h2
  obtain ⟨e3, e4⟩ := enc_v hv' h3 h4
  have c1 := encode_w q s b f
  have c2 := encode_w q' s' b' g
  rw [e1, e2] at c1
  rw [e3, e4] at c2
  obtain ⟨a1, a2, a3, a4, a5, a6⟩ := va_t hv
  obtain ⟨k1, k2, k3, k4, k5, k6⟩ := va_t hv'
  refine ⟨_, _, _, _, _, _, c1, c2, fun w => decode_w _ g w (secH_size _ _ _ _ _), dec_secH hv h1 h2 h3 h4, ?_, ?_⟩
  · rintro ⟨rfl, rfl, rfl⟩
    rw [secH_eq]
    simp only [beq_self_eq_true, Bool.true_and]
    by_cases hfg : f = g
    · subst hfg; simp
    · have : (f == g) = false := by simpa using hfg
      rw [this]
      have hn : (nbU (by8 (q / 256)) f == nbU (by8 (q / 256)) g) = false := by
        rw [beq_eq_false_iff_ne]
        exact fun h => hfg (nb_file h1 h2 h3 h4 h)
      rw [hn]; rfl
  · intro hn
    rw [secH_eq]
    cases hx : (by8 (q / 256) == by8 (q' / 256) && by8 (q % 256) == by8 (q' % 256) && by8 s == by8 s' && by8 b == by8 b') with
    | false => rfl
    | true =>
      exfalso
      simp only [Bool.and_eq_true, beq_iff_eq] at hx
      obtain ⟨⟨⟨x1, x2⟩, x3⟩, x4⟩ := hx
      have g1 := by8_inj (by omega) (by omega) (by omega) (by omega) x1
      have g2 := by8_inj (by omega) (by omega) (by omega) (by omega) x2
      have g3 := by8_inj (by omega) (by omega) (by omega) (by omega) x3
      have g4 := by8_inj (by omega) (by omega) (by omega) (by omega) x4
      exact hn ⟨by omega, g3, g4⟩
theorem eq3 (q s b q' s' b' : Int) : (q = q' ∧ s = s' ∧ b = b') ∨ (¬ (q = q' ∧ s = s' ∧ b = b') ∧ ((q == q') = false ∨ (s == s') = false ∨ (b == b') = false)) := by
  by_cases h1 : q = q'
  · by_cases h2 : s = s'
    · by_cases h3 : b = b'
      · exact .inl ⟨h1, h2, h3⟩
      · exact .inr ⟨fun h => h3 h.2.2, .inr (.inr (by simpa using h3))⟩
    · exact .inr ⟨fun h => h2 h.2.1, .inr (.inl (by simpa using h2))⟩
  · exact .inr ⟨fun h => h1 h.1, .inl (by simpa using h1)⟩

set_option maxRecDepth 100000 in
set_option maxHeartbeats 2000000 in
theorem inodeFiles_walk (a0 : Option Addr) (len0 cap0 : Nat) (z0 : List Int) (w : World) (w0 : IsRow .i64 w a0 len0 cap0 z0) :
    Calls Try.prog 6 #[.slice a0 len0 cap0] w fun e w' => e = .returned (.bool true) ∧ Below w.heap.size w w' := by
  have hT0 := Tp.start w0
  clear w0
  go_enter Try.func6, Try.ntmps6
  go_upto_region 2 with fail
  go_cut [4, 5] (fun s7 s8 wx => ∃ A B q s b q' s' b', s7 = .pointer (some ⟨A, 0, none⟩) ∧ s8 = .pointer (some ⟨B, 0, none⟩) ∧ w.heap.size < A ∧ w.heap.size < B ∧ IAt wx A q s b ∧ IAt wx B q' s' b' ∧ Tp w w.heap.size wx)
  case first =>
    go_wp2_with (first
      | (go_at_call 9; refine (drawn_w w _ _ hT0).mono ?_; rintro e w2 ⟨q, s, b, rfl, hT2, hg2⟩; clear hT0)
      | (go_at_call 9; refine (drawn_w w _ _ hT2).mono ?_; rintro e w3 ⟨q', s', b', rfl, hT3, hg3⟩))
    go_meet
    case rel => exact ⟨_, _, _, _, _, _, _, _, rfl, rfl, hT3.lt, Nat.lt_succ_of_lt hT3.lt, (IAt.new _ _ _ _ _ rfl).alloc _, IAt.new _ _ _ _ _ (by simp), (hT3.alloc _).alloc _⟩
  case rest =>
    obtain ⟨A, B, q, s, b, q', s', b', rfl, rfl, lA, lB, iA, iB, hT⟩ := hcut
    clear hT0
    go_upto_region 3 with fail
    go_cut [6, 7] (fun s6 s7 wx => ∃ f g, s6 = .int .i64 f ∧ s7 = .int .i64 g ∧ 0 ≤ f ∧ f < 8 ∧ 0 ≤ g ∧ g < 8 ∧ IAt wx A q s b ∧ IAt wx B q' s' b' ∧ Below w.heap.size w wx)
    case first =>
      have HA := Lib.hid iA
      have HB := Lib.hid iB
      clear iA iB
      go_wp2_with (first
        | (go_at_call 19; refine (next_t _ w _ _ (by omega) (by omega) hT).mono ?_; rintro e w2 ⟨f, rfl, f0, f1, hT2, hg2⟩; clear hT)
        | (go_at_call 19; refine (next_t _ w _ _ (by omega) (by omega) hT2).mono ?_; rintro e w3 ⟨g, rfl, g0, g1, hT3, hg3⟩))
      go_meet
      case rel => exact ⟨_, _, rfl, rfl, f0, f1, g0, g1, (HA.out.grown hg2 (by omega)).grown hg3 (by omega), (HB.out.grown hg2 (by omega)).grown hg3 (by omega), hT3.below⟩
    case rest =>
      clear iA iB hT
      obtain ⟨f, g, rfl, rfl, f0, f1, g0, g1, iA, iB, hW⟩ := hcut
      have HA := Lib.hid iA
      have HB := Lib.hid iB
      obtain ⟨p0, p1, p2⟩ := iA.cell
      clear iA iB lA lB
      cases vx : vaB q s b with
      | false =>
        have c1 := encode_w q s b f
        have c2 := encode_w q' s' b' g
        rw [enc_nv vx] at c1
        clear vx
        go_wp2_with (first
          | (go_at_call 11; (with_reducible refine Calls.mono (c1 _) ?_); rintro e w1 ⟨rfl, hb1⟩; clear p0 p1 p2; have HB1 := Lib.hid (IAt.step hb1 HB.out); obtain ⟨p0, p1, p2⟩ := HB1.out.cell)
          | (go_at_call 11; (with_reducible refine Calls.mono (c2 _) ?_); rintro e w2 ⟨rfl, hb2⟩)
          | (go_at_call 22; (with_reducible refine Calls.mono (awake_w _) ?_); rintro e w9 ⟨rfl, hb9⟩))
        go_ret
        exact ⟨rfl, bl_step (bl_step (bl_step hW hb1) hb2) hb9⟩
      | true =>
        cases vy : vaB q' s' b' with
        | false =>
          have c1 := encode_w q s b f
          have c2 := encode_w q' s' b' g
          rw [(enc_v vx f0 f1).2] at c1
          rw [enc_nv vy] at c2
          clear vx vy
          go_wp2_with (first
            | (go_at_call 11; (with_reducible refine Calls.mono (c1 _) ?_); rintro e w1 ⟨rfl, hb1⟩; clear p0 p1 p2; have HB1 := Lib.hid (IAt.step hb1 HB.out); obtain ⟨p0, p1, p2⟩ := HB1.out.cell)
            | (go_at_call 11; (with_reducible refine Calls.mono (c2 _) ?_); rintro e w2 ⟨rfl, hb2⟩)
            | (go_at_call 22; (with_reducible refine Calls.mono (awake_w _) ?_); rintro e w9 ⟨rfl, hb9⟩))
          go_ret
          exact ⟨rfl, bl_step (bl_step (bl_step hW hb1) hb2) hb9⟩
        | true =>
          obtain ⟨S1, S2, ok, q3, s3, b3, c1, c2, c4, hok, m1, m2⟩ := files_pack vx vy f0 f1 g0 g1
          clear vx vy f0 f1 g0 g1
          cases hfg : (f == g)
          all_goals
            rw [hfg] at hok m1
            subst hok
            rcases eq3 q s b q' s' b' with he | ⟨hn, hd⟩
            · have hs := m1 he
              obtain ⟨h1, h2, h3⟩ := he
              have d1 : (q == q') = true := by simp [h1]
              have d2 : (s == s') = true := by simp [h2]
              have d3 : (b == b') = true := by simp [h3]
              clear h1 h2 h3 m1 m2
              go_wp2_with (first
                              | (go_at_call 11; (with_reducible refine Calls.mono (c1 _) ?_); rintro e w1 ⟨rfl, hb1⟩; clear p0 p1 p2; have HB1 := Lib.hid (IAt.step hb1 HB.out); have HA1 := Lib.hid (IAt.step hb1 HA.out); obtain ⟨p0, p1, p2⟩ := HB1.out.cell)
                              | (go_at_call 11; (with_reducible refine Calls.mono (c2 _) ?_); rintro e w2 ⟨rfl, hb2⟩; clear p0 p1 p2)
                              | (go_at_call 13; (with_reducible refine Calls.mono (c4 _) ?_); rintro e w4 ⟨rfl, hb4⟩; obtain ⟨p0, p1, p2⟩ := (IAt.step hb4 (IAt.step hb2 HA1.out)).cell; obtain ⟨k0, k1, k2⟩ := (IAt.step hb4 (IAt.step hb2 HB1.out)).cell; have lA := (IAt.step hb4 (IAt.step hb2 HA1.out)).lt; have lB := (IAt.step hb4 (IAt.step hb2 HB1.out)).lt)
                              | (go_at_call 22; (with_reducible refine Calls.mono (awake_w _) ?_); rintro e w9 ⟨rfl, hb9⟩))
              go_ret
              exact ⟨rfl, bl_step (bl_alloc (bl_step (bl_step (bl_step hW hb1) hb2) hb4) _) hb9⟩
            · have hs := m2 hn
              clear m1 m2 hn
              rcases hd with hd | hd | hd
              all_goals
                go_wp2_with (first
                                | (go_at_call 11; (with_reducible refine Calls.mono (c1 _) ?_); rintro e w1 ⟨rfl, hb1⟩; clear p0 p1 p2; have HB1 := Lib.hid (IAt.step hb1 HB.out); have HA1 := Lib.hid (IAt.step hb1 HA.out); obtain ⟨p0, p1, p2⟩ := HB1.out.cell)
                                | (go_at_call 11; (with_reducible refine Calls.mono (c2 _) ?_); rintro e w2 ⟨rfl, hb2⟩; clear p0 p1 p2)
                                | (go_at_call 13; (with_reducible refine Calls.mono (c4 _) ?_); rintro e w4 ⟨rfl, hb4⟩; obtain ⟨p0, p1, p2⟩ := (IAt.step hb4 (IAt.step hb2 HA1.out)).cell; obtain ⟨k0, k1, k2⟩ := (IAt.step hb4 (IAt.step hb2 HB1.out)).cell; have lA := (IAt.step hb4 (IAt.step hb2 HA1.out)).lt; have lB := (IAt.step hb4 (IAt.step hb2 HB1.out)).lt)
                                | (go_at_call 22; (with_reducible refine Calls.mono (awake_w _) ?_); rintro e w9 ⟨rfl, hb9⟩))
                go_ret
                exact ⟨rfl, bl_step (bl_alloc (bl_step (bl_step (bl_step hW hb1) hb2) hb4) _) hb9⟩

end Go.Proofs.Ytcgfffkfmnbneaa
