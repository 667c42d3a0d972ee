/-
  The law InodeTears: the walk.
-/
import Derived.Test.YtcgfffkfmnbneaaInoP
import Derived.Deep.CutBlock
namespace Go.Proofs.Ytcgfffkfmnbneaa
open Go.RowKit
set_option linter.unusedVariables false

theorem eq3 (q s b q' s' b' : Int) : (q = q' ∧ s = s' ∧ b = b') ∨ (¬ (q = q' ∧ s = s' ∧ b = b') ∧ ((q == q') = false ∨ (s == s') = false ∨ (b == b') = false)) := by
  by_cases h1 : q = q'
  · by_cases h2 : s = s'
    · by_cases h3 : b = b'
      · exact .inl ⟨h1, h2, h3⟩
      · exact .inr ⟨fun h => h3 h.2.2, .inr (.inr (by simpa using h3))⟩
    · exact .inr ⟨fun h => h2 h.2.1, .inr (.inl (by simpa using h2))⟩
  · exact .inr ⟨fun h => h1 h.1, .inl (by simpa using h1)⟩

set_option maxRecDepth 100000 in
set_option maxHeartbeats 2000000 in
theorem inodeTears_walk (a0 : Option Addr) (len0 cap0 : Nat) (z0 : List Int) (a1 : Bool) (w : World) (w0 : IsRow .i64 w a0 len0 cap0 z0) :
    Calls Try.prog 4 #[.slice a0 len0 cap0, .bool a1] w fun e w' => e = .returned (.bool true) ∧ Below w.heap.size w w' := by
  have hT0 := Tp.start w0
  clear w0
  go_enter Try.func4, Try.ntmps4
  go_upto_region 3 with (go_at_call 19; refine (next_t _ w _ _ (by omega) (by omega) hT0).mono ?_; rintro e w1 ⟨f, rfl, f0, f1, hT1, hg1⟩)
  go_cut [7, 8] (fun s7 s8 wx => ∃ A B q s b q' s' b', s7 = .pointer (some ⟨A, 0, none⟩) ∧ s8 = .pointer (some ⟨B, 0, none⟩) ∧ IAt wx A q s b ∧ IAt wx B q' s' b' ∧ Below w.heap.size w wx)
  case first =>
    go_wp2_with (first
      | (go_at_call 9; refine (drawn_w w _ _ hT1).mono ?_; rintro e w2 ⟨q, s, b, rfl, hT2, hg2⟩; clear hT1)
      | (go_at_call 9; refine (drawn_w w _ _ hT2).mono ?_; rintro e w3 ⟨q', s', b', rfl, hT3, hg3⟩))
    go_meet
    case rel => exact ⟨_, _, _, _, _, _, _, _, rfl, rfl, (IAt.new _ _ _ _ _ rfl).alloc _, IAt.new _ _ _ _ _ (by simp), bl_alloc (bl_alloc hT3.below _) _⟩
  case rest =>
    obtain ⟨A, B, q, s, b, q', s', b', rfl, rfl, iA, iB, hW⟩ := hcut
    have HA := Lib.hid iA
    have HB := Lib.hid iB
    obtain ⟨p0, p1, p2⟩ := iA.cell
    clear iA iB hT0 hT1 hg1
    cases vx : vaB q s b with
    | false =>
      have c1 := encode_w q s b f
      have c2 := encode_w q' s' b' f
      rw [enc_nv vx] at c1
      clear vx
      go_wp2_with (first
        | (go_at_call 11; (with_reducible refine Calls.mono (c1 _) ?_); rintro e w1 ⟨rfl, hb1⟩; clear p0 p1 p2; have HB1 := Lib.hid (IAt.step hb1 HB.out); obtain ⟨p0, p1, p2⟩ := HB1.out.cell)
        | (go_at_call 11; (with_reducible refine Calls.mono (c2 _) ?_); rintro e w2 ⟨rfl, hb2⟩)
        | (go_at_call 22; (with_reducible refine Calls.mono (awake_w _) ?_); rintro e w9 ⟨rfl, hb9⟩))
      go_ret
      exact ⟨rfl, bl_step (bl_step (bl_step hW hb1) hb2) hb9⟩
    | true =>
      cases vy : vaB q' s' b' with
      | false =>
        have c1 := encode_w q s b f
        have c2 := encode_w q' s' b' f
        rw [(enc_v vx f0 f1).2] at c1
        rw [enc_nv vy] at c2
        clear vx vy
        go_wp2_with (first
          | (go_at_call 11; (with_reducible refine Calls.mono (c1 _) ?_); rintro e w1 ⟨rfl, hb1⟩; clear p0 p1 p2; have HB1 := Lib.hid (IAt.step hb1 HB.out); obtain ⟨p0, p1, p2⟩ := HB1.out.cell)
          | (go_at_call 11; (with_reducible refine Calls.mono (c2 _) ?_); rintro e w2 ⟨rfl, hb2⟩)
          | (go_at_call 22; (with_reducible refine Calls.mono (awake_w _) ?_); rintro e w9 ⟨rfl, hb9⟩))
        go_ret
        exact ⟨rfl, bl_step (bl_step (bl_step hW hb1) hb2) hb9⟩
      | true =>
        obtain ⟨k, hk, hk'⟩ : ∃ k : Int, (k = 0 ∨ k = 1) ∧ k = if a1 = true then 1 else 0 := ⟨_, by cases a1 <;> simp, rfl⟩
        obtain ⟨S1, S2, T, ok, q3, s3, b3, c1, c2, c3, c4, m1, m2⟩ := tears_pack vx vy f0 f1 hk
        clear vx vy hk
        cases a1
        all_goals
          simp only [if_true, Bool.false_eq_true, if_false] at hk'
          subst hk'
          rcases eq3 q s b q' s' b' with he | ⟨hn, hd⟩
          · obtain ⟨rfl, z1, z2, z3⟩ := m1 he
            obtain ⟨h1, h2, h3⟩ := he
            have d1 : (q == q') = true := by simp [h1]
            have d2 : (s == s') = true := by simp [h2]
            have d3 : (b == b') = true := by simp [h3]
            have d4 : (q3 == q) = true := by simp [z1]
            have d5 : (s3 == s) = true := by simp [z2]
            have d6 : (b3 == b) = true := by simp [z3]
            clear h1 h2 h3 z1 z2 z3 m1 m2
            go_wp2_with (first
              | (go_at_call 11; (with_reducible refine Calls.mono (c1 _) ?_); rintro e w1 ⟨rfl, hb1⟩; clear p0 p1 p2; have HB1 := Lib.hid (IAt.step hb1 HB.out); have HA1 := Lib.hid (IAt.step hb1 HA.out); obtain ⟨p0, p1, p2⟩ := HB1.out.cell)
              | (go_at_call 11; (with_reducible refine Calls.mono (c2 _) ?_); rintro e w2 ⟨rfl, hb2⟩; clear p0 p1 p2)
              | (go_at_call 20; (with_reducible refine Calls.mono (c3 _) ?_); rintro e w3 ⟨rfl, hb3⟩)
              | (go_at_call 13; (with_reducible refine Calls.mono (c4 _) ?_); rintro e w4 ⟨rfl, hb4⟩; obtain ⟨p0, p1, p2⟩ := (IAt.step hb4 (IAt.step hb3 (IAt.step hb2 HA1.out))).cell; obtain ⟨k0, k1, k2⟩ := (IAt.step hb4 (IAt.step hb3 (IAt.step hb2 HB1.out))).cell; have lA := (IAt.step hb4 (IAt.step hb3 (IAt.step hb2 HA1.out))).lt; have lB := (IAt.step hb4 (IAt.step hb3 (IAt.step hb2 HB1.out))).lt)
              | (go_at_call 22; (with_reducible refine Calls.mono (awake_w _) ?_); rintro e w9 ⟨rfl, hb9⟩))
            go_ret
            exact ⟨rfl, bl_step (bl_alloc (bl_step (bl_step (bl_step (bl_step hW hb1) hb2) hb3) hb4) _) hb9⟩
          · obtain rfl := m2 hn
            clear m1 m2 hn
            rcases hd with hd | hd | hd
            all_goals
              go_wp2_with (first
                | (go_at_call 11; (with_reducible refine Calls.mono (c1 _) ?_); rintro e w1 ⟨rfl, hb1⟩; clear p0 p1 p2; have HB1 := Lib.hid (IAt.step hb1 HB.out); have HA1 := Lib.hid (IAt.step hb1 HA.out); obtain ⟨p0, p1, p2⟩ := HB1.out.cell)
                | (go_at_call 11; (with_reducible refine Calls.mono (c2 _) ?_); rintro e w2 ⟨rfl, hb2⟩; clear p0 p1 p2)
                | (go_at_call 20; (with_reducible refine Calls.mono (c3 _) ?_); rintro e w3 ⟨rfl, hb3⟩)
                | (go_at_call 13; (with_reducible refine Calls.mono (c4 _) ?_); rintro e w4 ⟨rfl, hb4⟩; obtain ⟨p0, p1, p2⟩ := (IAt.step hb4 (IAt.step hb3 (IAt.step hb2 HA1.out))).cell; obtain ⟨k0, k1, k2⟩ := (IAt.step hb4 (IAt.step hb3 (IAt.step hb2 HB1.out))).cell; have lA := (IAt.step hb4 (IAt.step hb3 (IAt.step hb2 HA1.out))).lt; have lB := (IAt.step hb4 (IAt.step hb3 (IAt.step hb2 HB1.out))).lt)
                | (go_at_call 22; (with_reducible refine Calls.mono (awake_w _) ?_); rintro e w9 ⟨rfl, hb9⟩))
              go_ret
              exact ⟨rfl, bl_step (bl_alloc (bl_step (bl_step (bl_step (bl_step hW hb1) hb2) hb3) hb4) _) hb9⟩

end Go.Proofs.Ytcgfffkfmnbneaa
