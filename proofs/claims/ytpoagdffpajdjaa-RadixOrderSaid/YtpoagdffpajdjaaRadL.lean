/-
  list of package radix and of the reference, by contracts.
-/
import Derived.Test.YtpoagdffpajdjaaRadE
namespace Go.Proofs.Ytpoagdffpajdjaa
open Go.RowKit
set_option linter.unusedVariables false
set_option linter.unusedSimpArgs false

theorem own_le {w : World} {B sz n : Nat} {t : TypeId} {v : Value} {xs : List Value} (h : w.ownsRow B t sz v n xs) : ∀ g, v.ownBlock = some g → g < w.heap.size := fun g hg => (h.lt g hg).2
set_option maxRecDepth 100000 in
set_option maxHeartbeats 4000000 in
theorem list_w : ∀ (h : Nat) (c : Cn) (A : Option Addr) (cap : Nat) (v : Value) (B : Nat) (L : List En) (base : Nat) (w : World), h ≤ 4 → base + 4 ^ h ≤ 256 → L.length + 4 ^ h ≤ 1000 → (cano h c).kids.length ≤ cap → B ≤ w.heap.size → NK w (fun z => v.ownBlock ≠ some z) A (cano h c).kids → w.ownsRow B 48 3 v L.length (ens L) →
    Calls Try.prog 53 #[v, ndV A (cano h c).kids.length cap (cano h c).val (cano h c).marks, .int .i64 base, .int .i64 ((4 ^ h : Nat) : Int)] w (RetL B (L ++ ents base (4 ^ h) c) v w) := by
  intro h
  induction h with
  | zero =>
    intro c A cap v B L base w hh hbase hlen hcap hB hk hown
    obtain ⟨i0, hi, hz0, hz1, hz2⟩ := info_parts entry_info
    have em := fun w => empty_w A 0 cap (c 0).1 (c 0).2 w
    rw [show emI 0 (c 0).1 (c 0).2 = (cano 0 c).emB from rfl, emB_cano, show 4 ^ 0 = 1 from rfl] at em
    rw [show (cano 0 c).kids.length = 0 from rfl, show (cano 0 c).val = (c 0).1 from rfl, show (cano 0 c).marks = (c 0).2 from rfl, show 4 ^ 0 = 1 from rfl]
    have hlt := own_le hown
    have HS := Lib.hid (LS.refl hown)
    have HX := Lib.hid (heap_alloc_at w (.cells #[.slice A 0 cap, .int .i64 (c 0).1, .int .i64 (c 0).2] 26))
    have HB1 := Lib.hid (bl_alloc (Below.refl w.heap.size w) (.cells #[.slice A 0 cap, .int .i64 (c 0).1, .int .i64 (c 0).2] 26))
    cases hn : noneB 1 c with
    | true =>
      rw [hn] at em
      have HE := Lib.hid (ents_none (base := base) hn)
      clear hn hown hlt
      generalize (c 0).1 = y at *
      generalize (c 0).2 = mm at *
      go_enter Try.func53, Try.ntmps53
      go_wp2_with (go_at_call 59; (with_reducible refine Calls.mono (em _) ?_); rintro e w1 ⟨rfl, hb1⟩; have HX1 := Lib.hid (bk_step HX.out hb1); have x0 := cells_at HX1.out 0; have x1 := cells_at HX1.out 1; have x2 := cells_at HX1.out 2; simp only [List.getElem?_toArray, List.getElem?_cons_zero, List.getElem?_cons_succ] at x0 x1 x2)
      refine wp_loop_rounds 1 ?_
      rw [rounds_succ]; go_wp2
      go_ret
      rw [HE.out, List.append_nil]
      exact ⟨v, rfl, (HS.out.step HB1.out).step hb1⟩
    | false =>
      rw [hn] at em
      have HE := Lib.hid (ents_one (base := base) hn)
      clear hn hown hlt
      generalize (c 0).1 = y at *
      generalize (c 0).2 = mm at *
      go_enter Try.func53, Try.ntmps53
      go_wp2_with (first
        | (go_at_call 59; (with_reducible refine Calls.mono (em _) ?_); rintro e w1 ⟨rfl, hb1⟩; have HX1 := Lib.hid (bk_step HX.out hb1); have HS1 := Lib.hid ((HS.out.step HB1.out).step hb1); have x0 := cells_at HX1.out 0; have x1 := cells_at HX1.out 1; have x2 := cells_at HX1.out 2; simp only [List.getElem?_toArray, List.getElem?_cons_zero, List.getElem?_cons_succ] at x0 x1 x2; have hsz := HS1.out.gr.size)
        | (at_builtin; go_loud (refine wpList_append_lies _ rfl (.tmp 18) (.tmp 25) 41 rfl B 48 i0 _ 3 24 Try.underlying41 hi hz0 hz1 hz2 rfl (by omega) v L.length (ens L) rfl ((own_step HS1.out.own (bl_alloc (Below.refl _ _) _))) ⟨_, 0, none⟩ 1 1 [.int .i64 (base : Int), .int .i64 y, .int .i64 mm] rfl rfl (World.news_of_block (heap_at_new _ _ _ (by first | rfl | simp))) (by simp [Value.oneCell']) (by omega) (by unfold maxLen; omega) (by omega) (by simp; omega) _ rfl ?_); intro gg cap4 w4 hown4 hg4 hat4 hlt4))
      go_ret
      rw [HE.out]
      exact ⟨_, rfl, (HS1.out.step (bl_alloc (Below.refl _ _) _)).snoc hown4 hg4 hat4⟩
  | succ h ih =>
    intro c A cap v B L base w hh hbase hlen hcap hB hk hown
    obtain ⟨n, hn⟩ : ∃ n, (cano (h + 1) c).kids.length = n := ⟨_, rfl⟩
    obtain ⟨y, hy⟩ : ∃ v, (cano (h + 1) c).val = v := ⟨_, rfl⟩
    obtain ⟨mm, hm⟩ : ∃ m, (cano (h + 1) c).marks = m := ⟨_, rfl⟩
    have hp4 : 4 ^ h ≤ 64 := show 4 ^ h ≤ 4 ^ 3 from Nat.pow_le_pow_right (by omega) (by omega)
    have hp1 : 1 ≤ 4 ^ h := Nat.pow_pos (by omega)
    have HPW := Lib.hid (show 4 ^ (h + 1) = 4 * 4 ^ h by rw [Nat.pow_succ]; omega)
    rw [hn] at hcap
    have HKK := Lib.hid (show noneB (4 ^ (h + 1)) c = false → (cano (h + 1) c).kids = kidsC h c from fun hn => by rw [cano_succ, hn]; rfl)
    have HK0 := Lib.hid (show noneB (4 ^ (h + 1)) c = true → n = 0 ∧ ents base (4 ^ (h + 1)) c = [] from fun he => ⟨by rw [← hn, cano_none he]; rfl, ents_none he⟩)
    have HES := Lib.hid (fun k => entK_succ base (4 ^ h) k c)
    have hlt := own_le hown
    have HS0 := Lib.hid (LS.refl (own_step hown (bl_alloc (Below.refl w.heap.size w) (.cells #[.slice A n cap, .int .i64 y, .int .i64 mm] 26))))
    have HW0 := Lib.hid (LS.refl hown |>.step (bl_alloc (Below.refl w.heap.size w) (.cells #[.slice A n cap, .int .i64 y, .int .i64 mm] 26)))
    have HX := Lib.hid (heap_alloc_at w (.cells #[.slice A n cap, .int .i64 y, .int .i64 mm] 26))
    have HNK := Lib.hid (hk.alloc (.cells #[.slice A n cap, .int .i64 y, .int .i64 mm] 26))
    have Hn := Lib.hid hn
    rw [hn, hy, hm, HPW.out]
    rw [HPW.out] at hbase hlen HKK HK0
    obtain ⟨b, hb⟩ : ∃ b, b = w.heap.size := ⟨_, rfl⟩
    have HBe := Lib.hid hb
    have hne : v.ownBlock ≠ some b := fun e => by have := hlt b e; omega
    rw [← hb] at HX
    have HNE := Lib.hid hne
    have hlb : b < (w.alloc (.cells #[.slice A n cap, .int .i64 y, .int .i64 mm] 26)).heap.size := by simp; omega
    generalize hW0 : w.alloc (.cells #[.slice A n cap, .int .i64 y, .int .i64 mm] 26) = W0 at HS0 HW0 HX HNK hlb
    have HW0e := Lib.hid hW0
    have q4 : (((4 * 4 ^ h : Nat) : Int) == 1) = false := beq_eq_false_iff_ne.2 (by omega)
    have q5 : ((4 * 4 ^ h : Nat) : Int).tdiv 4 = ((4 ^ h : Nat) : Int) := by rw [Int.tdiv_eq_ediv_of_nonneg (by omega)]; omega
    have q6 : ((4 * 4 ^ h : Nat) : Int) / 4 = ((4 ^ h : Nat) : Int) := by omega
    have q7 := w64 (x := ((4 ^ h : Nat) : Int)) (by omega)
    generalize hp : 4 ^ h = p at *
    have Hp := Lib.hid hp
    clear hp
    clear hn hy hm hk hown hne hW0 hb hlt
    cases he : noneB (4 * p) c with
    | true =>
      obtain ⟨rfl, hE⟩ := HK0.out he
      have HE := Lib.hid hE
      clear he hE
      go_enter Try.func53, Try.ntmps53
      go_wp2
      refine wp_loop_rounds 1 ?_
      rw [rounds_succ]; go_wp2
      go_ret
      rw [HE.out, List.append_nil]
      exact ⟨v, rfl, by rw [HW0e.out]; exact HW0.out⟩
    | false =>
      have hkk := HKK.out he
      have h4 : n = 4 := by rw [← Hn.out, hkk, kidsC_len]
      subst h4
      rw [hkk] at HNK
      have hz4 : hkk = hkk := rfl
      clear he hkk hz4
      go_enter Try.func53, Try.ntmps53
      go_upto_region 3 with fail
      go_cut [3, 5] (fun s3 s5 wx => s3 = .int .i64 (p : Int) ∧ s5 = .pointer (some ⟨b, 0, none⟩) ∧ W0 = wx)
      case first =>
        go_wp2
        go_meet
        case rel => exact ⟨rfl, by rw [HBe.out], HW0e.out.symm⟩
      case rest =>
        obtain ⟨rfl, rfl, rfl⟩ := hcut
        clear q4 q5 q6
        have x0 := cells_at HX.out 0; have x1 := cells_at HX.out 1; have x2 := cells_at HX.out 2; simp only [List.getElem?_toArray, List.getElem?_cons_zero, List.getElem?_cons_succ] at x0 x1 x2
        go_wp2
        clear x0 x1 x2
        go_loopw [0, 32] (fun s0 s32 wx => ∃ (k : Nat), k ≤ 4 ∧ s32 = .int .i64 k ∧ LS W0 v B (L ++ ents base (k * p) c) s0 wx) (fun _ s32 _ => 4 - (intOf s32).toNat)
        case atStart => exact ⟨0, by omega, rfl, by rw [Nat.zero_mul, ents_zero, List.append_nil]; exact HS0.out⟩
        case round =>
          obtain ⟨k, hk4, rfl, hS⟩ := hrel
          have HS := Lib.hid hS
          have hnk := hS.nk HNK.out
          clear hS
          by_cases hlt : k < 4
          · obtain ⟨b', o, t, A', cap', rfl, hnb, hbl, hi', hNC, hkm, hkc, hkk2⟩ := hnk.at_ (i := k) (by rw [kidsC_len]; exact hlt)
            rw [kidsC_at hlt, Hp.out] at hi'
            injection hi' with hi'
            subst hi'
            have hent := ents_len base (k * p) c
            have hkp : k * p + p ≤ 4 * p := by
              have := Nat.mul_le_mul_right p (show k + 1 ≤ 4 by omega)
              rw [Nat.add_mul, Nat.one_mul] at this
              exact this
            have HESK := Lib.hid (HES.out k)
            have HSK := HS.out
            obtain ⟨q, hq⟩ : ∃ q, k * p = q := ⟨_, rfl⟩
            have hmul : IntKind.i64.wrap ((k : Int) * (p : Int)) = (q : Int) := by
              rw [← Int.natCast_mul, hq]
              exact w64 (by omega)
            have hmul2 : (k : Int) * (p : Int) = (q : Int) := by rw [← Int.natCast_mul, hq]
            rw [hq] at HESK HSK hent hkp hNC hkm hkc hkk2
            obtain ⟨Lk, hLk⟩ : ∃ Lk, L ++ ents base q c = Lk := ⟨_, rfl⟩
            have hl2 : Lk.length + p ≤ 1000 := by rw [← hLk, List.length_append]; omega
            have HNE2 := Lib.hid (show L ++ ents base ((k + 1) * p) c = Lk ++ ents (base + q) p (sh c q) by rw [HESK.out, ← List.append_assoc, hLk])
            rw [hLk] at HSK
            have HS2 := Lib.hid HSK
            have hbq : base + q + p ≤ 256 := by omega
            have hsz := HSK.gr.size
            have hih := fun w' (hw : B ≤ w'.heap.size) hnk hown => ih (sh c q) A' cap' u0 B Lk (base + q) w' (by omega) hbq hl2 hkc hw hnk hown
            rw [show (((base + q : Nat)) : Int) = (base : Int) + (q : Int) by omega] at hih
            have k0 : (0 : Int) ≤ (k : Int) := by omega
            have k1 : (k : Int) < 4 := by omega
            have k2 : (k : Int) < (cap : Int) := by omega
            have b0 : (0 : Int) ≤ (base : Int) + (q : Int) := by omega
            have b1 : (base : Int) + (q : Int) ≤ 256 := by omega
            obtain ⟨c0, c1, c2⟩ := hNC
            have HKK2 := Lib.hid hkk2
            clear hq hLk HSK hnk hkk2 hkm hkc hent hkp HS HESK
            generalize (cano h (sh c q)).kids.length = kn at *
            generalize (cano h (sh c q)).val = kv at *
            generalize (cano h (sh c q)).marks = km at *
            go_wp2_with (go_at_call 53; (with_reducible refine Calls.mono (hih _ (by have := HBe.out; simp; omega) (HKK2.out.alloc _) (own_step HS2.out.own (bl_alloc (Below.refl _ _) _))) ?_); rintro e w1 ⟨v1, rfl, hS1⟩)
            go_roundw
            case rel => exact ⟨k + 1, by omega, by go_num, by rw [HNE2.out]; exact (HS2.out.step (bl_alloc (Below.refl _ _) _)).trans hS1⟩
            case measure => simp [intOf]; omega
          · obtain rfl : k = 4 := by omega
            go_wp2
            go_ret
            exact ⟨_, rfl, HW0.out.trans HS.out⟩

end Go.Proofs.Ytpoagdffpajdjaa
