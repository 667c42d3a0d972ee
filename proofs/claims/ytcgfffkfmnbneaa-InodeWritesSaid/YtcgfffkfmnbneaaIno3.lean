/-
  Encode of the reference, by contract.
-/
import Derived.Test.YtcgfffkfmnbneaaIno2
import Derived.Deep.AppendLies
import Derived.OwnWalk
import Derived.Deep.CutBlock
namespace Go.Proofs.Ytcgfffkfmnbneaa
open Go.RowKit
set_option linter.unusedVariables false

/-- Bytes as cells. -/
def vs (l : List UInt8) : List Value := l.map fun b => .int .u8 b.toNat
theorem vs_one (l : List UInt8) : ∀ u ∈ vs l, u.oneCell' = true := by
  intro u hu
  simp only [vs, List.mem_map] at hu
  obtain ⟨b, _, rfl⟩ := hu
  rfl
theorem one_one (k : IntKind) (n : Int) : ∀ u ∈ [Value.int k n], u.oneCell' = true := by
  intro u hu
  rw [List.mem_singleton.1 hu]
  rfl
theorem vs_app (l m : List UInt8) : vs (l ++ m) = vs l ++ vs m := by simp [vs]
theorem vs_get (l : List UInt8) (k : Nat) (h : k < l.length) : (vs l)[k]? = some (.int .u8 (l.getD k 0).toNat) := by simp [vs, h]
theorem info8 : (Try.prog.info? 5).map (fun i => (i.zero, i.size, i.bytes)) = some (some (.int .u8 0), 1, 1) := by kernel_rfl

/-- The bytes behind k rounds. -/
def encL (l : List UInt8) (f : Int) (k : Nat) : List UInt8 := l ++ (l.take k).map (nbU · f)
theorem encL_get (l : List UInt8) (f : Int) (k i : Nat) (h : i < l.length) : (encL l f k).getD i 0 = l.getD i 0 := by simp [encL, List.getElem?_append, h]
theorem encL_succ (l : List UInt8) (f : Int) (k : Nat) (h : k < l.length) : encL l f (k + 1) = encL l f k ++ [nbU (l.getD k 0) f] := by
  unfold encL
  rw [List.take_succ_eq_append_getElem h, List.map_append, ← List.append_assoc]
  simp [h]
theorem encL_len (l : List UInt8) (f : Int) (k : Nat) (h : k ≤ l.length) : (encL l f k).length = l.length + k := by simp [encL, h]

theorem conv_any (l : List UInt8) (g c : Nat) (w : World) (hc : ∀ j (hj : j < l.length), w.cell? ⟨g, j, none⟩ = some (.int .u8 (l[j].toNat : Int))) :
    (convert 47 9 (.slice (some ⟨g, 0, none⟩) l.length c)).run Try.prog w = .ok (.string ⟨l.toArray⟩) w := by
  refine run_convert_bytes_back (P := Try.prog) w 47 9 5 ⟨g, 0, none⟩ c l Try.underlying47 Try.underlying5 Try.underlying9 ?_
  intro j hj
  have e : (⟨g, 0, none⟩ : Addr).add j = ⟨g, j, none⟩ := by
    unfold Addr.add
    split
    · rename_i h; subst h; rfl
    · simp
  rw [e]; exact hc j hj

set_option maxHeartbeats 1000000 in
theorem rencode_w (q s0 b f : Int) (w : World) : Calls Try.prog 12 #[.agg #[.int .i64 q, .int .i64 s0, .int .i64 b], .int .i64 f] w (RetSE (encS q s0 b f) (encE q s0 b f) w) := by
  by_cases hva : vaB q s0 b = true
  · by_cases hf : 0 ≤ f ∧ f < 8
    · obtain ⟨f1, f2⟩ := hf
      obtain ⟨h1, h2, h3, h4, h5, h6⟩ := va_t hva
      have HS : Hid (encS q s0 b f = secH (by8 (q / 256)) (by8 (q % 256)) (by8 s0) (by8 b) f ∧ encE q s0 b f = 0) := by
        show _ ∧ _
        simp [encS, encE, hva, f1, f2]
      obtain ⟨i0, hi, hz0, hz1, hz2⟩ := info_parts info8
      obtain ⟨l, hl⟩ : ∃ l, l = [by8 (q / 256), by8 (q % 256), by8 s0, by8 b] := ⟨_, rfl⟩
      have HL := Lib.hid hl
      have hlen : l.length = 4 := by rw [hl]; rfl
      clear hl
      go_enter Try.func12, Try.ntmps12
      go_upto_region 5 with (go_at_call 28; (with_reducible refine Calls.mono (rvalid_w _ _ _ _) ?_); rintro e w1 ⟨rfl, hb⟩; obtain ⟨hc, hfz, s1, s2, s3, s4, s5, s6, s7⟩ := kept hb)
      go_cut [6] (fun v wx => ∃ g, v = .slice (some ⟨g, 0, none⟩) 4 4 ∧ wx.ownsRow w.heap.size 5 1 (.slice (some ⟨g, 0, none⟩) 4 4) 4 (vs l) ∧ Below w.heap.size w wx)
      case first =>
        go_wp2
        go_meet
        case rel =>
          refine ⟨_, rfl, ⟨by simp [vs, hlen], Or.inr ⟨_, 4, _, rfl, ?_, heap_alloc_new _ _, by omega, by unfold maxLen; omega, rfl, ?_⟩⟩, ?_⟩
          · exact Nat.le_trans (by simp) hb.size
          · rw [HL.out]
            simp only [vs, List.map_cons, List.map_nil]
            rw [by8_nat (n := q / 256) (by omega) (by omega), by8_nat (n := q % 256) (by omega) (by omega), by8_nat (n := s0) (by omega) (by omega), by8_nat (n := b) (by omega) (by omega)]
            rfl
          · exact bl_alloc (bl_step ((Below.refl _ _).alloc (Nat.le_refl _) _) hb) _
      case rest =>
        obtain ⟨g, rfl, ho, hB⟩ := hcut
        clear h1 h2 h3 h4 h5 h6
        go_wp2
        go_loopw [6, 7] (fun v i wr => ∃ (k g cap : Nat), k ≤ 4 ∧ i = .int .i64 k ∧ v = .slice (some ⟨g, 0, none⟩) (4 + k) cap ∧ wr.ownsRow w.heap.size 5 1 (.slice (some ⟨g, 0, none⟩) (4 + k) cap) (4 + k) (vs (encL l f k)) ∧ Below w.heap.size w wr) (fun _ i _ => 4 - (intOf i).toNat)
        case atStart => exact ⟨0, g, 4, by omega, rfl, rfl, by simpa [encL] using ho, hB⟩
        case round =>
          clear ho hB
          obtain ⟨k, g2, cap, hk, rfl, rfl, ho, hB⟩ := hrel
          by_cases hlt : k < 4
          · have c0 := (ho.cellAt k (by omega)).trans (vs_get _ k (by rw [encL_len _ _ _ (by omega)]; omega))
            rw [encL_get _ _ _ _ (by omega)] at c0
            have hs := encL_succ l f k (by omega)
            have HSU := Lib.hid hs
            clear hs
            obtain ⟨y, hy⟩ : ∃ y, y = l.getD k 0 := ⟨_, rfl⟩
            rw [← hy] at c0
            have HY := Lib.hid hy
            clear hy
            go_wp2_with (at_builtin; refine wpList_append_lies _ rfl _ _ 47 rfl w.heap.size 5 i0 (.int .u8 0) 1 1 Try.underlying47 hi hz0 hz1 hz2 rfl (by decide) _ (4 + k) _ rfl (ho.alloc _) ⟨_, 0, none⟩ 1 1 [.int .u8 ((255 - bits BinOp.xor IntKind.u8 y.toNat f) % 256)] rfl rfl (World.news_of_block (heap_alloc_new _ _)) (one_one _ _) (by omega) (by unfold maxLen; omega) (by omega) (Nat.le_trans hB.size (by simp)) _ rfl ?_; intro g3 cap3 w3 ho3 hg3 hat3 hlt3)
            go_roundw
            case rel =>
              refine ⟨k + 1, g3, cap3, by omega, by go_num, rfl, ?_, (hB.alloc hB.size _).grown hg3 (Nat.le_trans hB.size (by simp)) ?_⟩
              · have e : vs [nbU y f] = [Value.int .u8 (nbI y.toNat f)] := by simp [vs, nb_nat]
                rw [HSU.out, ← HY.out, vs_app, e]
                exact ho3
              · intro r hr
                obtain ⟨g', c', e1, e2, e3⟩ := ho.form (by omega)
                cases e1
                have : g2 = r := Option.some.inj hr
                omega
            case measure => simp [intOf]; omega
          · obtain rfl : k = 4 := by omega
            have hL8 : (encL l f 4).length = 8 := by rw [encL_len _ _ _ (by omega)]; omega
            have k1 := conv_any (encL l f 4) g2 cap wr (fun j hj => (ho.cellAt j (by omega)).trans (by rw [vs_get _ _ hj]; simp [hj]))
            rw [hL8] at k1
            have HE : Hid (secH (by8 (q / 256)) (by8 (q % 256)) (by8 s0) (by8 b) f = ⟨(encL l f 4).toArray⟩) := by
              show _ = _
              rw [HL.out]
              simp [encL, secH, sec]
            clear hL8
            go_wp2
            go_ret2
            exact ⟨ret_se (by rw [HS.out.1, HE.out]) HS.out.2.symm, hB⟩
    · have hd : decide (0 ≤ f ∧ f < 8) = false := by simpa using hf
      have HS : Hid (encS q s0 b f = ⟨#[]⟩ ∧ encE q s0 b f = 2) := by
        show _ ∧ _
        simp [encS, encE, hva, hf]
      by_cases hf0 : 0 ≤ f
      · have hf8 : 8 ≤ f := by omega
        clear hf
        go_enter Try.func12, Try.ntmps12
        go_wp2_with (go_at_call 28; (with_reducible refine Calls.mono (rvalid_w _ _ _ _) ?_); rintro e w1 ⟨rfl, hb1⟩)
        go_ret2
        exact ⟨ret_se HS.out.1.symm HS.out.2.symm, bl_step ((Below.refl _ _).alloc (Nat.le_refl _) _) hb1⟩
      · have hf8 : f < 0 := by omega
        clear hf
        go_enter Try.func12, Try.ntmps12
        go_wp2_with (go_at_call 28; (with_reducible refine Calls.mono (rvalid_w _ _ _ _) ?_); rintro e w1 ⟨rfl, hb1⟩)
        go_ret2
        exact ⟨ret_se HS.out.1.symm HS.out.2.symm, bl_step ((Below.refl _ _).alloc (Nat.le_refl _) _) hb1⟩
  · simp only [Bool.not_eq_true] at hva
    have HS : Hid (encS q s0 b f = ⟨#[]⟩ ∧ encE q s0 b f = 1) := by
      show _ ∧ _
      simp [encS, encE, hva]
    go_enter Try.func12, Try.ntmps12
    go_wp2_with (go_at_call 28; (with_reducible refine Calls.mono (rvalid_w _ _ _ _) ?_); rintro e w1 ⟨rfl, hb1⟩)
    go_ret2
    exact ⟨ret_se HS.out.1.symm HS.out.2.symm, bl_step ((Below.refl _ _).alloc (Nat.le_refl _) _) hb1⟩

end Go.Proofs.Ytcgfffkfmnbneaa
