/-
  Package volume's and the reference's Drives, and SameInts, by contracts.
-/
import Derived.Test.YtdeggdbaeeamiaaVolS
namespace Go.Proofs.Ytdeggdbaeeamiaa
open Go.RowKit Go.Sort
set_option linter.unusedVariables false
set_option linter.unusedSimpArgs false

set_option maxHeartbeats 1000000 in
theorem sameInts_w (va vb : Value) (l : List Int) (w : World) (ha : ZAs w va l) (hb : ZAs w vb l) : Calls Try.prog 24 #[va, vb] w (RetB true w) := by
  obtain ⟨A, ca, rfl, hm, hA⟩ := ha
  obtain ⟨B, cb, rfl, _, hB⟩ := hb
  unfold maxLen at hm
  have HA := Lib.hid hA
  have HB := Lib.hid hB
  clear hA hB
  go_enter Try.func24, Try.ntmps24
  go_wp2
  go_loopw [5] (fun s5 wx => ∃ k : Nat, k ≤ l.length ∧ s5 = .int .i64 k ∧ ZA wx A l ∧ ZA wx B l ∧ Below w.heap.size w wx) (fun s5 _ => l.length - (intOf s5).toNat)
  case atStart => exact ⟨0, by omega, rfl, HA.out, HB.out, Below.refl _ _⟩
  case round =>
    clear HA HB
    obtain ⟨k, hk, rfl, hA, hB, hW⟩ := hrel
    have HA := Lib.hid hA
    have HB := Lib.hid hB
    clear hA hB
    by_cases hlt : k < l.length
    · obtain ⟨b, o, z, rfl, lb, he, a0⟩ := HA.out.at_ hlt
      obtain ⟨b', o', z', rfl, lb', he', b0⟩ := HB.out.at_ hlt
      rw [he] at he'
      injection he' with he'
      subst he'
      have z0 : (0 : Int) ≤ (k : Int) := by omega
      have z1 : (k : Int) < (l.length : Int) := by omega
      clear he
      go_upto_region 6 with fail
      go_quiet (fail)
      go_wp2
      go_roundw
      case rel => exact ⟨k + 1, by omega, by go_num, HA.out.drewN _, HB.out.drewN _, below_drewN hW _⟩
      case measure => simp [intOf]; omega
    · obtain rfl : k = l.length := by omega
      go_wp2
      go_ret
      exact ⟨rfl, hW⟩

set_option maxRecDepth 100000 in
set_option maxHeartbeats 2000000 in
theorem rDrives_w (kd ch : Int) (A : Option Addr) (L : List Seg) (cap : Nat) (w : World) (h : PA w A L) (hl : L.length ≤ maxLen) :
    Calls Try.prog 26 #[volV kd ch A L.length cap] w (RetZs (dvP kd ch L) w) := by
  have cs := fun w' (hp : PA w' A L) => rsound_w kd ch A L cap w' hp hl
  have HV := Lib.hid (VS.new (kd := kd) (ch := ch) (cap := cap) h)
  have H0 := Lib.hid h
  unfold maxLen at hl
  clear h
  cases hs : soundB kd ch L with
  | false =>
    rw [hs] at cs
    have Hr := Lib.hid (show dvP kd ch L = [] by unfold dvP; rw [hs]; rfl)
    clear hs
    go_enter Try.func26, Try.ntmps26
    go_wp2_with (go_at_call 30; (with_reducible refine Calls.mono (cs _ HV.out.pa) ?_); rintro e w1 ⟨rfl, hb1⟩)
    go_ret
    exact ⟨_, rfl, by rw [Hr.out]; exact ZAs.nil _, bl_step HV.out.below hb1⟩
  | true =>
    rw [hs] at cs
    have Hr := Lib.hid (show dvP kd ch L = [0, 1, 2, 3].filter (fun d => L.any (fun p => p.1 == d)) by unfold dvP; rw [hs]; rfl)
    obtain ⟨h1, h4, _⟩ := sound_parts hs
    obtain ⟨i0, hi, hz0, hz1, hz2⟩ := info_parts int_info
    clear hs
    go_enter Try.func26, Try.ntmps26
    go_wp2_with (go_at_call 30; (with_reducible refine Calls.mono (cs _ HV.out.pa) ?_); rintro e w1 ⟨rfl, hb1⟩; have HV1 := Lib.hid (HV.out.step hb1); clear HV)
    go_loopw [3, 4] (fun s3 s4 wx => ∃ d : Nat, d ≤ 4 ∧ s4 = .int .i64 d ∧ wx.ownsRow (w.heap.size + 1) 3 1 s3 ((([0, 1, 2, 3] : List Int).take d).filter (fun d => L.any (fun p => p.1 == d))).length (((([0, 1, 2, 3] : List Int).take d).filter (fun d => L.any (fun p => p.1 == d))).map (Value.int .i64)) ∧ VS w w.heap.size kd ch A L cap wx) (fun _ s4 _ => 4 - (intOf s4).toNat)
    case atStart => exact ⟨0, by omega, rfl, World.ownsRow_nil _ _ _ _, HV1.out⟩
    case round =>
      clear HV1
      obtain ⟨d, hd, rfl, hown, hV⟩ := hrel
      have HV := Lib.hid hV
      have Hown := Lib.hid hown
      have hlen : ((([0, 1, 2, 3] : List Int).take d).filter (fun d => L.any (fun p => p.1 == d))).length ≤ d := Nat.le_trans (List.length_filter_le _ _) (by simp; omega)
      clear hV hown
      by_cases hlt : d < 4
      · have Hs := Lib.hid (show (([0, 1, 2, 3] : List Int).take (d + 1)).filter (fun d => L.any (fun p => p.1 == d)) = (([0, 1, 2, 3] : List Int).take d).filter (fun d => L.any (fun p => p.1 == d)) ++ (if L.any (fun p => p.1 == (d : Int)) = true then [(d : Int)] else []) by
          have hg : ([0, 1, 2, 3] : List Int)[d]? = some (d : Int) := by
            have : d = 0 ∨ d = 1 ∨ d = 2 ∨ d = 3 := by omega
            rcases this with rfl | rfl | rfl | rfl <;> rfl
          rw [List.take_add_one, hg, Option.toList_some, List.filter_append]
          congr 1
          simp only [List.filter_cons, List.filter_nil])
        generalize (([0, 1, 2, 3] : List Int).take d).filter (fun d => L.any (fun p => p.1 == d)) = acc at Hown Hs hlen
        obtain ⟨v0, v1, v2⟩ := HV.out.cell
        go_wp2
        clear v0 v1 v2
        go_loopw [3, 5] (fun s3 s5 wx => ∃ k : Nat, k ≤ L.length ∧ s5 = .int .i64 k ∧ (∀ (j : Nat) (x : Seg), j < k → L[j]? = some x → (x.1 == (d : Int)) = false) ∧ wx.ownsRow (w.heap.size + 1) 3 1 s3 acc.length (acc.map (Value.int .i64)) ∧ VS w w.heap.size kd ch A L cap wx) (fun _ s5 _ => L.length - (intOf s5).toNat)
        case atStart => exact ⟨0, by omega, rfl, fun j x hj => by omega, Hown.out, HV.out⟩
        case round =>
          clear HV Hown
          obtain ⟨k, hk, rfl, hno, hown, hV⟩ := hrel
          have HV := Lib.hid hV
          have Hown := Lib.hid hown
          have Hno := Lib.hid hno
          have lV := hV.lt
          obtain ⟨v0, v1, v2⟩ := hV.cell
          clear hV hown hno
          by_cases hkl : k < L.length
          · obtain ⟨b, o, d', st, ct, rfl, lb, he, c0, _, _⟩ := HV.out.pa.at_ hkl
            have z0 : (0 : Int) ≤ (k : Int) := by omega
            have z1 : (k : Int) < (L.length : Int) := by omega
            have He := Lib.hid he
            clear he
            cases hd' : (d' == (d : Int)) with
            | true =>
              have Hn := Lib.hid (show L.any (fun p => p.1 == (d : Int)) = true from List.any_eq_true.2 ⟨_, List.mem_of_getElem? He.out, by rw [hd']⟩)
              go_wp2_with (at_builtin; go_loud (refine wpList_append_lies _ rfl (.tmp 28) (.tmp 30) 43 rfl (w.heap.size + 1) 3 i0 _ 1 8 Try.underlying43 hi hz0 hz1 hz2 rfl (by omega) _ acc.length (acc.map (Value.int .i64)) rfl (Hown.out.alloc _) ⟨_, 0, none⟩ 1 1 [.int .i64 (d : Int)] rfl rfl (World.news_of_block (heap_at_new _ _ _ (by first | rfl | simp))) (by simp [Value.oneCell']) (by omega) (by unfold maxLen; omega) (by omega) (by simp; omega) _ rfl ?_); intro gg cap4 w4 hown4 hg4 hat4 hlt4)
              go_roundw
              case rel => 
                refine ⟨d + 1, by omega, by go_num, ?_, (HV.out.alloc _).grown H0.out hg4 (fun g hg => by have := (Hown.out.lt g hg).1; omega)⟩
                rw [Hs.out, Hn.out, if_pos rfl]
                simpa using hown4
              case measure => simp [intOf]; omega
            | false =>
              go_wp2
              go_roundw
              case rel => exact ⟨k + 1, by omega, by go_num, fun j x hj hx => by
                by_cases hjk : j < k
                · exact Hno.out j x hjk hx
                · obtain rfl : j = k := by omega
                  rw [He.out] at hx
                  injection hx with hx
                  rw [← hx]; exact hd', Hown.out, HV.out⟩
              case measure => simp [intOf]; omega
          · have Hn := Lib.hid (show L.any (fun p => p.1 == (d : Int)) = false from List.any_eq_false.2 fun x hx => by
              obtain ⟨j, hj⟩ := List.getElem?_of_mem hx
              rw [Hno.out j x (by have := (List.getElem?_eq_some_iff.1 hj).1; omega) hj]
              simp)
            go_wp2
            go_roundw
            case rel => exact ⟨d + 1, by omega, by go_num, by rw [Hs.out, Hn.out, if_neg (by simp), List.append_nil]; exact Hown.out, HV.out⟩
            case measure => simp [intOf]; omega
      · obtain rfl : d = 4 := by omega
        go_wp2
        go_ret
        exact ⟨_, rfl, by rw [Hr.out]; exact ZAs.of_own Hown.out (by have : ∀ x, x ≤ 4 → x ≤ maxLen := fun x hx => by unfold maxLen; omega
                                                                     exact this _ hlen), HV.out.below⟩


set_option maxRecDepth 100000 in
set_option maxHeartbeats 2000000 in
theorem drives_w (kd ch : Int) (A : Option Addr) (L : List Seg) (cap : Nat) (w : World) (h : PA w A L) (hl : L.length ≤ maxLen) (hc : L.length ≤ cap) :
    Calls Try.prog 25 #[volV kd ch A L.length cap] w (RetZs (dvP kd ch L) w) := by
  have cs := fun w' (hp : PA w' A L) => sound_w kd ch A L cap w' hp hl hc
  have HV := Lib.hid (VS.new (kd := kd) (ch := ch) (cap := cap) h)
  have H0 := Lib.hid h
  unfold maxLen at hl
  clear h
  cases hs : soundB kd ch L with
  | false =>
    rw [hs] at cs
    have Hr := Lib.hid (show dvP kd ch L = [] by unfold dvP; rw [hs]; rfl)
    clear hs
    go_enter Try.func25, Try.ntmps25
    go_wp2_with (go_at_call 28; (with_reducible refine Calls.mono (cs _ HV.out.pa) ?_); rintro e w1 ⟨rfl, hb1⟩)
    go_ret
    exact ⟨_, rfl, by rw [Hr.out]; exact ZAs.nil _, bl_step HV.out.below hb1⟩
  | true =>
    rw [hs] at cs
    obtain ⟨h1, h4, ha, _⟩ := sound_parts hs
    have Hr := Lib.hid (show dvP kd ch L = Lib.compact ((L.map (·.1)).mergeSort (fun x y => decide (x ≤ y))) by unfold dvP; rw [hs, ← dr_eq ha]; rfl)
    obtain ⟨i0, hi, hz0, hz1, hz2⟩ := info_parts int_info
    clear hs ha
    go_enter Try.func25, Try.ntmps25
    go_wp2_with (go_at_call 28; (with_reducible refine Calls.mono (cs _ HV.out.pa) ?_); rintro e w1 ⟨rfl, hb1⟩; have HV1 := Lib.hid (HV.out.step hb1); obtain ⟨v0, v1, v2⟩ := HV1.out.cell; clear HV)
    clear v0 v1 v2
    go_loopw [3, 12] (fun s3 s12 wx => ∃ i : Nat, i ≤ L.length ∧ s12 = .int .i64 i ∧ wx.ownsRow (w.heap.size + 1) 3 1 s3 ((L.take i).map (·.1)).length (((L.take i).map (·.1)).map (Value.int .i64)) ∧ VS w w.heap.size kd ch A L cap wx) (fun _ s12 _ => L.length - (intOf s12).toNat)
    case atStart => exact ⟨0, by omega, rfl, World.ownsRow_nil _ _ _ _, HV1.out⟩
    case round =>
      clear HV1
      obtain ⟨i, hi', rfl, hown, hV⟩ := hrel
      have HV := Lib.hid hV
      have Hown := Lib.hid hown
      have lV := hV.lt
      by_cases hlt : i < L.length
      · obtain ⟨b, o, d, st, ct, rfl, lb, he, c0, c1, c2⟩ := hV.pa.at_ hlt
        have hlen : ((L.take i).map (·.1)).length ≤ i := by simp; omega
        have Hs := Lib.hid (show (L.take (i + 1)).map (·.1) = (L.take i).map (·.1) ++ [d] by rw [List.take_add_one, he]; simp)
        have z0 : (0 : Int) ≤ (i : Int) := by omega
        have z1 : (i : Int) < (L.length : Int) := by omega
        generalize (L.take i).map (·.1) = acc at Hown Hs hlen
        clear hV hown he
        go_wp2_with (at_builtin; go_loud (refine wpList_append_lies _ rfl (.tmp 16) (.tmp 19) 43 rfl (w.heap.size + 1) 3 i0 _ 1 8 Try.underlying43 hi hz0 hz1 hz2 rfl (by omega) _ acc.length (acc.map (Value.int .i64)) rfl ((Hown.out.alloc _).alloc _) ⟨_, 0, none⟩ 1 1 [.int .i64 d] rfl rfl (World.news_of_block (heap_at_new _ _ _ (by first | rfl | simp))) (by simp [Value.oneCell']) (by omega) (by unfold maxLen; omega) (by omega) (by simp; omega) _ rfl ?_); intro gg cap4 w4 hown4 hg4 hat4 hlt4)
        go_roundw
        case rel =>
          refine ⟨i + 1, by omega, by go_num, ?_, ((HV.out.alloc _).alloc _).grown H0.out hg4 (fun g hg => by have := (Hown.out.lt g hg).1; omega)⟩
          rw [Hs.out]
          simpa using hown4
        case measure => simp [intOf]; omega
      · obtain rfl : i = L.length := by omega
        rw [List.take_length] at Hown hown
        have Hzl := Lib.hid (show (L.map (·.1)).length = L.length by simp)
        generalize L.map (·.1) = zs at Hown hown Hr Hzl
        have hzl := Hzl.out
        obtain ⟨g, cap2, cur, hu, hg1, hgh, hg2, hg3, hg4, hg5⟩ : ∃ g cap2 cur, u3 = .slice (some ⟨g, 0, none⟩) zs.length cap2 ∧ w.heap.size + 1 ≤ g ∧ wr.heap[g]? = some (.cells cur 3 (0, 0)) ∧ zs.length ≤ cap2 ∧ cap2 ≤ maxLen ∧ cur.size = cap2 * 1 ∧ cur.toList.take zs.length = zs.map (Value.int .i64) := by
          rcases hown.2 with ⟨h1, h2⟩ | ⟨g, cap2, cur, a1, a2, a3, a4, a5, a6, a7⟩
          · omega
          · exact ⟨g, cap2, cur, a1, a2, a3, a4, a5, a6, by simpa using a7⟩
        subst hu
        have hH := holds_of_blockI hgh hg5
        have srt := Try.slices_Sort_int g 0 cap2 zs wr hH (bk_lt hgh) (by omega)
        have Hlen := Lib.hid (show (zs.mergeSort (fun x y => decide (x ≤ y))).length = zs.length from List.length_mergeSort _)
        generalize zs.mergeSort (fun x y => decide (x ≤ y)) = ts at srt Hr Hlen
        have Ho2 := Lib.hid (fun n os => ownsRow_sortedI (w := wr) (base := w.heap.size + 1) (g := g) (cap := cap2) (n := n) (e := 3) (os := os) (ts := ts) Hlen.out hg1 hgh hg2 hg3 hg4)
        have HB := Lib.hid hV.below
        have Hgr := Lib.hid (fun n os => grownBy_sortedI (w := wr) (g := g) (n := n) (os := os) ts.toArray)
        have hz4 : zs.length ≤ 4 := by omega
        clear hV hown hH hgh hg5 HV Hown hzl
        go_wp2_with (first
          | (go_at_call 35; (with_reducible refine Calls.mono srt ?_); rintro e w2 ⟨rfl, q2, os, hw2⟩
             have O2 := Lib.hid (by have h2 := Ho2.out q2 os; rw [← hw2] at h2; exact h2)
             have B2 := Lib.hid (by have h2 := Hgr.out q2 os; rw [← hw2] at h2; exact HB.out.grown h2 HB.out.size (fun k hk => by injection hk with hk; omega))
             obtain ⟨g', cap', e', _, _, _, _, _, hH2⟩ := Lib.holds_of_ownsRow O2.out (by simp)
             injection e' with e1 e2 e3
             injection e1 with e1
             injection e1 with e1
             subst e1; subst e3
             have cmp := Try.slices_Compact_int g 0 cap2 ts w2 hH2 (by rw [Hlen.out]; omega) (by rw [Hlen.out]; exact hg2)
             rw [Hlen.out] at cmp
             clear hH2 hw2 srt Ho2 Hgr HB)
          | (go_at_call 36; (with_reducible refine Calls.mono cmp ?_); rintro e w3 ⟨rfl, q3, hw3⟩))
        have hle := Lib.compact_length_le ts
        have hlen2 := Hlen.out
        have hzl := Hzl.out
        have O3 := Lib.ownsRow_putRow (q := q3) (k := (Lib.compact ts).length) (ys := Lib.compact ts ++ List.replicate (zs.length - (Lib.compact ts).length) 0) O2.out (by rw [List.length_append, List.length_replicate]; omega) (by omega)
        have B3 := Lib.below_putRow (enc := Value.int .i64) (q := q3) (g := g) (d := (Lib.compact ts ++ List.replicate (zs.length - (Lib.compact ts).length) 0).toArray) B2.out (by omega)
        rw [List.take_left' rfl] at O3
        have HO3 := Lib.hid O3
        have HB3 := Lib.hid B3
        clear O3 B3
        go_ret
        exact ⟨_, rfl, by rw [Hr.out]; exact ZAs.of_own HO3.out (by unfold maxLen; omega), HB3.out⟩

end Go.Proofs.Ytdeggdbaeeamiaa
