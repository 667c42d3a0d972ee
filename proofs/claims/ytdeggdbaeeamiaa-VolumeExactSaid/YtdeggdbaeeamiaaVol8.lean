/-
  Package volume's Map, by contract.
-/
import Derived.Test.YtdeggdbaeeamiaaVol7
namespace Go.Proofs.Ytdeggdbaeeamiaa
open Go.RowKit
set_option linter.unusedVariables false
set_option linter.unusedSimpArgs false

theorem pc_info : (Try.prog.info? 32).map (fun i => (i.zero, i.size, i.bytes)) = some (some (.agg #[.int .i64 0, .int .i64 0, .int .i64 0, .int .i64 0]), 4, 32) := by kernel_rfl
/-- A slice of pieces comes back, in memory of the call's own. -/
def RetPc (l : List Pc) (w : World) (e : Ending) (w' : World) : Prop := ∃ v, e = .returned v ∧ PcA w' v l ∧ Below w.heap.size w w'

theorem mirP_take (s c cp : Int) : ∀ (L : List Seg) (k n : Nat) (x : Seg), L[n]? = some x → mirP s c cp (L.take (n + 1)) k = mirP s c cp (L.take n) k ++ (if cp = ((k + n : Nat) : Int) ∨ cp = -1 then [(x.1, x.2.1 + s, c, 0)] else [])
  | [], k, n, x, h => by simp at h
  | y :: l, k, 0, x, h => by
    obtain rfl : y = x := by simpa using h
    simp [mirP]
  | y :: l, k, n + 1, x, h => by
    have := mirP_take s c cp l (k + 1) n x (by simpa using h)
    simp only [List.take_succ_cons, mirP, this, List.append_assoc]
    rw [show k + 1 + n = k + (n + 1) from by omega]
theorem mirP_len (s c cp : Int) : ∀ (L : List Seg) (k : Nat), (mirP s c cp L k).length ≤ L.length
  | [], k => by simp [mirP]
  | y :: l, k => by
    have := mirP_len s c cp l (k + 1)
    simp only [mirP, List.length_append, List.length_cons]
    split <;> simp <;> omega
theorem mapP_not {kd ch : Int} {L : List Seg} {s c cp : Int} (h : okB kd ch L s c = false) : mapP kd ch L s c cp = [] := by unfold mapP; rw [h]; rfl
theorem ok_sound {kd ch : Int} {L : List Seg} {s c : Int} (h : okB kd ch L s c = true) : soundB kd ch L = true ∧ szB kd ch L = sizeV kd L ∧ 1 ≤ c ∧ 0 ≤ s ∧ s < sizeV kd L ∧ c ≤ sizeV kd L - s ∧ sizeV kd L ≤ 128 := by
  simp only [okB, decide_eq_true_eq] at h
  unfold szB at h ⊢
  cases hs : soundB kd ch L with
  | false => rw [hs] at h; simp at h; omega
  | true =>
    rw [hs] at h
    simp only [if_true] at h ⊢
    obtain ⟨_, _, _, _, _, hz⟩ := sound_parts hs
    exact ⟨trivial, trivial, h.1, h.2.1, h.2.2.1, h.2.2.2, hz⟩
theorem szB_range (kd ch : Int) (L : List Seg) : 0 ≤ szB kd ch L ∧ szB kd ch L ≤ 128 := by
  unfold szB
  cases hs : soundB kd ch L with
  | false => simp
  | true =>
    obtain ⟨h1, _, ha, _, _, hz⟩ := sound_parts hs
    have hx : L[0]? = some L[0] := List.getElem?_eq_getElem (by omega)
    obtain ⟨_, _, _, _, c1, c2⟩ := seg_t (seg_of_all ha hx)
    rw [← at0_some hx] at c1 c2
    have := sumK_range ha L.length (Nat.le_refl _)
    simp only [if_true]
    refine ⟨?_, hz⟩
    unfold sizeV
    split <;> omega

theorem heap_at_new (w : World) (o : Obj) (n : Nat) (h : w.heap.size = n) : (w.alloc o).heap[n]? = some o := by subst h; exact heap_alloc_new w o
theorem VS.grown {W wx w' : World} {cap : Nat} {kd ch : Int} {A : Option Addr} {L : List Seg} {row : Option Nat} (h : VS W W.heap.size kd ch A L cap wx) (h0 : PA W A L) (hg : wx.grownBy w' row) (hr : ∀ g, row = some g → W.heap.size < g) : VS W W.heap.size kd ch A L cap w' := by
  have hb : Below W.heap.size W w' := h.2.2.grown hg h.2.2.size (fun k hk => by have := hr k hk; omega)
  exact ⟨(hg.block _ h.lt (fun e => by have := hr _ e.symm; omega)).trans h.1, h0.step hb, hb⟩
theorem own_snoc {w : World} {b : Nat} {t : TypeId} {v : Value} {l : List Pc} {x y z u : Int} (h : w.ownsRow b t 4 v (l.length + 1) (pcs l ++ [.int .i64 x, .int .i64 y, .int .i64 z, .int .i64 u])) : w.ownsRow b t 4 v (l ++ [(x, y, z, u)]).length (pcs (l ++ [(x, y, z, u)])) := by
  rw [pcs_snoc]
  simpa using h
theorem runP_len (kd ch : Int) (L : List Seg) (s c : Int) : ∀ (f : Nat) (off : Int), (runP kd ch L s c f off).length ≤ f
  | 0, _ => by simp [runP]
  | f + 1, off => by
    simp only [runP]
    split
    · have := runP_len kd ch L s c f (off + min (plc kd ch L (s + off)).2.2 (c - off))
      simp; omega
    · simp

set_option maxRecDepth 100000 in
set_option maxHeartbeats 4000000 in
theorem map_w (kd ch : Int) (A : Option Addr) (L : List Seg) (cap : Nat) (s c cp : Int) (w : World) (h : PA w A L) (hl : L.length ≤ maxLen) (hc : L.length ≤ cap) :
    Calls Try.prog 13 #[volV kd ch A L.length cap, .int .i64 s, .int .i64 c, .int .i64 cp] w (RetPc (mapP kd ch L s c cp) w) := by
  have hl' := hl
  unfold maxLen at hl'
  have HV := Lib.hid (VS.new (kd := kd) (ch := ch) (cap := cap) h)
  have hsz := fun w' (hp : PA w' A L) => Size_w kd ch A L cap w' hp hl hc
  have ⟨z0, z1⟩ := szB_range kd ch L
  obtain ⟨n, hn⟩ : ∃ n, szB kd ch L = n := ⟨_, rfl⟩
  rw [hn] at z0 z1
  simp only [hn] at hsz
  have Hn := Lib.hid hn
  have H0 := Lib.hid h
  clear h hn
  go_enter Try.func13, Try.ntmps13
  go_upto_region 1 with fail
  go_cut [9] (fun s9 wx => s9 = .int .i64 n ∧ VS w w.heap.size kd ch A L cap wx)
  case first =>
    go_wp2_with (go_at_call 11; (with_reducible refine Calls.mono (hsz _ HV.out.pa) ?_); rintro e w1 ⟨rfl, hb1⟩)
    go_meet
    case rel => exact ⟨rfl, HV.out.step hb1⟩
  case rest =>
    clear HV hsz
    obtain ⟨rfl, hV⟩ := hcut
    obtain ⟨W, rfl⟩ : ∃ W : World, W = wc := ⟨_, rfl⟩
    have HV := Lib.hid hV
    clear hV
    go_upto_region 2 with fail
    go_cut [37] (fun s37 wx => ∃ t, s37 = .bool t ∧ (!okB kd ch L s c) = t ∧ W = wx)
    case first =>
      by_cases q1 : c < 1
      · have Hok := Lib.hid (show (!okB kd ch L s c) = true by simp [okB]; omega)
        go_wp2
        go_meet
        case rel => exact ⟨_, rfl, Hok.out, rfl⟩
      · by_cases q2 : s < 0
        · have Hok := Lib.hid (show (!okB kd ch L s c) = true by simp [okB]; omega)
          go_wp2
          go_meet
          case rel => exact ⟨_, rfl, Hok.out, rfl⟩
        · by_cases q3 : n ≤ s
          · have Hok := Lib.hid (show (!okB kd ch L s c) = true by rw [← Hn.out] at q3; simp [okB]; omega)
            go_wp2
            go_meet
            case rel => exact ⟨_, rfl, Hok.out, rfl⟩
          · by_cases q4 : n - s < c
            · have Hok := Lib.hid (show (!okB kd ch L s c) = true by rw [← Hn.out] at q4; simp [okB]; omega)
              go_wp2
              go_meet
              case rel => exact ⟨_, rfl, Hok.out, rfl⟩
            · have Hok := Lib.hid (show (!okB kd ch L s c) = false by rw [← Hn.out] at q3 q4; simp [okB]; omega)
              go_wp2
              go_meet
              case rel => exact ⟨_, rfl, Hok.out, rfl⟩
    case rest =>
      obtain ⟨t, rfl, ht, rfl⟩ := hcut
      cases t with
      | true =>
        have Hm := Lib.hid (mapP_not (cp := cp) (show okB kd ch L s c = false by simpa using ht))
        clear ht
        go_wp2
        go_ret
        exact ⟨_, rfl, by rw [Hm.out]; exact ⟨none, 0, rfl, by simp, .inl rfl⟩, HV.out.below⟩
      | false =>
        have hok : okB kd ch L s c = true := by simpa using ht
        obtain ⟨hso, hsn, o1, o2, o3, o4, o5⟩ := ok_sound hok
        obtain ⟨h1, h4, ha, _⟩ := sound_parts hso
        have HA := Lib.hid ha
        have Hso := Lib.hid hso
        have Hok := Lib.hid hok
        generalize hzz : sizeV kd L = z at o3 o4 o5 hsn
        have Hz := Lib.hid hzz
        clear ht ha hso hok hzz hsn
        obtain ⟨i0, hi, hz0, hz1, hz2⟩ := info_parts pc_info
        obtain ⟨v0, v1, v2⟩ := HV.out.cell
        by_cases k3 : kd = 3
        · have e3 : (kd == 3) = true := by simp [k3]
          have Hmap := Lib.hid (show mapP kd ch L s c cp = mirP s c cp (L.take L.length) 0 by unfold mapP; rw [Hok.out, if_pos rfl, if_pos k3, List.take_length])
          clear k3
          go_wp2
          clear v0 v1 v2
          go_loopw [10, 44] (fun s10 s44 wx => ∃ k : Nat, k ≤ L.length ∧ s44 = .int .i64 k ∧ wx.ownsRow (w.heap.size + 1) 32 4 s10 (mirP s c cp (L.take k) 0).length (pcs (mirP s c cp (L.take k) 0)) ∧ VS w w.heap.size kd ch A L cap wx) (fun _ s44 _ => L.length - (intOf s44).toNat)
          case atStart => exact ⟨0, by omega, rfl, World.ownsRow_nil _ _ _ _, HV.out⟩
          case round =>
            clear HV
            obtain ⟨k, hk, rfl, hown, hV⟩ := hrel
            have hml := mirP_len s c cp (L.take k) 0
            rw [List.length_take] at hml
            have HV := Lib.hid hV
            clear hV
            by_cases hlt : k < L.length
            · obtain ⟨b, o, d, st, ct, rfl, hb, he, c0, c1, c2⟩ := HV.out.pa.at_ hlt
              obtain ⟨a1, a2, a3, a4, a5, a6⟩ := seg_t (seg_of_all HA.out he)
              simp only at a1 a2 a3 a4 a5 a6
              have ht := mirP_take s c cp L 0 k _ he
              rw [Nat.zero_add] at ht
              clear he
              by_cases hq : cp = (k : Int) ∨ cp = -1
              · rw [if_pos hq] at ht
                have Ht := Lib.hid ht
                have Hq := Lib.hid hq
                have hlt4 := HV.out.lt
                have hlen : (mirP s c cp (L.take k) 0).length ≤ k := by omega
                generalize mirP s c cp (L.take k) 0 = acc at hown Ht hml hlen
                clear ht hq
                by_cases q1 : cp = (k : Int)
                · have e1 : (cp == (k : Int)) = true := by simp [q1]
                  clear q1
                  go_wp2_with (at_builtin; go_loud (refine wpList_append_lies _ rfl (.tmp 56) (.tmp 65) 27 rfl (w.heap.size + 1) 32 i0 _ 4 32 Try.underlying27 hi hz0 hz1 hz2 rfl (by omega) _ acc.length (pcs acc) rfl ((hown.alloc _).alloc _) ⟨_, 0, none⟩ 1 1 [.int .i64 d, .int .i64 (st + s), .int .i64 c, .int .i64 0] rfl rfl (World.news_of_block (heap_at_new _ _ _ (by first | rfl | simp))) (by simp [Value.oneCell']) (by omega) (by unfold maxLen; omega) (by omega) (by simp; omega) _ rfl ?_); intro gg cap4 w4 hown4 hg4 hat4 hlt4)
                  go_roundw
                  case rel => exact ⟨k + 1, by omega, by go_num, by rw [Ht.out]; exact own_snoc hown4, ((HV.out.alloc _).alloc _).grown H0.out hg4 (fun g hg => by have := (hown.lt g hg).1; omega)⟩
                  case measure => simp [intOf]; omega
                · have e1 : (cp == (k : Int)) = false := by simp [q1]
                  have e2 : (cp == -1) = true := by rcases Hq.out with h | h; exact absurd h q1; simp [h]
                  clear q1
                  go_wp2_with (at_builtin; go_loud (refine wpList_append_lies _ rfl (.tmp 56) (.tmp 65) 27 rfl (w.heap.size + 1) 32 i0 _ 4 32 Try.underlying27 hi hz0 hz1 hz2 rfl (by omega) _ acc.length (pcs acc) rfl ((hown.alloc _).alloc _) ⟨_, 0, none⟩ 1 1 [.int .i64 d, .int .i64 (st + s), .int .i64 c, .int .i64 0] rfl rfl (World.news_of_block (heap_at_new _ _ _ (by first | rfl | simp))) (by simp [Value.oneCell']) (by omega) (by unfold maxLen; omega) (by omega) (by simp; omega) _ rfl ?_); intro gg cap4 w4 hown4 hg4 hat4 hlt4)
                  go_roundw
                  case rel => exact ⟨k + 1, by omega, by go_num, by rw [Ht.out]; exact own_snoc hown4, ((HV.out.alloc _).alloc _).grown H0.out hg4 (fun g hg => by have := (hown.lt g hg).1; omega)⟩
                  case measure => simp [intOf]; omega
              · rw [if_neg hq, List.append_nil] at ht
                have Ht := Lib.hid ht
                have e1 : (cp == (k : Int)) = false := by simp; exact fun h => hq (.inl h)
                have e2 : (cp == -1) = false := by simp; exact fun h => hq (.inr h)
                have Hown := Lib.hid hown
                clear ht hq hown
                go_wp2
                go_roundw
                case rel => exact ⟨k + 1, by omega, by go_num, by rw [Ht.out]; exact Hown.out.alloc _, HV.out.alloc _⟩
                case measure => simp [intOf]; omega
            · obtain rfl : k = L.length := by omega
              have Hown := Lib.hid hown
              clear hown
              go_wp2
              go_ret
              exact ⟨_, rfl, by rw [Hmap.out]; exact PcA.of_own Hown.out (by unfold maxLen; omega), HV.out.below⟩
        · have e3 : (kd == 3) = false := by simp [k3]
          have Hk3 := Lib.hid k3
          have Hmap := Lib.hid (show mapP kd ch L s c cp = runP kd ch L s c c.toNat 0 by unfold mapP; rw [Hok.out, if_pos rfl, if_neg k3])
          clear k3
          go_wp2
          clear v0 v1 v2
          have HL := Lib.hid (runP_len kd ch L s c c.toNat 0)
          go_loopw [10, 13] (fun s10 s13 wx => ∃ (acc : List Pc) (off : Int) (f : Nat), s13 = .int .i64 off ∧ wx.ownsRow (w.heap.size + 1) 32 4 s10 acc.length (pcs acc) ∧ runP kd ch L s c c.toNat 0 = acc ++ runP kd ch L s c f off ∧ 0 ≤ off ∧ off ≤ c ∧ c - off ≤ f ∧ VS w w.heap.size kd ch A L cap wx) (fun _ s13 _ => (c - intOf s13).toNat)
          case atStart => exact ⟨[], 0, c.toNat, rfl, World.ownsRow_nil _ _ _ _, rfl, by omega, by omega, by omega, HV.out⟩
          case round =>
            clear HV
            obtain ⟨acc, off, f, rfl, hown, hrun, f0, f1, f2, hV⟩ := hrel
            have HV := Lib.hid hV
            have hacc : acc.length ≤ 128 := by
              have := HL.out
              rw [hrun, List.length_append] at this
              omega
            clear hV
            by_cases hlt : off < c
            · obtain ⟨f, rfl⟩ : ∃ g, f = g + 1 := ⟨f - 1, by omega⟩
              have hpl := fun w' (hp : PA w' A L) => place_w kd ch A L cap (s + off) w' hp Hso.out Hk3.out (by omega) (by rw [Hz.out]; omega)
              obtain ⟨r1, r2, r3⟩ := plc_range (s := s + off) Hso.out Hk3.out (by omega) (by rw [Hz.out]; omega)
              simp only [runP] at hrun
              rw [if_pos hlt] at hrun
              generalize plc kd ch L (s + off) = P at hpl r1 r2 r3 hrun
              obtain ⟨p, at_, room⟩ := P
              simp only at hpl r1 r2 r3 hrun
              obtain ⟨b, o, d, st, ct, rfl, hb, he, c0, c1, c2⟩ := HV.out.pa.at_ r1
              rw [at0_some he] at hrun
              obtain ⟨v0, v1, v2⟩ := HV.out.cell
              have hlt4 := HV.out.lt
              have p0 : (0 : Int) ≤ (p : Int) := by omega
              have p1 : (p : Int) < (L.length : Int) := by omega
              clear he c1 c2
              by_cases hq : room ≤ c - off
              · rw [Int.min_eq_left hq] at hrun
                have Hrun := Lib.hid hrun
                clear hrun
                go_wp2_with (first
                  | (go_at_call 31; (with_reducible refine Calls.mono (hpl _ HV.out.pa) ?_); rintro e w1 ⟨rfl, hb1⟩; have HV1 := Lib.hid (HV.out.step hb1); clear v0 v1 v2; obtain ⟨v0, v1, v2⟩ := HV1.out.cell; have k0 := (hb1.cell (p := ⟨b, _, none⟩) hb).trans c0; have Hown := Lib.hid (hown.kept (row := none) ⟨hb1.os, hb1.tape, hb1.output, hb1.size, fun k hk _ => hb1.block k hk⟩ (by cases h : u10.ownBlock with | none => exact .inl rfl | some b => exact .inr (by simp))))
                  | (at_builtin; go_loud (refine wpList_append_lies _ rfl (.tmp 86) (.tmp 97) 27 rfl (w.heap.size + 1) 32 i0 _ 4 32 Try.underlying27 hi hz0 hz1 hz2 rfl (by omega) _ acc.length (pcs acc) rfl (Hown.out.alloc _) ⟨_, 0, none⟩ 1 1 [.int .i64 d, .int .i64 at_, .int .i64 room, .int .i64 off] rfl rfl (World.news_of_block (heap_at_new _ _ _ (by first | rfl | simp))) (by simp [Value.oneCell']) (by omega) (by unfold maxLen; omega) (by omega) (by have := HV1.out.lt; simp; omega) _ rfl ?_); intro gg cap4 w4 hown4 hg4 hat4 hlt4))
                go_roundw
                case rel => exact ⟨acc ++ [(d, at_, room, off)], off + room, f, rfl, own_snoc hown4, by rw [Hrun.out]; simp, by omega, by omega, by omega, (HV1.out.alloc _).grown H0.out hg4 (fun g hg => by have := (Hown.out.lt g hg).1; omega)⟩
                case measure => simp [intOf]; omega
              · rw [Int.min_eq_right (by omega)] at hrun
                have Hrun := Lib.hid hrun
                clear hrun
                go_wp2_with (first
                  | (go_at_call 31; (with_reducible refine Calls.mono (hpl _ HV.out.pa) ?_); rintro e w1 ⟨rfl, hb1⟩; have HV1 := Lib.hid (HV.out.step hb1); clear v0 v1 v2; obtain ⟨v0, v1, v2⟩ := HV1.out.cell; have k0 := (hb1.cell (p := ⟨b, _, none⟩) hb).trans c0; have Hown := Lib.hid (hown.kept (row := none) ⟨hb1.os, hb1.tape, hb1.output, hb1.size, fun k hk _ => hb1.block k hk⟩ (by cases h : u10.ownBlock with | none => exact .inl rfl | some b => exact .inr (by simp))))
                  | (at_builtin; go_loud (refine wpList_append_lies _ rfl (.tmp 86) (.tmp 97) 27 rfl (w.heap.size + 1) 32 i0 _ 4 32 Try.underlying27 hi hz0 hz1 hz2 rfl (by omega) _ acc.length (pcs acc) rfl (Hown.out.alloc _) ⟨_, 0, none⟩ 1 1 [.int .i64 d, .int .i64 at_, .int .i64 (c - off), .int .i64 off] rfl rfl (World.news_of_block (heap_at_new _ _ _ (by first | rfl | simp))) (by simp [Value.oneCell']) (by omega) (by unfold maxLen; omega) (by omega) (by have := HV1.out.lt; simp; omega) _ rfl ?_); intro gg cap4 w4 hown4 hg4 hat4 hlt4))
                go_roundw
                case rel => exact ⟨acc ++ [(d, at_, c - off, off)], off + (c - off), f, by go_num, own_snoc hown4, by rw [Hrun.out]; simp, by omega, by omega, by omega, (HV1.out.alloc _).grown H0.out hg4 (fun g hg => by have := (Hown.out.lt g hg).1; omega)⟩
                case measure => simp [intOf]; omega
            · obtain rfl : off = c := by omega
              have Hown := Lib.hid hown
              have Hrun := Lib.hid (show runP kd ch L s off off.toNat 0 = acc by
                rw [hrun]
                cases f with
                | zero => simp [runP]
                | succ f => simp [runP])
              clear hown hrun
              go_wp2
              go_ret
              exact ⟨_, rfl, by rw [Hmap.out, Hrun.out]; exact PcA.of_own Hown.out (by unfold maxLen; omega), HV.out.below⟩

end Go.Proofs.Ytdeggdbaeeamiaa
