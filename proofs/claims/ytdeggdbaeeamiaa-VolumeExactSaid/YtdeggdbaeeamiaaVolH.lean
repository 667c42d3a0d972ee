/-
  The law VolumePlaces: plain part and walk.
-/
import Derived.Test.YtdeggdbaeeamiaaVolG
import Derived.Test.YtdeggdbaeeamiaaExt
namespace Go.Proofs.Ytdeggdbaeeamiaa
open Go.RowKit
set_option linter.unusedVariables false
set_option linter.unusedSimpArgs false

theorem runP_mem {kd ch : Int} {L : List Seg} {s c : Int} : ∀ (f : Nat) (off : Int) (p : Pc), p ∈ runP kd ch L s c f off → 0 ≤ off → soundB kd ch L = true → kd ≠ 3 → 0 ≤ s → s + c ≤ sizeV kd L →
    ∃ o, off ≤ o ∧ o < c ∧ p = ((at0 L (plc kd ch L (s + o)).1).1, (plc kd ch L (s + o)).2.1, min (plc kd ch L (s + o)).2.2 (c - o), o)
  | 0, off, p, h, _, _, _, _, _ => by simp [runP] at h
  | f + 1, off, p, h, h0, hs, hk, s0, s1 => by
    simp only [runP] at h
    by_cases hlt : off < c
    · rw [if_pos hlt] at h
      obtain ⟨r1, r2, r3⟩ := plc_range (s := s + off) hs hk (by omega) (by omega)
      rcases List.mem_cons.1 h with h | h
      · exact ⟨off, by omega, hlt, h⟩
      · obtain ⟨o, h1, h2, h3⟩ := runP_mem f _ p h (by omega) hs hk s0 s1
        exact ⟨o, by omega, h2, h3⟩
    · rw [if_neg hlt] at h; cases h
theorem mirP_mem {s c cp : Int} : ∀ (L : List Seg) (k : Nat) (p : Pc), p ∈ mirP s c cp L k → ∃ x ∈ L, p = (x.1, x.2.1 + s, c, 0)
  | [], k, p, h => by simp [mirP] at h
  | y :: l, k, p, h => by
    simp only [mirP, List.mem_append] at h
    rcases h with h | h
    · by_cases hq : cp = (k : Int) ∨ cp = -1
      · rw [if_pos hq] at h
        exact ⟨y, by simp, by simpa using h⟩
      · rw [if_neg hq] at h; cases h
    · obtain ⟨x, hx, e⟩ := mirP_mem l (k + 1) p h
      exact ⟨x, List.mem_cons_of_mem _ hx, e⟩
theorem mirP_all {s c : Int} : ∀ (L : List Seg) (k : Nat) (x : Seg), x ∈ L → (x.1, x.2.1 + s, c, 0) ∈ mirP s c (-1) L k
  | y :: l, k, x, h => by
    simp only [mirP, List.mem_append]
    rcases List.mem_cons.1 h with h | h
    · subst h; exact .inl (by simp)
    · exact .inr (mirP_all l (k + 1) x h)
theorem mirP_prefix (s c cp : Int) : ∀ (L : List Seg) (k n : Nat), mirP s c cp (L.take n) k <+: mirP s c cp L k
  | [], k, n => by simp [mirP]
  | y :: l, k, 0 => by simp [mirP]
  | y :: l, k, n + 1 => by
    simp only [List.take_succ_cons, mirP]
    exact (List.prefix_append_right_inj _).2 (mirP_prefix s c cp l (k + 1) n)
theorem hit_mem {d s c f : Int} {l : List Pc} (h : (d, s, c, f) ∈ l) : hitB d s l = true := List.any_eq_true.2 ⟨_, h, by simp⟩
/-- Each sector of a piece is a place of its sector of the request. -/
theorem piece_hit {kd ch : Int} {L : List Seg} {s c cp : Int} (hok : okB kd ch L s c = true) {p : Pc} (hp : p ∈ mapP kd ch L s c cp) {k : Int} (k0 : 0 ≤ k) (k1 : k < p.2.2.1) :
    0 ≤ p.2.2.2 ∧ s + p.2.2.2 + k < szB kd ch L ∧ hitB p.1 (p.2.1 + k) (mapP kd ch L (s + p.2.2.2 + k) 1 (-1)) = true := by
  obtain ⟨hs, hz, h1, h2, h3, h4, h5⟩ := ok_sound hok
  unfold mapP at hp
  rw [hok, if_pos rfl] at hp
  by_cases hk : kd = 3
  · rw [if_pos hk] at hp
    obtain ⟨x, hx, rfl⟩ := mirP_mem L 0 p hp
    simp only at k1 ⊢
    have hok' := ok_mk (kd := kd) (ch := ch) (L := L) (s := s + 0 + k) (c := 1) (by omega) (by omega) (by omega) (by omega)
    refine ⟨by omega, by omega, ?_⟩
    unfold mapP
    rw [hok', if_pos rfl, if_pos hk]
    have := mirP_all (s := s + 0 + k) (c := 1) L 0 x hx
    rw [show x.2.1 + (s + 0 + k) = x.2.1 + s + k from by omega] at this
    exact hit_mem this
  · rw [if_neg hk] at hp
    obtain ⟨o, o1, o2, rfl⟩ := runP_mem _ 0 p hp (by omega) hs hk h2 (by omega)
    simp only at k1 ⊢
    have hok' := ok_mk (kd := kd) (ch := ch) (L := L) (s := s + o + k) (c := 1) (by omega) (by omega) (by omega) (by omega)
    refine ⟨by omega, by omega, ?_⟩
    unfold mapP
    rw [hok', if_pos rfl, if_neg hk]
    have hsh := plc_shift (s := s + o) (k := k) hs hk (by omega) k0 (by omega) (by omega)
    show hitB _ _ (runP kd ch L (s + o + k) 1 1 0) = true
    simp only [runP, show (0 : Int) < 1 from by omega, if_true, Int.add_zero]
    rw [hsh]
    exact hit_mem (List.mem_cons_self ..)
theorem hit_some {d s : Int} {l : List Pc} (h : hitB d s l = true) : ∃ p ∈ l, p.1 = d ∧ p.2.1 = s := by
  obtain ⟨p, hp, e⟩ := List.any_eq_true.1 h
  simp only [Bool.and_eq_true, beq_iff_eq] at e
  exact ⟨p, hp, e⟩
theorem find_unique {kd ch : Int} {L : List Seg} (hm : (kd, ch, L) ∈ madeL) {d t : Int} {x : Nat} (x1 : (x : Int) < szB kd ch L) (h : hitB d t (mapP kd ch L x 1 (-1)) = true) : findP kd ch L d t = some x := by
  have := findG_some (kd := kd) (ch := ch) (L := L) (d := d) (s := t) (szB kd ch L).toNat 0 x (by omega) (fun y _ hy => by
    cases hh : hitB d t (mapP kd ch L y 1 (-1)) with
    | false => rfl
    | true =>
      exfalso
      obtain ⟨p, hp, e1, e2⟩ := hit_some h
      obtain ⟨q, hq, e3, e4⟩ := hit_some hh
      have := (differs hm (x := x) (y := y) (by omega) x1 (by omega) (by omega)).2.2 (by omega) p hp q hq
      simp [apart, e1, e2, e3, e4] at this) (by rwa [Nat.zero_add])
  rwa [Nat.zero_add] at this
/-- Find undoes Map. -/
theorem places {kd ch : Int} {L : List Seg} (hm : (kd, ch, L) ∈ madeL) {s c cp : Int} (hok : okB kd ch L s c = true) {p : Pc} (hp : p ∈ mapP kd ch L s c cp) {k : Int} (k0 : 0 ≤ k) (k1 : k < p.2.2.1) :
    ∃ x : Nat, (x : Int) = s + p.2.2.2 + k ∧ findP kd ch L p.1 (p.2.1 + k) = some x := by
  obtain ⟨h0, h1, h2⟩ := piece_hit hok hp k0 k1
  obtain ⟨_, _, _, s0, _⟩ := ok_sound hok
  obtain ⟨x, hx⟩ := Int.eq_ofNat_of_zero_le (show 0 ≤ s + p.2.2.2 + k by omega)
  rw [hx] at h1 h2
  exact ⟨x, hx.symm, find_unique hm h1 h2⟩
theorem map_some {kd ch : Int} {L : List Seg} {s c cp : Int} (hok : okB kd ch L s c = true) (hc : kd = 3 → -1 ≤ cp ∧ cp < L.length) : mapP kd ch L s c cp ≠ [] := by
  obtain ⟨hs, hz, h1, h2, h3, h4, h5⟩ := ok_sound hok
  unfold mapP
  rw [hok, if_pos rfl]
  by_cases hk : kd = 3
  · rw [if_pos hk]
    obtain ⟨c1, c2⟩ := hc hk
    have hL := (sound_parts hs).1
    by_cases hn : cp = -1
    · have := mirP_all (s := s) (c := c) L 0 (L[0]'(by omega)) (List.getElem_mem _)
      rw [hn]
      exact List.ne_nil_of_mem this
    · obtain ⟨j, rfl⟩ := Int.eq_ofNat_of_zero_le (show 0 ≤ cp by omega)
      have hx : L[j]? = some (L[j]'(by omega)) := List.getElem?_eq_getElem (by omega)
      have ht := mirP_take s c (j : Int) L 0 j _ hx
      rw [Nat.zero_add, if_pos (.inl rfl)] at ht
      intro he
      have hle : mirP s c (j : Int) (L.take (j + 1)) 0 <+: mirP s c (j : Int) L 0 := mirP_prefix s c (j : Int) L 0 (j + 1)
      rw [he, ht] at hle
      simpa using hle.length_le
  · rw [if_neg hk]
    obtain ⟨n, hn⟩ : ∃ n, c.toNat = n + 1 := ⟨c.toNat - 1, by omega⟩
    rw [hn]
    simp only [runP]
    rw [if_pos (by omega)]
    simp

theorem plc_at {kd ch : Int} {L : List Seg} {s : Int} (hs : soundB kd ch L = true) (hk : kd ≠ 3) (s0 : 0 ≤ s) (s1 : s < sizeV kd L) : 0 ≤ (plc kd ch L s).2.1 ∧ (plc kd ch L s).2.1 ≤ 1000 := by
  obtain ⟨h1, h4, ha, _, _, hz⟩ := sound_parts hs
  obtain ⟨hkd, hch⟩ := kind_cases hs
  obtain ⟨r1, r2, r3⟩ := plc_range hs hk s0 s1
  have hx : L[(plc kd ch L s).1]? = some L[(plc kd ch L s).1] := List.getElem?_eq_getElem r1
  obtain ⟨_, _, a1, a2, a3, a4⟩ := seg_t (seg_of_all ha hx)
  rw [← at0_some hx] at a1 a2 a3 a4
  by_cases h2 : kd = 2
  · obtain ⟨a, b, _⟩ := hch h2
    unfold plc at a1 a2 ⊢
    simp only [if_pos h2] at a1 a2 ⊢
    have e1 := Int.emod_nonneg s (show ch ≠ 0 by omega)
    have e2 := Int.emod_lt_of_pos s (show 0 < ch by omega)
    have q0 : 0 ≤ s / ch := Int.ediv_nonneg s0 (by omega)
    have q1 : s / ch / (L.length : Int) ≤ s / ch := Int.ediv_le_self _ q0
    have q2 : 0 ≤ s / ch / (L.length : Int) := Int.ediv_nonneg q0 (by omega)
    have q3 : s / ch / (L.length : Int) * ch ≤ s / ch * ch := Int.mul_le_mul_of_nonneg_right q1 (by omega)
    have q4 : s / ch * ch ≤ s := by have := Int.mul_ediv_add_emod s ch; rw [Int.mul_comm] at this; omega
    have q5 : 0 ≤ s / ch / (L.length : Int) * ch := Int.mul_nonneg q2 (by omega)
    omega
  · rw [show sizeV kd L = sumK L L.length from by unfold sizeV; rw [if_neg hk]] at s1 hz
    obtain ⟨j, hj, hl, l0, l1⟩ := linP_drop L s 0 s0 s1 (fun x hx => by obtain ⟨_, _, _, _, a, _⟩ := seg_t (List.all_eq_true.1 ha x hx); exact a)
    have hxj : L[j]? = some L[j] := List.getElem?_eq_getElem hj
    obtain ⟨_, _, b1, b2, b3, b4⟩ := seg_t (seg_of_all ha hxj)
    rw [← at0_some hxj] at b1 b2 b3 b4
    unfold plc
    simp only [if_neg h2]
    rw [hl, Nat.zero_add]
    simp only
    omega
theorem piece_bound {kd ch : Int} {L : List Seg} {s c cp : Int} (hok : okB kd ch L s c = true) {p : Pc} (hp : p ∈ mapP kd ch L s c cp) : 0 ≤ p.2.1 ∧ p.2.1 ≤ 1000 ∧ p.2.2.1 ≤ 128 ∧ 0 ≤ p.2.2.2 ∧ p.2.2.2 ≤ 128 := by
  obtain ⟨hs, hz, h1, h2, h3, h4, h5⟩ := ok_sound hok
  unfold mapP at hp
  rw [hok, if_pos rfl] at hp
  by_cases hk : kd = 3
  · rw [if_pos hk] at hp
    obtain ⟨x, hx, rfl⟩ := mirP_mem L 0 p hp
    obtain ⟨_, _, b1, b2, _⟩ := seg_t (List.all_eq_true.1 (sound_parts hs).2.2.1 x hx)
    simp only
    omega
  · rw [if_neg hk] at hp
    obtain ⟨o, o1, o2, rfl⟩ := runP_mem _ 0 p hp (by omega) hs hk h2 (by omega)
    have ⟨a, b⟩ := plc_at (s := s + o) hs hk (by omega) (by omega)
    simp only
    omega
/-- What the law needs of the pieces of a request. -/
def PFacts (kd ch : Int) (L : List Seg) (s : Int) (l : List Pc) : Prop :=
  l ≠ [] ∧ ∀ p ∈ l, (0 ≤ p.2.1 ∧ p.2.1 ≤ 1000 ∧ p.2.2.1 ≤ 128 ∧ 0 ≤ p.2.2.2 ∧ p.2.2.2 ≤ 128) ∧ ∀ k, 0 ≤ k → k < p.2.2.1 → ∃ x : Nat, (x : Int) = s + p.2.2.2 + k ∧ findP kd ch L p.1 (p.2.1 + k) = some x
theorem pfacts {kd ch : Int} {L : List Seg} (hm : (kd, ch, L) ∈ madeL) {s c cp : Int} (hok : okB kd ch L s c = true) (hc : kd = 3 → -1 ≤ cp ∧ cp < L.length) : PFacts kd ch L s (mapP kd ch L s c cp) :=
  ⟨map_some hok hc, fun p hp => ⟨piece_bound hok hp, fun k k0 k1 => places hm hok hp k0 k1⟩⟩
theorem find_at {kd ch : Int} {A : Option Addr} {L : List Seg} {cap : Nat} {d s y : Int} {x : Nat} (hx : (x : Int) = y) (hf : findP kd ch L d s = some x) (w : World) (h : PA w A L) (hl : L.length ≤ maxLen) (hc : L.length ≤ cap) :
    Calls Try.prog 18 #[volV kd ch A L.length cap, .int .i64 d, .int .i64 s] w fun e w' => e = .returned (.tuple #[.int .i64 y, .bool true]) ∧ Below w.heap.size w w' := by
  have := find_w kd ch A L cap d s w h hl hc
  rw [hf] at this
  subst hx
  exact this
theorem vint {x y : Int} (h : IntKind.i64.wrap x = y) : Value.int .i64 (IntKind.i64.wrap x) = .int .i64 y := by rw [h]

set_option maxRecDepth 100000 in
set_option maxHeartbeats 2000000 in
theorem volumePlaces_walk (n sector count copy : Int) (w : World) :
    Calls Try.prog 7 #[.int .i64 n, .int .i64 sector, .int .i64 count, .int .i64 copy] w fun e w' => e = .returned (.bool true) ∧ Below w.heap.size w w' := by
  go_enter Try.func7, Try.ntmps7
  go_upto_region 1 with fail
  go_cut [9] (fun s9 wx => ∃ V kd ch A L cap, s9 = .pointer (some ⟨V, 0, none⟩) ∧ L.length ≤ cap ∧ (kd, ch, L) ∈ madeL ∧ VS w V kd ch A L cap wx)
  case first =>
    go_wp2_with (go_at_call 10; (with_reducible refine Calls.mono (made_w _ _) ?_); rintro e w1 ⟨kd, ch, A, L, cap, rfl, hA, hc, hm, hb1⟩)
    go_meet
    case rel => exact ⟨_, kd, ch, A, L, cap, rfl, hc, hm, heap_alloc_new _ _, hA.alloc _, bl_alloc hb1 _⟩
  case rest =>
    obtain ⟨V, kd, ch, A, L, cap, rfl, hc, hmem, hV⟩ := hcut
    have ⟨hl3, hl3'⟩ := made_len hmem
    simp only at hl3 hl3'
    have hl : L.length ≤ maxLen := by unfold maxLen; omega
    have crs := fun w' (hp : PA w' A L) => rSize_w kd ch A L cap w' hp hl
    have ⟨z0, z1⟩ := szB_range kd ch L
    have hmap := fun s c cp w' (hp : PA w' A L) => map_w kd ch A L cap s c cp w' hp hl hc
    have HM := Lib.hid hmem
    obtain ⟨size, hsize⟩ : ∃ size, szB kd ch L = size := ⟨_, rfl⟩
    rw [hsize] at z0 z1
    simp only [hsize] at crs
    have HZ := Lib.hid hsize
    have HV := Lib.hid hV
    obtain ⟨v0, v1, v2⟩ := hV.cell
    clear hV hmem hsize
    have rcp := fun w => round_w copy (L.length + 1) w (by omega) (by omega)
    have ⟨k0, k1⟩ := cutI_range copy (L.length + 1) (by omega)
    generalize cutI copy (L.length + 1) = cp at rcp k0 k1
    by_cases hz : size = 0
    · have HZ0 := Lib.hid hz
      subst hz
      have rs := fun w => round0_w sector 0 w (by omega)
      have rc := fun w => round_w count 1 w (by omega) (by omega)
      have ⟨c0, c1⟩ := cutI_range count 1 (by omega)
      obtain ⟨c, hcc⟩ : ∃ c, cutI count 1 = c := ⟨_, rfl⟩
      rw [hcc] at c0 c1
      simp only [hcc] at rc
      obtain rfl : c = 0 := by omega
      clear hcc c0 c1
      have hm := hmap 0 1 (cp - 1)
      rw [map_zero HZ.out 1 (cp - 1)] at hm
      clear hmap
      go_upto_region 5 with (first
        | (go_at_call 12; (with_reducible refine Calls.mono (crs _ HV.out.pa) ?_); rintro e w2 ⟨rfl, hb2⟩; have HV2 := Lib.hid (HV.out.step hb2); clear v0 v1 v2; obtain ⟨v0, v1, v2⟩ := HV2.out.cell)
        | (go_at_call 15; (with_reducible refine Calls.mono (rs _) ?_); rintro e w3 ⟨rfl, rfl⟩)
        | (go_at_call 15; (with_reducible refine Calls.mono (rc _) ?_); rintro e w3 ⟨rfl, rfl⟩))
      clear HV v0 v1 v2
      have HV := HV2
      clear HV2
      go_cut [13] (fun s13 wx => PcA wx s13 [] ∧ VS w V kd ch A L cap wx)
      case first =>
        refine wp_region_sp 11 111 [SP.eq (volV kd ch A L.length cap), SP.eq (.int .i64 0), SP.eq (.int .i64 1), SP.eq (.int .i64 copy), SP.eq (.pointer (some ⟨V, 2, none⟩)), SP.eq (.slice A L.length cap), SP.eq (.int .i64 L.length), SP.eq (.int .i64 (L.length + 1)), SP.eq (.int .i64 cp), SP.eq (.int .i64 (cp - 1)), SP.pc []] (by kernel_rfl) (by kernel_rfl) rfl ?_
        simp only [List.take_succ_cons, List.take_zero, List.drop_succ_cons, List.drop_zero]
        refine relWalk_cons (fun x hC hd K hK => ?_) (fun v0 => ?_)
        · obtain ⟨u0, u1, u2⟩ := (HV.out.step hC).cell
          go_simp
          exact hK _ _ hC (Below.refl _ _) rfl
        simp only [Act.put, List.setIfInBounds_toArray, List.set_cons_zero, List.set_cons_succ]
        refine relWalk_cons (fun x hC hd K hK => ?_) (fun v1 => ?_)
        · go_simp
          exact hK _ _ hC (Below.refl _ _) rfl
        simp only [Act.put, List.setIfInBounds_toArray, List.set_cons_zero, List.set_cons_succ]
        refine relWalk_cons (fun x hC hd K hK => ?_) (fun v2 => ?_)
        · go_simp
          exact hK _ _ hC (Below.refl _ _) rfl
        simp only [Act.put, List.setIfInBounds_toArray, List.set_cons_zero, List.set_cons_succ]
        refine relWalk_cons (fun x hC hd K hK => ?_) (fun v3 => ?_)
        · go_simp
          exact hK _ _ hC (Below.refl _ _) rfl
        simp only [Act.put, List.setIfInBounds_toArray, List.set_cons_zero, List.set_cons_succ]
        refine relWalk_cons (fun x hC hd K hK => ?_) (fun v4 => ?_)
        · go_simp
          exact hK _ _ hC (Below.refl _ _) rfl
        simp only [Act.put, List.setIfInBounds_toArray, List.set_cons_zero, List.set_cons_succ]
        refine relWalk_cons (fun x hC hd K hK => ?_) (fun v5 => ?_)
        · obtain rfl : v4 = _ := hd 4 (by kernel_rfl)
          obtain ⟨u0, u1, u2⟩ := (HV.out.step hC).cell
          go_simp
          exact hK _ _ hC (Below.refl _ _) rfl
        simp only [Act.put, List.setIfInBounds_toArray, List.set_cons_zero, List.set_cons_succ]
        refine relWalk_cons (fun x hC hd K hK => ?_) (fun v6 => ?_)
        · obtain rfl : v5 = _ := hd 5 (by kernel_rfl)
          obtain ⟨u0, u1, u2⟩ := (HV.out.step hC).cell
          go_simp
          exact hK _ _ hC (Below.refl _ _) rfl
        simp only [Act.put, List.setIfInBounds_toArray, List.set_cons_zero, List.set_cons_succ]
        refine relWalk_cons (fun x hC hd K hK => ?_) (fun v7 => ?_)
        · obtain rfl : v6 = _ := hd 6 (by kernel_rfl)
          obtain ⟨u0, u1, u2⟩ := (HV.out.step hC).cell
          go_simp
          exact hK _ _ hC (Below.refl _ _) (vint (w64 (by omega)))
        simp only [Act.put, List.setIfInBounds_toArray, List.set_cons_zero, List.set_cons_succ]
        refine relWalk_cons (fun x hC hd K hK => ?_) (fun v8 => ?_)
        · obtain rfl : v3 = _ := hd 3 (by kernel_rfl)
          obtain rfl : v7 = _ := hd 7 (by kernel_rfl)
          go_simp
          go_at_call 15
          refine (rcp x).mono ?_
          rintro e w1 ⟨rfl, rfl⟩
          exact hK _ _ hC (Below.refl _ _) rfl
        simp only [Act.put, List.setIfInBounds_toArray, List.set_cons_zero, List.set_cons_succ]
        refine relWalk_cons (fun x hC hd K hK => ?_) (fun v9 => ?_)
        · obtain rfl : v8 = _ := hd 8 (by kernel_rfl)
          obtain ⟨u0, u1, u2⟩ := (HV.out.step hC).cell
          go_simp
          exact hK _ _ hC (Below.refl _ _) (vint (w64 (by omega)))
        simp only [Act.put, List.setIfInBounds_toArray, List.set_cons_zero, List.set_cons_succ]
        refine relWalk_cons (fun x hC hd K hK => ?_) (fun v10 => ?_)
        · obtain rfl : v0 = _ := hd 0 (by kernel_rfl)
          obtain rfl : v1 = _ := hd 1 (by kernel_rfl)
          obtain rfl : v2 = _ := hd 2 (by kernel_rfl)
          obtain rfl : v9 = _ := hd 9 (by kernel_rfl)
          go_simp
          go_at_call 13
          refine (hm x (HV.out.step hC).pa).mono ?_
          rintro e w1 ⟨v, rfl, hP, hb⟩
          exact hK _ _ (bl_step hC hb) hb hP
        simp only [Act.put, List.setIfInBounds_toArray, List.set_cons_zero, List.set_cons_succ]
        refine relWalk_nil ?_
        intro x' hC hG
        have g10 : PcA x' v10 [] := hG 10 (by omega)
        have HG := Lib.hid g10
        clear hG g10
        go_wp2
        go_meet
        case rel => exact ⟨HG.out, HV.out.step hC⟩
      case rest =>
        clear HV
        obtain ⟨⟨B, cap3, hv, _⟩, hV⟩ := hcut
        subst hv
        have HB := Lib.hid hV.below
        clear hV
        go_wp2_with (go_at_call 14; (with_reducible refine Calls.mono (awake_w _) ?_); rintro e w9 ⟨rfl, hb9⟩)
        go_ret
        exact ⟨rfl, bl_step HB.out hb9⟩
    · have ez : (size == 0) = false := by simp [hz]
      have rs := fun w => round_w sector size w (by omega) (by omega)
      have ⟨s0, s1⟩ := cutI_range sector size (by omega)
      generalize cutI sector size = s at rs s0 s1
      have rc := fun w => round_w count (size - s) w (by omega) (by omega)
      have ⟨c0, c1⟩ := cutI_range count (size - s) (by omega)
      generalize cutI count (size - s) = c at rc c0 c1
      have hok := ok_mk (kd := kd) (ch := ch) (L := L) (s := s) (c := 1 + c) (by omega) s0 (by rw [HZ.out]; exact s1) (by rw [HZ.out]; omega)
      have HP1 := Lib.hid (pfacts (cp := cp - 1) HM.out hok (fun _ => by omega))
      have Hok := Lib.hid hok
      have hm := hmap s (1 + c) (cp - 1)
      have hm0 := hmap s (1 + c) 0
      have hmx : max 1 (size - s) = size - s := by omega
      have hmy : 1 ≤ size - s := by omega
      clear hmap hok hz
      go_upto_region 3 with (go_at_call 12; (with_reducible refine Calls.mono (crs _ HV.out.pa) ?_); rintro e w2 ⟨rfl, hb2⟩; have HV2 := Lib.hid (HV.out.step hb2); clear v0 v1 v2; obtain ⟨v0, v1, v2⟩ := HV2.out.cell)
      clear HV v0 v1 v2
      have HV := HV2
      clear HV2
      go_upto_region 4 with (go_at_call 15; (with_reducible refine Calls.mono (rs _) ?_); rintro e w3 ⟨rfl, rfl⟩)
      obtain ⟨W, rfl⟩ : ∃ W : World, W = w2 := ⟨_, rfl⟩
      go_cut [12] (fun s12 wx => s12 = .int .i64 (1 + c) ∧ W = wx)
      case first =>
        by_cases hs1 : size - s = 1
        · have rc1 := rc
          rw [hs1] at rc1
          have hlt : ¬ 1 < size - s := by omega
          clear hs1 hmx hmy
          go_wp2_with (first
            | (go_at_call 15; (with_reducible refine Calls.mono (rc1 _) ?_); rintro e w3 ⟨rfl, rfl⟩)
            | (go_at_call 15; (with_reducible refine Calls.mono (rc _) ?_); rintro e w3 ⟨rfl, rfl⟩))
          go_meet
          case rel => exact ⟨rfl, rfl⟩
        · have hlt : 1 < size - s := by omega
          clear hs1 hmx hmy
          go_wp2_with (go_at_call 15; (with_reducible refine Calls.mono (rc _) ?_); rintro e w3 ⟨rfl, rfl⟩)
          go_meet
          case rel => exact ⟨rfl, rfl⟩
      case rest =>
        obtain ⟨rfl, rfl⟩ := hcut
        go_upto_region 5 with fail
        go_cut [13] (fun s13 wx => PcA wx s13 (mapP kd ch L s (1 + c) (cp - 1)) ∧ VS w V kd ch A L cap wx)
        case first =>
          refine wp_region_sp 11 111 [SP.eq (volV kd ch A L.length cap), SP.eq (.int .i64 s), SP.eq (.int .i64 (1 + c)), SP.eq (.int .i64 copy), SP.eq (.pointer (some ⟨V, 2, none⟩)), SP.eq (.slice A L.length cap), SP.eq (.int .i64 L.length), SP.eq (.int .i64 (L.length + 1)), SP.eq (.int .i64 cp), SP.eq (.int .i64 (cp - 1)), SP.pc (mapP kd ch L s (1 + c) (cp - 1))] (by kernel_rfl) (by kernel_rfl) rfl ?_
          simp only [List.take_succ_cons, List.take_zero, List.drop_succ_cons, List.drop_zero]
          refine relWalk_cons (fun x hC hd K hK => ?_) (fun v0 => ?_)
          · obtain ⟨u0, u1, u2⟩ := (HV.out.step hC).cell
            go_simp
            exact hK _ _ hC (Below.refl _ _) rfl
          simp only [Act.put, List.setIfInBounds_toArray, List.set_cons_zero, List.set_cons_succ]
          refine relWalk_cons (fun x hC hd K hK => ?_) (fun v1 => ?_)
          · go_simp
            exact hK _ _ hC (Below.refl _ _) rfl
          simp only [Act.put, List.setIfInBounds_toArray, List.set_cons_zero, List.set_cons_succ]
          refine relWalk_cons (fun x hC hd K hK => ?_) (fun v2 => ?_)
          · go_simp
            exact hK _ _ hC (Below.refl _ _) rfl
          simp only [Act.put, List.setIfInBounds_toArray, List.set_cons_zero, List.set_cons_succ]
          refine relWalk_cons (fun x hC hd K hK => ?_) (fun v3 => ?_)
          · go_simp
            exact hK _ _ hC (Below.refl _ _) rfl
          simp only [Act.put, List.setIfInBounds_toArray, List.set_cons_zero, List.set_cons_succ]
          refine relWalk_cons (fun x hC hd K hK => ?_) (fun v4 => ?_)
          · go_simp
            exact hK _ _ hC (Below.refl _ _) rfl
          simp only [Act.put, List.setIfInBounds_toArray, List.set_cons_zero, List.set_cons_succ]
          refine relWalk_cons (fun x hC hd K hK => ?_) (fun v5 => ?_)
          · obtain rfl : v4 = _ := hd 4 (by kernel_rfl)
            obtain ⟨u0, u1, u2⟩ := (HV.out.step hC).cell
            go_simp
            exact hK _ _ hC (Below.refl _ _) rfl
          simp only [Act.put, List.setIfInBounds_toArray, List.set_cons_zero, List.set_cons_succ]
          refine relWalk_cons (fun x hC hd K hK => ?_) (fun v6 => ?_)
          · obtain rfl : v5 = _ := hd 5 (by kernel_rfl)
            obtain ⟨u0, u1, u2⟩ := (HV.out.step hC).cell
            go_simp
            exact hK _ _ hC (Below.refl _ _) rfl
          simp only [Act.put, List.setIfInBounds_toArray, List.set_cons_zero, List.set_cons_succ]
          refine relWalk_cons (fun x hC hd K hK => ?_) (fun v7 => ?_)
          · obtain rfl : v6 = _ := hd 6 (by kernel_rfl)
            obtain ⟨u0, u1, u2⟩ := (HV.out.step hC).cell
            go_simp
            exact hK _ _ hC (Below.refl _ _) (vint (w64 (by omega)))
          simp only [Act.put, List.setIfInBounds_toArray, List.set_cons_zero, List.set_cons_succ]
          refine relWalk_cons (fun x hC hd K hK => ?_) (fun v8 => ?_)
          · obtain rfl : v3 = _ := hd 3 (by kernel_rfl)
            obtain rfl : v7 = _ := hd 7 (by kernel_rfl)
            go_simp
            go_at_call 15
            refine (rcp x).mono ?_
            rintro e w1 ⟨rfl, rfl⟩
            exact hK _ _ hC (Below.refl _ _) rfl
          simp only [Act.put, List.setIfInBounds_toArray, List.set_cons_zero, List.set_cons_succ]
          refine relWalk_cons (fun x hC hd K hK => ?_) (fun v9 => ?_)
          · obtain rfl : v8 = _ := hd 8 (by kernel_rfl)
            obtain ⟨u0, u1, u2⟩ := (HV.out.step hC).cell
            go_simp
            exact hK _ _ hC (Below.refl _ _) (vint (w64 (by omega)))
          simp only [Act.put, List.setIfInBounds_toArray, List.set_cons_zero, List.set_cons_succ]
          refine relWalk_cons (fun x hC hd K hK => ?_) (fun v10 => ?_)
          · obtain rfl : v0 = _ := hd 0 (by kernel_rfl)
            obtain rfl : v1 = _ := hd 1 (by kernel_rfl)
            obtain rfl : v2 = _ := hd 2 (by kernel_rfl)
            obtain rfl : v9 = _ := hd 9 (by kernel_rfl)
            go_simp
            go_at_call 13
            refine (hm x (HV.out.step hC).pa).mono ?_
            rintro e w1 ⟨v, rfl, hP, hb⟩
            exact hK _ _ (bl_step hC hb) hb hP
          simp only [Act.put, List.setIfInBounds_toArray, List.set_cons_zero, List.set_cons_succ]
          refine relWalk_nil ?_
          intro x' hC hG
          have g10 : PcA x' v10 (mapP kd ch L s (1 + c) (cp - 1)) := hG 10 (by omega)
          have HG := Lib.hid g10
          clear hG g10
          go_wp2
          go_meet
          case rel => exact ⟨HG.out, HV.out.step hC⟩
        case rest =>
          clear HV hm
          obtain ⟨hP, hV⟩ := hcut
          obtain ⟨v0, v1, v2⟩ := hV.cell
          have HV := Lib.hid hV
          have HP := Lib.hid hP
          clear hV hP
          have HP0 := Lib.hid (fun h3 => pfacts (cp := 0) HM.out Hok.out (fun h => absurd h h3))
          go_upto_region 8 with fail
          go_upto_if 53 with fail
          go_cut [13] (fun s13 wx => ∃ l, PcA wx s13 l ∧ PFacts kd ch L s l ∧ VS w V kd ch A L cap wx)
          case first =>
            by_cases k3 : kd = 3
            · have e3 : (kd != 3) = false := by simp [k3]
              clear k3
              go_wp2
              go_meet
              case rel => exact ⟨_, HP.out, HP1.out, HV.out⟩
            · have e3 : (kd != 3) = true := by simp [k3]
              have HQ := Lib.hid (HP0.out k3)
              clear k3
              go_wp2_with (go_at_call 13; (with_reducible refine Calls.mono (hm0 _ HV.out.pa) ?_); rintro e w1 ⟨v, rfl, hP, hb⟩)
              go_meet
              case rel => exact ⟨_, hP, HQ.out, HV.out.step hb⟩
          case rest =>
            clear HP HP1 HP0 HV hm0 v0 v1 v2
            obtain ⟨l, hP, ⟨hne, hf⟩, hV⟩ := hcut
            obtain ⟨B, cap5, hv, hlm, hR⟩ := hP.parts
            subst hv
            unfold maxLen at hlm
            have HR := Lib.hid hR
            have HV := Lib.hid hV
            have Hf := Lib.hid hf
            have hne' : 0 < l.length := List.length_pos_iff.2 hne
            clear hP hR hV hf hne
            go_wp2
            go_loopw [14] (fun s14 wx => ∃ i : Nat, i ≤ l.length ∧ s14 = .int .i64 i ∧ PcR wx B l ∧ VS w V kd ch A L cap wx) (fun s14 _ => l.length - (intOf s14).toNat)
            case atStart => exact ⟨0, by omega, rfl, HR.out, HV.out⟩
            case round =>
              clear HR HV
              obtain ⟨i, hi, rfl, hR, hV⟩ := hrel
              have HR := Lib.hid hR
              have HV := Lib.hid hV
              clear hR hV
              by_cases hlt : i < l.length
              · obtain ⟨b, d, t, ct, f, rfl, lb, he, p0, p1, p2, p3⟩ := HR.out.at_ hlt
                obtain ⟨⟨q0, q1, q2, q3, q4⟩, hfind⟩ := Hf.out _ (List.mem_of_getElem? he)
                simp only at q0 q1 q2 q3 q4 hfind
                have Hfind := Lib.hid hfind
                have i0 : (0 : Int) ≤ (i : Int) := by omega
                have i1 : (i : Int) < (l.length : Int) := by omega
                have He := Lib.hid he
                clear hfind he p0 p1 p2 p3 lb
                go_wp2
                go_loopw [15] (fun s15 wx => ∃ k : Nat, s15 = .int .i64 k ∧ PcR wx (some ⟨b, 0, none⟩) l ∧ VS w V kd ch A L cap wx) (fun s15 _ => ct.toNat - (intOf s15).toNat)
                case atStart => exact ⟨0, rfl, HR.out, HV.out⟩
                case round =>
                  clear HR HV
                  obtain ⟨k, rfl, hR, hV⟩ := hrel
                  obtain ⟨b', d', t', ct', f', eb, lb, he', p0, p1, p2, p3⟩ := hR.at_ hlt
                  rw [He.out] at he'
                  simp only [Option.some.injEq, Prod.mk.injEq, Addr.mk.injEq, and_true] at he' eb
                  obtain ⟨rfl, rfl, rfl, rfl⟩ := he'
                  obtain rfl := eb
                  have HR := Lib.hid hR
                  have HV := Lib.hid hV
                  clear hR hV
                  by_cases hk : (k : Int) < ct
                  · obtain ⟨x, hx, hfx⟩ := Hfind.out k (by omega) hk
                    have cf := fun z => find_at (A := A) (cap := cap) hx hfx (ext wr z) (HV.out.step (below_ext wr z)).pa hl hc
                    obtain ⟨v0, v1, v2⟩ := HV.out.cell
                    have lV := HV.out.lt
                    have a0 : ∀ z, (ext wr z).cell? ⟨V, 0, none⟩ = some (.int .i64 kd) := fun z => (ext_cell wr z V 0 lV).trans v0
                    have a1 : ∀ z, (ext wr z).cell? ⟨V, 1, none⟩ = some (.int .i64 ch) := fun z => (ext_cell wr z V 1 lV).trans v1
                    have a2 : ∀ z, (ext wr z).cell? ⟨V, 2, none⟩ = some (.slice A L.length cap) := fun z => (ext_cell wr z V 2 lV).trans v2
                    have b0 : ∀ z, (ext wr z).cell? ⟨b, i * 4, none⟩ = some (.int .i64 d) := fun z => (ext_cell wr z b (i * 4) lb).trans p0
                    have b1 : ∀ z, (ext wr z).cell? ⟨b, i * 4 + 1, none⟩ = some (.int .i64 t) := fun z => (ext_cell wr z b (i * 4 + 1) lb).trans p1
                    have b3 : ∀ z, (ext wr z).cell? ⟨b, i * 4 + 3, none⟩ = some (.int .i64 f) := fun z => (ext_cell wr z b (i * 4 + 3) lb).trans p3
                    have w1 := w64 (x := t + (k : Int)) (by omega)
                    clear hx hfx v0 v1 v2
                    go_upto_region 16 with fail
                    refine wp_region_ext (by kernel_rfl) (by kernel_rfl) ?_
                    iterate 13 (refine wpQuiet_step (fun K hK => ?_); go_simp; (with_reducible refine hK _ ?_); clear hK K)
                    (refine wpQuiet_step (fun K hK => ?_); go_simp; apply Exists.intro; refine ⟨fun _ => ?_, hK _ ?_⟩; (with_reducible exact ext_call (cf _)); clear hK K)
                    iterate 5 (refine wpQuiet_step (fun K hK => ?_); go_simp; (with_reducible refine hK _ ?_); clear hK K)
                    refine wpQuiet_nil ?_
                    intro w' hw'
                    obtain ⟨z, rfl⟩ := hw'
                    have HR2 := Lib.hid (HR.out.step (below_ext wr z))
                    have HV2 := Lib.hid (HV.out.step (below_ext wr z))
                    clear w1
                    go_wp2
                    go_roundw
                    case rel => exact ⟨k + 1, by go_num, HR2.out, HV2.out⟩
                    case measure => simp [intOf]; omega
                  · go_wp2
                    go_roundw
                    case rel => exact ⟨i + 1, by omega, by go_num, HR.out, HV.out⟩
                    case measure => simp [intOf]; omega
              · obtain rfl : i = l.length := by omega
                go_wp2_with (go_at_call 14; (with_reducible refine Calls.mono (awake_w _) ?_); rintro e w9 ⟨rfl, hb9⟩)
                go_ret
                exact ⟨rfl, bl_step HV.out.below hb9⟩

end Go.Proofs.Ytdeggdbaeeamiaa
