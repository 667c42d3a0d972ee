/-
  When a volume is sound, and its size, in plain Lean; package volume's size, by contract.
-/
import Derived.Test.YtdeggdbaeeamiaaVol2
namespace Go.Proofs.Ytdeggdbaeeamiaa
open Go.RowKit
set_option linter.unusedVariables false
set_option linter.unusedSimpArgs false

abbrev zS : Seg := (0, 0, 0)
def at0 (L : List Seg) (i : Nat) : Seg := L.getD i zS
def sumK (L : List Seg) (k : Nat) : Int := ((L.take k).map (·.2.2)).sum
def sizeV (kd : Int) (L : List Seg) : Int := if kd = 3 then (at0 L 0).2.2 else sumK L L.length
def badB (kd : Int) (x y : Seg) : Bool := ovB x y || (kd == 3 && x.1 == y.1)
def rowB (kd : Int) (L : List Seg) (i : Nat) : Bool := (List.range i).all (fun k => !badB kd (at0 L i) (at0 L k)) && (kd == 1 || (at0 L i).2.2 == (at0 L 0).2.2)
def kindB (kd ch : Int) (L : List Seg) : Bool := (kd == 2 && decide (1 ≤ ch) && (at0 L 0).2.2 % ch == 0) || ((kd == 1 || kd == 3) && ch == 0)
def soundB (kd ch : Int) (L : List Seg) : Bool :=
  decide (1 ≤ L.length ∧ L.length ≤ 4) && L.all segB && (List.range L.length).all (rowB kd L) && kindB kd ch L && decide (sizeV kd L ≤ 128)

theorem at0_some {L : List Seg} {i : Nat} {x : Seg} (h : L[i]? = some x) : at0 L i = x := by simp [at0, List.getD, h]
theorem sumK_zero (L : List Seg) : sumK L 0 = 0 := by simp [sumK]
theorem sumK_succ {L : List Seg} {k : Nat} {x : Seg} (h : L[k]? = some x) : sumK L (k + 1) = sumK L k + x.2.2 := by
  unfold sumK
  rw [List.take_add_one, h]
  simp
theorem seg_of_all {L : List Seg} (h : L.all segB = true) {i : Nat} {x : Seg} (hi : L[i]? = some x) : segB x = true := List.all_eq_true.1 h x (List.mem_of_getElem? hi)
theorem sumK_range {L : List Seg} (h : L.all segB = true) : ∀ k, k ≤ L.length → (k : Int) ≤ sumK L k ∧ sumK L k ≤ 128 * k
  | 0, _ => by simp [sumK]
  | k + 1, hk => by
    have hx : L[k]? = some L[k] := List.getElem?_eq_getElem (by omega)
    have h1 := sumK_range h k (by omega)
    obtain ⟨_, _, _, _, a, b⟩ := seg_t (seg_of_all h hx)
    rw [sumK_succ hx]
    omega

theorem PA.get {w : World} {b o : Nat} {L : List Seg} (h : PA w (some ⟨b, o, none⟩) L) {i : Nat} (hi : i < L.length) : ∃ d s c, b < w.heap.size ∧ L[i]? = some (d, s, c) ∧
    w.cell? ⟨b, o + i * 3, none⟩ = some (.int .i64 d) ∧ w.cell? ⟨b, o + i * 3 + 1, none⟩ = some (.int .i64 s) ∧ w.cell? ⟨b, o + i * 3 + 2, none⟩ = some (.int .i64 c) := by
  obtain ⟨b', o', d, s, c, e, hb, he, c0, c1, c2⟩ := h.at_ hi
  injection e with e
  injection e with e1 e2
  subst e1; subst e2
  exact ⟨d, s, c, hb, he, c0, c1, c2⟩
/-- A block that is known whole, kept. -/
theorem bk_step {w w' : World} {g : Nat} {x : Obj} (h : w.heap[g]? = some x) (hb : Below w.heap.size w w') : w'.heap[g]? = some x := (hb.block _ (Array.getElem?_eq_some_iff.1 h).1).trans h
theorem bk_alloc {w : World} {g : Nat} {x : Obj} (h : w.heap[g]? = some x) (o : Obj) : (w.alloc o).heap[g]? = some x := bk_step h ((Below.refl _ _).alloc (Nat.le_refl _) _)
theorem bk_lt {w : World} {g : Nat} {x : Obj} (h : w.heap[g]? = some x) : g < w.heap.size := (Array.getElem?_eq_some_iff.1 h).1
/-- The state of a function that has its volume in block V. -/
def VS (W : World) (V : Nat) (kd ch : Int) (A : Option Addr) (L : List Seg) (cap : Nat) (wx : World) : Prop :=
  wx.heap[V]? = some (.cells #[.int .i64 kd, .int .i64 ch, .slice A L.length cap] 24 (0, 0)) ∧ PA wx A L ∧ Below W.heap.size W wx
section
variable {W wx w' : World} {V cap : Nat} {kd ch : Int} {A : Option Addr} {L : List Seg}
theorem heap_alloc_at (w : World) (o : Obj) : (w.alloc o).heap[w.heap.size]? = some o := heap_alloc_new w o
theorem VS.new (h : PA W A L) : VS W W.heap.size kd ch A L cap (W.alloc (.cells #[.int .i64 kd, .int .i64 ch, .slice A L.length cap] 24)) := ⟨heap_alloc_new _ _, h.alloc _, (Below.refl _ _).alloc (Nat.le_refl _) _⟩
theorem VS.lt (h : VS W V kd ch A L cap wx) : V < wx.heap.size := (Array.getElem?_eq_some_iff.1 h.1).1
theorem VS.step (h : VS W V kd ch A L cap wx) (hb : Below wx.heap.size wx w') : VS W V kd ch A L cap w' := ⟨(hb.block _ h.lt).trans h.1, h.2.1.step hb, bl_step h.2.2 hb⟩
theorem VS.alloc (h : VS W V kd ch A L cap wx) (o : Obj) : VS W V kd ch A L cap (wx.alloc o) := h.step ((Below.refl _ _).alloc (Nat.le_refl _) _)
theorem VS.drewN (h : VS W V kd ch A L cap wx) (n : Nat) : VS W V kd ch A L cap (wx.drewN n) := ⟨h.1, h.2.1, below_drewN h.2.2 n⟩
theorem VS.cell (h : VS W V kd ch A L cap wx) : wx.cell? ⟨V, 0, none⟩ = some (.int .i64 kd) ∧ wx.cell? ⟨V, 1, none⟩ = some (.int .i64 ch) ∧ wx.cell? ⟨V, 2, none⟩ = some (.slice A L.length cap) :=
  ⟨cells_at h.1 0, cells_at h.1 1, cells_at h.1 2⟩
theorem VS.pa (h : VS W V kd ch A L cap wx) : PA wx A L := h.2.1
theorem VS.below (h : VS W V kd ch A L cap wx) : Below W.heap.size W wx := h.2.2
end

set_option maxHeartbeats 1000000 in
theorem size_w (kd ch : Int) (A : Option Addr) (L : List Seg) (cap : Nat) (w : World) (h : PA w A L) (h1 : 1 ≤ L.length) (h4 : L.length ≤ 4) (hs : L.all segB = true) :
    Calls Try.prog 29 #[volV kd ch A L.length cap] w (RetI (sizeV kd L) w) := by
  have HS := Lib.hid hs
  have HV := Lib.hid (VS.new (kd := kd) (ch := ch) (cap := cap) h)
  by_cases hk : kd = 3
  · subst hk
    obtain ⟨b, o, d, s, c, rfl, hb, he, c0, c1, c2⟩ := h.at_ (i := 0) (by omega)
    simp only [Nat.zero_mul, Nat.add_zero] at c0 c1 c2
    have hz : sizeV 3 L = c := by unfold sizeV; rw [if_pos rfl, at0_some he]
    have Hz := Lib.hid hz
    have hc2 : ∀ o', (w.alloc o').cell? ⟨b, o + 2, none⟩ = some (.int .i64 c) := fun o' => (World.cell?_alloc_lt w o' ⟨b, o + 2, none⟩ hb).trans c2
    clear hz he hs c0 c1 c2
    go_enter Try.func29, Try.ntmps29
    go_wp2
    go_ret
    exact ⟨ret_int Hz.out.symm, HV.out.below⟩
  · have hk3 : (kd == 3) = false := by simpa using hk
    have Hz : Hid (sizeV kd L = sumK L L.length) := by show sizeV kd L = _; simp [sizeV, hk]
    clear hs h hk
    go_enter Try.func29, Try.ntmps29
    go_wp2
    go_loopw [3, 17] (fun n i wx => ∃ k : Nat, k ≤ L.length ∧ i = .int .i64 k ∧ n = .int .i64 (sumK L k) ∧ VS w w.heap.size kd ch A L cap wx) (fun _ i _ => L.length - (intOf i).toNat)
    case atStart => exact ⟨0, by omega, rfl, by rw [sumK_zero], HV.out⟩
    case round =>
      obtain ⟨k, hk, rfl, rfl, hV⟩ := hrel
      have hr := sumK_range HS.out k hk
      by_cases hlt : k < L.length
      · obtain ⟨b, o, d, s, c, rfl, hb, he, c0, c1, c2⟩ := hV.2.1.at_ hlt
        obtain ⟨_, _, _, _, b1, b2⟩ := seg_t (seg_of_all HS.out he)
        simp only at b1 b2
        have Hn := Lib.hid (sumK_succ he)
        have HV2 := Lib.hid (hV.alloc (.cells #[.int .i64 d, .int .i64 s, .int .i64 c] 35))
        clear he hV HV
        go_wp2
        go_roundw
        case rel => exact ⟨k + 1, by omega, by go_num, by rw [Hn.out], HV2.out⟩
        case measure => simp [intOf]; omega
      · obtain rfl : k = L.length := by omega
        have HB := Lib.hid hV.below
        clear hV HV
        go_wp2
        go_ret
        exact ⟨ret_int Hz.out.symm, HB.out⟩

end Go.Proofs.Ytdeggdbaeeamiaa
