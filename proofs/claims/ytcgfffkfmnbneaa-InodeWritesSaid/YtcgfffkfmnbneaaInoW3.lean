/-
  The law InodeWrites: the walk.
-/
import Derived.Test.YtcgfffkfmnbneaaInoW2
import Derived.Test.YtcgfffkfmnbneaaInoS
import Derived.Deep.AppendLies
import Derived.Deep.CutBlock
import Derived.RowKit
namespace Go.Proofs.Ytcgfffkfmnbneaa
open Go.RowKit
set_option linter.unusedVariables false
set_option linter.unusedSimpArgs false

/-- The two sectors: number k is the one that was written last without an error. -/
def secs (k : Int) (X O : ByteArray) : Array Value := if k = 0 then #[.string X, .string O] else #[.string O, .string X]
/-- The cells of inodes. -/
def icells : List (Int × Int × Int) → List Value
  | [] => []
  | (q, s, z) :: l => .int .i64 q :: .int .i64 s :: .int .i64 z :: icells l
theorem icells_snoc (L : List (Int × Int × Int)) (q s z : Int) : icells (L ++ [(q, s, z)]) = icells L ++ [.int .i64 q, .int .i64 s, .int .i64 z] := by
  induction L with
  | nil => rfl
  | cons a l ih => obtain ⟨x, y, t⟩ := a; simp [icells, ih]
theorem icells_len (L : List (Int × Int × Int)) : (icells L).length = L.length * 3 := by
  induction L with
  | nil => rfl
  | cons a l ih => obtain ⟨x, y, t⟩ := a; simp [icells, ih]; omega
theorem icells_get : ∀ (L : List (Int × Int × Int)) (i : Nat) (q s z : Int), L[i]? = some (q, s, z) → (icells L)[i * 3]? = some (.int .i64 q) ∧ (icells L)[i * 3 + 1]? = some (.int .i64 s) ∧ (icells L)[i * 3 + 2]? = some (.int .i64 z)
  | [], i, q, s, z, h => by simp at h
  | (a, b, c) :: l, 0, q, s, z, h => by simp at h; obtain ⟨rfl, rfl, rfl⟩ := h; simp [icells]
  | (a, b, c) :: l, i + 1, q, s, z, h => by
    have h1 := icells_get l i q s z (by simpa using h)
    rw [show (i + 1) * 3 = i * 3 + 3 from by omega, show i * 3 + 3 + 1 = i * 3 + 1 + 3 from by omega, show i * 3 + 3 + 2 = i * 3 + 2 + 3 from by omega]
    simpa [icells] using h1
/-- The state of the law: S the block of the sectors, G that of the last inode that was written without an error. -/
def WS (f : Int) (W : World) (S G : Nat) (k gq gs gz last : Int) (L : List (Int × Int × Int)) (tv : Value) (wx : World) : Prop :=
  Tp W W.heap.size wx ∧ (∃ O, Oth O f gq last L ∧ wx.heap[S]? = some (.cells (secs k (secI gq gs gz f) O) 46 (0, 0))) ∧ IAt wx G gq gs gz ∧ vaB gq gs gz = true ∧ gq ≤ last ∧
    wx.ownsRow (G + 1) 28 3 tv L.length (icells L) ∧ W.heap.size < S ∧ S < G ∧ (L.length : Int) ≤ last

theorem heap_at_old' {w : World} {n : Nat} {x : Obj} (o : Obj) (h : n < w.heap.size) (hx : w.heap[n]? = some x) : (w.alloc o).heap[n]? = some x := (heap_at_old w o n h).trans hx
theorem ino_info : (Try.prog.info? 28).map (fun i => (i.zero, i.size, i.bytes)) = some (some (.agg #[.int .i64 0, .int .i64 0, .int .i64 0]), 3, 24) := by kernel_rfl
theorem WS.lt {f : Int} {W wx : World} {S G : Nat} {k gq gs gz last : Int} {L : List (Int × Int × Int)} {tv : Value} (h : WS f W S G k gq gs gz last L tv wx) : G < wx.heap.size := h.2.2.1.lt
theorem WS.row_ne {f : Int} {W wx : World} {S G : Nat} {k gq gs gz last : Int} {L : List (Int × Int × Int)} {tv : Value} (h : WS f W S G k gq gs gz last L tv wx) {b : Nat} (hb : b ≤ G) : tv.ownBlock ≠ some b := fun e => by
  have := (h.2.2.2.2.2.1.lt b e).1
  omega
theorem WS.grown {f : Int} {W wx w' : World} {S G : Nat} {k gq gs gz last : Int} {L : List (Int × Int × Int)} {tv : Value} (h : WS f W S G k gq gs gz last L tv wx) (hg : wx.grownBy w' (some W.heap.size)) (hT : Tp W W.heap.size w') : WS f W S G k gq gs gz last L tv w' := by
  have hn := h.row_ne (b := W.heap.size) (by have := h.2.2.2.2.2.2.1; have := h.2.2.2.2.2.2.2.1; omega)
  obtain ⟨_, ⟨O, hO, hS⟩, hG, hv, hq, hown, lS, lG, hl⟩ := h
  exact ⟨hT, ⟨O, hO, gb_block hg (by omega) hS⟩, IAt.grown hg (by omega) hG, hv, hq, hown.kept hg (.inr hn), lS, lG, hl⟩
theorem WS.alloc {f : Int} {W wx : World} {S G : Nat} {k gq gs gz last : Int} {L : List (Int × Int × Int)} {tv : Value} (h : WS f W S G k gq gs gz last L tv wx) (o : Obj) : WS f W S G k gq gs gz last L tv (wx.alloc o) := by
  have lt := h.lt
  obtain ⟨hT, ⟨O, hO, hS⟩, hG, hv, hq, hown, lS, lG, hl⟩ := h
  exact ⟨hT.alloc o, ⟨O, hO, heap_at_old' o (by omega) hS⟩, hG.alloc o, hv, hq, hown.alloc o, lS, lG, hl⟩
theorem WS.step {f : Int} {W wx w' : World} {S G : Nat} {k gq gs gz last : Int} {L : List (Int × Int × Int)} {tv : Value} (h : WS f W S G k gq gs gz last L tv wx) (hb : Below wx.heap.size wx w') : WS f W S G k gq gs gz last L tv w' := by
  have lt := h.lt
  obtain ⟨hT, ⟨O, hO, hS⟩, hG, hv, hq, hown, lS, lG, hl⟩ := h
  have hg : wx.grownBy w' none := ⟨hb.os, hb.tape, hb.output, hb.size, fun k hk _ => hb.block k hk⟩
  exact ⟨hT.step hb, ⟨O, hO, (hb.block _ (by omega)).trans hS⟩, hG.step hb, hv, hq, hown.kept hg (by
    cases h : tv.ownBlock with
    | none => exact .inl rfl
    | some b => exact .inr (by simp)), lS, lG, hl⟩
theorem Tp.grownRow {W w w' : World} {b : Nat} {row : Option Nat} (h : Tp W b w) (hg : w.grownBy w' row) (hr : ∀ k, row = some k → b < k) : Tp W b w' := by
  refine ⟨?_, h.2.1.grown hg h.2.1.size (fun k hk => by have := hr k hk; have := h.2.2; omega), h.2.2⟩
  obtain ⟨a, len, cap, k, h1, h2, h3, h4⟩ := h.1
  refine ⟨a, len, cap, k, ?_, h2, h3, ?_⟩
  · rw [hg.block b (Array.getElem?_eq_some_iff.1 h1).1 (fun e => by have := hr b e.symm; omega)]; exact h1
  · intro i hi
    obtain ⟨c, o, x, ha, hc, hx⟩ := h4 i hi
    exact ⟨c, o, x, ha, hc, hg.cell hx (fun e => by have := hr c e.symm; omega)⟩
theorem WS.app {f : Int} {W wx w' : World} {S G : Nat} {k gq gs gz last s z : Int} {L : List (Int × Int × Int)} {tv tv' : Value} {O' : ByteArray} (hT : Tp W W.heap.size wx) (hS : wx.heap[S]? = some (.cells (secs k (secI gq gs gz f) O') 46 (0, 0)))
    (hO : Oth O' f gq (last + 1) (L ++ [(last + 1, s, z)])) (hG : IAt wx G gq gs gz) (hgv : vaB gq gs gz = true) (hgq : gq ≤ last) (lS : W.heap.size < S) (lG : S < G) (hLl : (L.length : Int) ≤ last) (hg : wx.grownBy w' tv.ownBlock) (hlt : ∀ b, tv.ownBlock = some b → G + 1 ≤ b)
    (hown : w'.ownsRow (G + 1) 28 3 tv' (L.length + 1) (icells L ++ [.int .i64 (last + 1), .int .i64 s, .int .i64 z])) : WS f W S G k gq gs gz (last + 1) (L ++ [(last + 1, s, z)]) tv' w' := by
  have n1 : ∀ b, b ≤ G → some b ≠ tv.ownBlock := fun b hb e => by have := hlt b e.symm; omega
  have lgG := hG.lt
  refine ⟨hT.grownRow hg (fun b hb => by have := hlt b hb; omega), ⟨O', hO, (hg.block S (by omega) (n1 S (by omega))).trans hS⟩, (hg.block G lgG (n1 G (by omega))).trans hG, hgv, by omega, ?_, lS, lG, by simp; omega⟩
  rw [icells_snoc]
  simpa using hown
theorem WS.good {f : Int} {W wx : World} {S G : Nat} {k gq gs gz last s z : Int} {O : ByteArray} (hk : k = 0 ∨ k = 1) (f0 : 0 ≤ f) (f1 : f < 8) (hT : Tp W W.heap.size wx) (hS : wx.heap[S]? = some (.cells (secs k (secI gq gs gz f) O) 46 (0, 0)))
    (hG : IAt wx G gq gs gz) (hgv : vaB gq gs gz = true) (hgq : gq ≤ last) (lS : W.heap.size < S) (lG : S < G) (l0 : 0 ≤ last) (hv : vaB (last + 1) s z = true) (Y : ByteArray) (hY : Y = secI (last + 1) s z f) :
    WS f W S G (1 - k) (last + 1) s z (last + 1) [] (.slice none 0 0) ((((wx.setCell ⟨S, if k = 0 then 1 else 0, none⟩ (.string Y)).setCell ⟨G, 0, none⟩ (.int .i64 (last + 1))).setCell ⟨G, 1, none⟩ (.int .i64 s)).setCell ⟨G, 2, none⟩ (.int .i64 z)) := by
  have hGS : G ≠ S := by omega
  have hSG : S ≠ G := by omega
  subst hY
  have hG' : IAt (wx.setCell ⟨S, if k = 0 then 1 else 0, none⟩ (.string (secI (last + 1) s z f))) G gq gs gz := set_other hGS hG
  refine ⟨(((hT.set _ _ lS).set _ _ (by simp; omega)).set _ _ (by simp; omega)).set _ _ (by simp; omega), ⟨secI gq gs gz f, Oth.older hgv (by omega) (by omega) f0 f1, ?_⟩, ((hG'.set0 _).set1 _).set2 _, hv, by omega, World.ownsRow_nil _ _ _ _, lS, lG, by simp; omega⟩
  refine set_other (by simpa using hSG) (set_other (by simpa using hSG) (set_other (by simpa using hSG) ?_))
  rcases hk with rfl | rfl
  · exact heap_setCell_same wx S 1 _ _ _ hS
  · exact heap_setCell_same wx S 0 _ _ _ hS
theorem WS.drewN {f : Int} {W wx : World} {S G : Nat} {k gq gs gz last : Int} {L : List (Int × Int × Int)} {tv : Value} (h : WS f W S G k gq gs gz last L tv wx) (m : Nat) : WS f W S G k gq gs gz last L tv (wx.drewN m) := by
  obtain ⟨hT, ⟨O, hO, hS⟩, hG, hv, hq, hown, lS, lG, hl⟩ := h
  exact ⟨hT.drewN m, ⟨O, hO, hS⟩, hG, hv, hq, hown, lS, lG, hl⟩
theorem eq3w (q s b q' s' b' : Int) : (q = q' ∧ s = s' ∧ b = b') ∨ (¬ (q = q' ∧ s = s' ∧ b = b') ∧ ((q == q') = false ∨ (s == s') = false ∨ (b == b') = false)) := by
  by_cases h1 : q = q'
  · by_cases h2 : s = s'
    · by_cases h3 : b = b'
      · exact .inl ⟨h1, h2, h3⟩
      · exact .inr ⟨fun h => h3 h.2.2, .inr (.inr (by simpa using h3))⟩
    · exact .inr ⟨fun h => h2 h.2.1, .inr (.inl (by simpa using h2))⟩
  · exact .inr ⟨fun h => h1 h.1, .inl (by simpa using h1)⟩
/-- Whether what was chosen is the last good one or one that was tried. -/
def fin0 (x g : Int × Int × Int) (L : List (Int × Int × Int)) : Bool := decide (x = g ∨ x ∈ L)
theorem fin0_nil_t {q s z q' s' z' : Int} (h : q = q' ∧ s = s' ∧ z = z') : true = fin0 (q, s, z) (q', s', z') [] := by obtain ⟨rfl, rfl, rfl⟩ := h; simp [fin0]
theorem fin0_nil_f {q s z q' s' z' : Int} (h : ¬ (q = q' ∧ s = s' ∧ z = z')) : false = fin0 (q, s, z) (q', s', z') [] := by simpa [fin0] using h
theorem fin0_more {x g : Int × Int × Int} {L : List (Int × Int × Int)} {k : Nat} (h : true = fin0 x g (L.take k)) : true = fin0 x g (L.take (k + 1)) := by
  have h' := h.symm
  simp only [fin0, decide_eq_true_eq] at h'
  refine (decide_eq_true (h'.imp id fun h => ?_)).symm
  rw [List.take_add_one]
  exact List.mem_append_left _ h
theorem fin0_t {q s z a b c : Int} {g : Int × Int × Int} {L : List (Int × Int × Int)} {k : Nat} (hk : L[k]? = some (a, b, c)) (h : q = a ∧ s = b ∧ z = c) : true = fin0 (q, s, z) g (L.take (k + 1)) := by
  obtain ⟨rfl, rfl, rfl⟩ := h
  refine (decide_eq_true (.inr ?_)).symm
  rw [List.take_add_one, hk]
  exact List.mem_append_right _ (by simp)
theorem fin0_f {q s z a b c : Int} {g : Int × Int × Int} {L : List (Int × Int × Int)} {k : Nat} (hk : L[k]? = some (a, b, c)) (h0 : false = fin0 (q, s, z) g (L.take k)) (h : ¬ (q = a ∧ s = b ∧ z = c)) : false = fin0 (q, s, z) g (L.take (k + 1)) := by
  have h' := h0.symm
  simp only [fin0, decide_eq_false_iff_not, not_or] at h'
  refine (decide_eq_false ?_).symm
  rintro (h1 | h1)
  · exact h'.1 h1
  · rw [List.take_add_one, hk] at h1
    rcases List.mem_append.1 h1 with h1 | h1
    · exact h'.2 h1
    · simp at h1; exact h ⟨h1.1, h1.2.1, h1.2.2⟩
theorem WS.start {f : Int} {W wx : World} {S G : Nat} (f0 : 0 ≤ f) (f1 : f < 8) (lS : W.heap.size < S) (lG : S < G) (hS : wx.heap[S]? = some (.cells #[.string (secI 0 0 0 f), .string (sec 0 0 0 0 0 0 0 0)] 46 (0, 0))) (hG : IAt wx G 0 0 0) (hT : Tp W W.heap.size wx) :
    WS f W S G 0 0 0 0 0 [] (.slice none 0 0) wx :=
  ⟨hT, ⟨_, ⟨(safe_zero f0 f1).1, fun h => by rw [(safe_zero f0 f1).2] at h; cases h⟩, hS⟩, hG, by kernel_rfl, by omega, World.ownsRow_nil _ _ _ _, lS, lG, by simp⟩

set_option maxRecDepth 100000 in
set_option maxHeartbeats 4000000 in
theorem inodeWrites_walk (a0 : Option Addr) (len0 cap0 : Nat) (z0 : List Int) (w : World) (w0 : IsRow .i64 w a0 len0 cap0 z0) :
    Calls Try.prog 7 #[.slice a0 len0 cap0] w fun e w' => e = .returned (.bool true) ∧ Below w.heap.size w w' := by
  have hT0 := Tp.start w0
  clear w0
  go_enter Try.func7, Try.ntmps7
  go_upto_region 3 with (go_at_call 19; refine (next_t _ w _ _ (by omega) (by omega) hT0).mono ?_; rintro e w1 ⟨f, rfl, f0, f1, hT1, hg1⟩)
  have c0 := encode_w 0 0 0 f
  rw [(enc_v (by kernel_rfl) f0 f1).1, (enc_v (by kernel_rfl) f0 f1).2] at c0
  have hmk : ∀ w, (Instr.makeSlice 47 (.int .i64 8) (.int .i64 8)).run Try.prog w = .ok (.slice (some ⟨w.heap.size, 0, none⟩) 8 8) (w.alloc (.cells #[.int .u8 0, .int .u8 0, .int .u8 0, .int .u8 0, .int .u8 0, .int .u8 0, .int .u8 0, .int .u8 0] 5)) := fun _ => by kernel_rfl
  go_upto_region 4 with fail
  go_cut [5] (fun s5 wx => ∃ S, s5 = .pointer (some ⟨S, 0, none⟩) ∧ w.heap.size < S ∧ wx.heap[S]? = some (.cells #[.string (secI 0 0 0 f), .string ⟨#[]⟩] 46 (0, 0)) ∧ Tp w w.heap.size wx)
  case first =>
    go_wp2_with (go_at_call 11; (with_reducible refine Calls.mono (c0 _) ?_); rintro e w2 ⟨rfl, hb2⟩; have hS2 := (hb2.block w1.heap.size (by simp)).trans (heap_at_new w1 _ _ rfl); have s0 := cells_at hS2 0; have s1 := free_at hS2 0; have sl := (Array.getElem?_eq_some_iff.1 hS2).1)
    go_meet
    case rel => exact ⟨_, rfl, hT1.lt, heap_setCell_same w2 _ 0 _ _ _ hS2, ((hT1.alloc _).step hb2).set _ _ hT1.lt⟩
  case rest =>
    clear hT0 hT1 hg1 c0
    obtain ⟨S, rfl, lS, hS, hT⟩ := hcut
    have s0 := cells_at hS 1
    have s1 := free_at hS 1
    have sl := (Array.getElem?_eq_some_iff.1 hS).1
    have cz8 : ∀ w : World, (convert 47 9 (.slice (some ⟨w.heap.size, 0, none⟩) 8 8)).run Try.prog (w.alloc (.cells #[.int .u8 0, .int .u8 0, .int .u8 0, .int .u8 0, .int .u8 0, .int .u8 0, .int .u8 0, .int .u8 0] 5)) = .ok (.string ⟨#[0, 0, 0, 0, 0, 0, 0, 0]⟩) (w.alloc (.cells #[.int .u8 0, .int .u8 0, .int .u8 0, .int .u8 0, .int .u8 0, .int .u8 0, .int .u8 0, .int .u8 0] 5)) := fun w => cz0 8 w
    go_upto_region 6 with fail
    go_cut [6, 7, 8] (fun s6 s7 s8 wx => ∃ G, s6 = .pointer (some ⟨G, 0, none⟩) ∧ s7 = .int .i64 0 ∧ s8 = .int .i64 0 ∧ S < G ∧ wx.heap[S]? = some (.cells #[.string (secI 0 0 0 f), .string (sec 0 0 0 0 0 0 0 0)] 46 (0, 0)) ∧ IAt wx G 0 0 0 ∧ Tp w w.heap.size wx)
    case first =>
      go_wp2
      go_meet
      case rel => exact ⟨_, rfl, rfl, rfl, by omega, heap_at_old' _ (by simp [World.setCell]; omega) (heap_at_old' _ (by simp [World.setCell]; omega) (heap_setCell_same _ _ 1 _ _ _ hS)), IAt.new _ _ _ _ _ (by simp [World.setCell]), (((hT.set _ _ lS).alloc _).alloc _)⟩
    case rest =>
      clear s0 s1 sl cz8 hmk hS hT
      obtain ⟨G, rfl, rfl, rfl, lG, hS, hG, hT⟩ := hcut
      go_upto_region 8 with fail
      go_cut [9, 10] (fun s9 s10 wx => ∃ n : Nat, s9 = .slice none 0 0 ∧ s10 = .int .i64 n ∧ n ≤ 8 ∧ wx.heap[S]? = some (.cells #[.string (secI 0 0 0 f), .string (sec 0 0 0 0 0 0 0 0)] 46 (0, 0)) ∧ IAt wx G 0 0 0 ∧ Tp w w.heap.size wx)
      case first =>
        have HG := Lib.hid hG
        have HS := Lib.hid hS
        have lG' := hG.lt
        clear hG hS
        go_wp2_with (go_at_call 19; refine (next_t _ w _ _ (by omega) (by omega) hT).mono ?_; rintro e w3 ⟨n, rfl, n0, n1, hT3, hg3⟩)
        go_meet
        case rel =>
          obtain ⟨n, rfl⟩ := Int.eq_ofNat_of_zero_le n0
          exact ⟨n + 1, rfl, by go_num, by omega, gb_block hg3 (by omega) HS.out, IAt.grown hg3 (by omega) HG.out, hT3⟩
      case rest =>
        clear hS hG hT
        obtain ⟨n, rfl, rfl, hn, hS, hG, hT⟩ := hcut
        go_wp2
        go_loopw [7, 8, 9, 10] (fun s7 s8 s9 s10 wr => ∃ (k gq gs gz last : Int) (L : List (Int × Int × Int)) (n : Nat), s7 = .int .i64 k ∧ s8 = .int .i64 last ∧ s10 = .int .i64 n ∧ (k = 0 ∨ k = 1) ∧ 0 ≤ last ∧ last + n ≤ 8 ∧ WS f w S G k gq gs gz last L s9 wr) (fun _ _ _ s10 _ => (intOf s10).toNat)
        case atStart => exact ⟨0, 0, 0, 0, 0, [], n, rfl, rfl, rfl, .inl rfl, by omega, by omega, WS.start f0 f1 lS lG hS hG hT⟩
        case round =>
          clear hS hG hT hn n
          obtain ⟨k, gq, gs, gz, last, L, n, rfl, rfl, rfl, hk, l0, l8, hW⟩ := hrel
          by_cases hn : 0 < n
          · go_upto_region 12 with fail
            go_cut [11] (fun s11 wx => ∃ (X : Nat) (s z : Int), s11 = .pointer (some ⟨X, 0, none⟩) ∧ (0 ≤ s ∧ s < 129) ∧ (0 ≤ z ∧ z < 256) ∧ IAt wx X (last + 1) s z ∧ G < X ∧ WS f w S G k gq gs gz last L u9 wx)
            case first =>
              have HT := Lib.hid hW.1
              have HW := Lib.hid hW
              clear hW
              go_wp2_with (first
                | (go_at_call 19; refine (next_t _ w _ _ (by omega) (by omega) HT.out).mono ?_; rintro e w2 ⟨s, rfl, s0, s1, hT2, hg2⟩)
                | (go_at_call 19; refine (next_t _ w _ _ (by omega) (by omega) hT2).mono ?_; rintro e w3 ⟨z, rfl, z0, z1, hT3, hg3⟩))
              go_meet
              case rel => exact ⟨_, _, _, rfl, ⟨s0, s1⟩, ⟨z0, z1⟩, IAt.new _ _ _ _ _ rfl, ((HW.out.grown hg2 hT2).grown hg3 hT3).lt, ((HW.out.grown hg2 hT2).grown hg3 hT3).alloc _⟩
            case rest =>
              clear hW
              obtain ⟨X, s, z, rfl, ⟨s0, s1⟩, ⟨z0, z1⟩, hX, lX, hW⟩ := hcut
              have hv1 : vaB (last + 1) s z = true := by simp [vaB]; omega
              have c1 := encode_w (last + 1) s z f
              rw [(enc_v hv1 f0 f1).1, (enc_v hv1 f0 f1).2] at c1
              obtain ⟨Y, hY, hY8⟩ : ∃ Y : ByteArray, Y = secI (last + 1) s z f ∧ Y.size = 8 := ⟨_, rfl, rfl⟩
              rw [show secH (by8 ((last + 1) / 256)) (by8 ((last + 1) % 256)) (by8 s) (by8 z) f = Y from hY.symm] at c1
              have HY := Lib.hid hY
              clear hY
              obtain ⟨m0, m1, m2⟩ := hX.cell
              have HX := Lib.hid hX
              have HW := Lib.hid hW
              have Hv1 := Lib.hid hv1
              clear hX hW hv1
              go_upto_region 16 with (go_at_call 11; (with_reducible refine Calls.mono (c1 _) ?_); rintro e w2 ⟨rfl, hb2⟩; have HX2 := Lib.hid (IAt.step hb2 HX.out); have HW2 := Lib.hid (HW.out.step hb2); clear HX HW hb2)
              clear c1 hY8
              (try clear m0 m1 m2)
              obtain ⟨hT, ⟨O, hO, hS⟩, hG, hgv, hgq, hown, _, _, hLl⟩ := HW2.out
              have HT := Lib.hid hT
              have HO := Lib.hid hO
              have HS := Lib.hid hS
              have HG := Lib.hid hG
              have Hgv := Lib.hid hgv
              have Hown := Lib.hid hown
              have lw2 := hG.lt
              clear hT hO hS hG hgv hown
              go_cut [14] (fun s14 wx => s14 = .string O ∧ w2 = wx)
              case first =>
                rcases hk with rfl | rfl
                · have q0 : w2.cell? ⟨S, 1, none⟩ = some (.string O) := (cells_at HS.out 1).trans rfl
                  go_wp2
                  go_meet
                  case rel => exact ⟨rfl, rfl⟩
                · have q0 : w2.cell? ⟨S, 0, none⟩ = some (.string O) := (cells_at HS.out 0).trans rfl
                  go_wp2
                  go_meet
                  case rel => exact ⟨rfl, rfl⟩
              case rest =>
                obtain ⟨rfl, rfl⟩ := hcut
                go_upto_region 17 with fail
                go_cut [69] (fun s69 wx => ∃ y : Int, s69 = .int .i64 y ∧ (y = 0 ∨ y = 1 ∨ y = 2 ∨ y = 3 ∨ y = 4) ∧ w2.grownBy wx (some w.heap.size) ∧ Tp w w.heap.size wx)
                case first =>
                  go_wp2_with (go_at_call 19; refine (next_t _ w _ _ (by omega) (by omega) HT.out).mono ?_; rintro e w3 ⟨y, rfl, y0, y1, hT3, hg3⟩)
                  go_meet
                  case rel => exact ⟨_, rfl, by omega, hg3, hT3⟩
                case rest =>
                  obtain ⟨y, rfl, hy, hg, hT⟩ := hcut
                  go_upto_block 2 with fail
                  go_cut [7, 9] (fun s7 s9 wx => ∃ (k' gq' gs' gz' : Int) (L' : List (Int × Int × Int)), s7 = .int .i64 k' ∧ (k' = 0 ∨ k' = 1) ∧ WS f w S G k' gq' gs' gz' (last + 1) L' s9 wx)
                  case first =>
                    rcases hk with rfl | rfl
                    ·
                      have hS3 := gb_block hg (by omega) HS.out
                      have hG3 := IAt.grown hg (by omega) HG.out
                      have hX3 := IAt.grown hg (by omega) HX2.out
                      have hown3 := Hown.out.kept hg (.inr (HW2.out.row_ne (by omega)))
                      have Hb := Lib.hid hown3.lt
                      have HT3 := Lib.hid hT
                      have HS3 := Lib.hid hS3
                      have HG3 := Lib.hid hG3
                      have Hown3 := Lib.hid hown3
                      have lS3 := (Array.getElem?_eq_some_iff.1 hS3).1
                      have lG3 := hG3.lt
                      have c0 : wc.cell? ⟨S, 1, none⟩ = some (.string O) := (cells_at hS3 1).trans rfl
                      have c1 := free_at hS3 1
                      have hSG : ¬ S = G := by omega
                      have hGS : ¬ G = S := by omega
                      have hSX : ¬ S = X := by omega
                      have hXS : ¬ X = S := by omega
                      obtain ⟨m0, m1, m2⟩ := hX3.cell
                      clear hS3 hX3 hown3 hT
                      rcases hy with rfl | rfl | rfl | rfl | rfl
                      · obtain ⟨g0, g1, g2⟩ := hG3.cell
                        obtain ⟨e0, e1, e2⟩ := hG3.free
                        clear hG3
                        go_wp2
                        go_meet
                        case rel => exact ⟨1, last + 1, s, z, [], rfl, .inr rfl, WS.good (k := 0) (.inl rfl) f0 f1 HT3.out HS3.out HG3.out Hgv.out hgq lS lG l0 Hv1.out Y HY.out⟩
                      · obtain ⟨g0, g1, g2⟩ := hG3.cell
                        obtain ⟨e0, e1, e2⟩ := hG3.free
                        clear hG3
                        go_wp2
                        go_meet
                        case rel => exact ⟨1, last + 1, s, z, [], rfl, .inr rfl, WS.good (k := 0) (.inl rfl) f0 f1 HT3.out HS3.out HG3.out Hgv.out hgq lS lG l0 Hv1.out Y HY.out⟩
                      · obtain ⟨i0, hi, hz0, hz1, hz2⟩ := info_parts ino_info
                        go_wp2_with (at_builtin; refine wpList_append_lies _ rfl (.tmp 82) (.tmp 84) 48 rfl (G + 1) 28 i0 _ 3 24 Try.underlying48 hi hz0 hz1 hz2 rfl (by omega) u9 L.length (icells L) rfl (Hown3.out.alloc _) ⟨_, 0, none⟩ 1 1 [.int .i64 (last + 1), .int .i64 s, .int .i64 z] rfl rfl (World.news_of_block (heap_alloc_new wc _)) (by simp [Value.oneCell']) (by omega) (by unfold maxLen; omega) (by omega) (by simp; omega) _ rfl ?_; intro gg cap w4 hown4 hg4 hat4 hlt4)
                        go_meet
                        case rel => exact ⟨0, gq, gs, gz, L ++ [(last + 1, s, z)], rfl, .inl rfl, WS.app (HT3.out.alloc _) (heap_at_old' _ lS3 HS3.out) (HO.out.keep (by omega)) (HG3.out.alloc _) Hgv.out hgq lS lG hLl hg4 (fun b hb => (Hb.out b hb).1) hown4⟩
                      · obtain ⟨i0, hi, hz0, hz1, hz2⟩ := info_parts ino_info
                        have hOY : Oth Y f gq (last + 1) (L ++ [(last + 1, s, z)]) := by rw [HY.out]; exact Oth.wrote Hv1.out (by omega) (by omega) f0 f1
                        have HOY := Lib.hid hOY
                        clear hOY
                        go_wp2_with (at_builtin; refine wpList_append_lies _ rfl (.tmp 92) (.tmp 94) 48 rfl (G + 1) 28 i0 _ 3 24 Try.underlying48 hi hz0 hz1 hz2 rfl (by omega) u9 L.length (icells L) rfl ((Hown3.out.kept (grownBy_setCell wc ⟨S, 1, none⟩ (.string Y)) (.inr (fun e => by have := (Hb.out S e).1; omega))).alloc _) ⟨_, 0, none⟩ 1 1 [.int .i64 (last + 1), .int .i64 s, .int .i64 z] rfl rfl (World.news_of_block (heap_at_new _ _ _ (by simp [World.setCell]))) (by simp [Value.oneCell']) (by omega) (by unfold maxLen; omega) (by omega) (by simp [World.setCell]; omega) _ rfl ?_; intro gg cap w4 hown4 hg4 hat4 hlt4)
                        go_meet
                        case rel => exact ⟨0, gq, gs, gz, L ++ [(last + 1, s, z)], rfl, .inl rfl, WS.app ((HT3.out.set _ _ lS).alloc _) (heap_at_old' _ (by simp [World.setCell]; omega) (heap_setCell_same wc S 1 _ _ _ HS3.out)) HOY.out (IAt.alloc (set_other hGS HG3.out) _) Hgv.out hgq lS lG hLl hg4 (fun b hb => (Hb.out b hb).1) hown4⟩
                      · obtain ⟨i0, hi, hz0, hz1, hz2⟩ := info_parts ino_info
                        have tw := fun (y2 : Int) w => torn_w O Y y2 w HO.out.1.size (by rw [HY.out]; exact secH_size _ _ _ _ _)
                        clear c0 c1 m0 m1 m2
                        go_upto_region 30 with (first
                          | (go_at_call 19; refine (next_t _ w _ _ (by omega) (by omega) HT3.out).mono ?_; rintro e w4 ⟨y2, rfl, y20, y21, hT4, hg4⟩; have HS4 := Lib.hid (gb_block hg4 (by omega) HS3.out); have HG4 := Lib.hid (IAt.grown hg4 (by omega) HG3.out); have HX4 := Lib.hid (IAt.grown hg4 (by omega) (IAt.grown hg (by omega) HX2.out)); have Hown4 := Lib.hid (Hown3.out.kept hg4 (.inr (fun e => by have := (Hb.out _ e).1; omega))); have HT4 := Lib.hid hT4; clear hT4)
                          | (go_at_call 20; (with_reducible refine Calls.mono (tw _ _) ?_); rintro e w5 ⟨rfl, hb5⟩; have hS5 := (hb5.block S (Array.getElem?_eq_some_iff.1 HS4.out).1).trans HS4.out; have c0 : w5.cell? ⟨S, 1, none⟩ = some (.string O) := (cells_at hS5 1).trans rfl; have c1 := free_at hS5 1; have lS5 := (Array.getElem?_eq_some_iff.1 hS5).1; have HS5 := Lib.hid hS5; clear hS5; have HG5 := Lib.hid (IAt.step hb5 HG4.out); have hX5 := IAt.step hb5 HX4.out; obtain ⟨m0, m1, m2⟩ := hX5.cell; have HT5 := Lib.hid (HT4.out.step hb5); have Hown5 := Lib.hid (Hown4.out.kept (row := none) ⟨hb5.os, hb5.tape, hb5.output, hb5.size, fun k hk _ => hb5.block k hk⟩ (by cases h : u9.ownBlock with | none => exact .inl rfl | some b => exact .inr (by simp)))))
                        have hOT := (Oth.torn (L' := L ++ [(last + 1, s, z)]) HO.out Hv1.out (by omega) (by omega) (Int.le_refl _) f0 f1 (show y2 = 0 ∨ y2 = 1 by omega)).1
                        rw [← HY.out] at hOT
                        have HOT := Lib.hid hOT
                        clear hOT
                        go_wp2_with (at_builtin; refine wpList_append_lies _ rfl (.tmp 109) (.tmp 111) 48 rfl (G + 1) 28 i0 _ 3 24 Try.underlying48 hi hz0 hz1 hz2 rfl (by omega) u9 L.length (icells L) rfl ((Hown5.out.kept (grownBy_setCell w5 ⟨S, 1, none⟩ (.string (toS O Y y2))) (.inr (fun e => by have := (Hb.out S e).1; omega))).alloc _) ⟨_, 0, none⟩ 1 1 [.int .i64 (last + 1), .int .i64 s, .int .i64 z] rfl rfl (World.news_of_block (heap_at_new _ _ _ (by simp [World.setCell]))) (by simp [Value.oneCell']) (by omega) (by unfold maxLen; omega) (by omega) (by have := HG5.out.lt; simp [World.setCell]; omega) _ rfl ?_; intro gg cap w6 hown6 hg6 hat6 hlt6)
                        go_meet
                        case rel => exact ⟨0, gq, gs, gz, L ++ [(last + 1, s, z)], rfl, .inl rfl, WS.app ((HT5.out.set _ _ lS).alloc _) (heap_at_old' _ (by simp [World.setCell]; omega) (heap_setCell_same w5 S 1 _ _ _ HS5.out)) HOT.out (IAt.alloc (set_other hGS HG5.out) _) Hgv.out hgq lS lG hLl hg6 (fun b hb => (Hb.out b hb).1) hown6⟩
                    ·
                      have hS3 := gb_block hg (by omega) HS.out
                      have hG3 := IAt.grown hg (by omega) HG.out
                      have hX3 := IAt.grown hg (by omega) HX2.out
                      have hown3 := Hown.out.kept hg (.inr (HW2.out.row_ne (by omega)))
                      have Hb := Lib.hid hown3.lt
                      have HT3 := Lib.hid hT
                      have HS3 := Lib.hid hS3
                      have HG3 := Lib.hid hG3
                      have Hown3 := Lib.hid hown3
                      have lS3 := (Array.getElem?_eq_some_iff.1 hS3).1
                      have lG3 := hG3.lt
                      have c0 : wc.cell? ⟨S, 0, none⟩ = some (.string O) := (cells_at hS3 0).trans rfl
                      have c1 := free_at hS3 0
                      have hSG : ¬ S = G := by omega
                      have hGS : ¬ G = S := by omega
                      have hSX : ¬ S = X := by omega
                      have hXS : ¬ X = S := by omega
                      obtain ⟨m0, m1, m2⟩ := hX3.cell
                      clear hS3 hX3 hown3 hT
                      rcases hy with rfl | rfl | rfl | rfl | rfl
                      · obtain ⟨g0, g1, g2⟩ := hG3.cell
                        obtain ⟨e0, e1, e2⟩ := hG3.free
                        clear hG3
                        go_wp2
                        go_meet
                        case rel => exact ⟨0, last + 1, s, z, [], rfl, .inl rfl, WS.good (k := 1) (.inr rfl) f0 f1 HT3.out HS3.out HG3.out Hgv.out hgq lS lG l0 Hv1.out Y HY.out⟩
                      · obtain ⟨g0, g1, g2⟩ := hG3.cell
                        obtain ⟨e0, e1, e2⟩ := hG3.free
                        clear hG3
                        go_wp2
                        go_meet
                        case rel => exact ⟨0, last + 1, s, z, [], rfl, .inl rfl, WS.good (k := 1) (.inr rfl) f0 f1 HT3.out HS3.out HG3.out Hgv.out hgq lS lG l0 Hv1.out Y HY.out⟩
                      · obtain ⟨i0, hi, hz0, hz1, hz2⟩ := info_parts ino_info
                        go_wp2_with (at_builtin; refine wpList_append_lies _ rfl (.tmp 82) (.tmp 84) 48 rfl (G + 1) 28 i0 _ 3 24 Try.underlying48 hi hz0 hz1 hz2 rfl (by omega) u9 L.length (icells L) rfl (Hown3.out.alloc _) ⟨_, 0, none⟩ 1 1 [.int .i64 (last + 1), .int .i64 s, .int .i64 z] rfl rfl (World.news_of_block (heap_alloc_new wc _)) (by simp [Value.oneCell']) (by omega) (by unfold maxLen; omega) (by omega) (by simp; omega) _ rfl ?_; intro gg cap w4 hown4 hg4 hat4 hlt4)
                        go_meet
                        case rel => exact ⟨1, gq, gs, gz, L ++ [(last + 1, s, z)], rfl, .inr rfl, WS.app (HT3.out.alloc _) (heap_at_old' _ lS3 HS3.out) (HO.out.keep (by omega)) (HG3.out.alloc _) Hgv.out hgq lS lG hLl hg4 (fun b hb => (Hb.out b hb).1) hown4⟩
                      · obtain ⟨i0, hi, hz0, hz1, hz2⟩ := info_parts ino_info
                        have hOY : Oth Y f gq (last + 1) (L ++ [(last + 1, s, z)]) := by rw [HY.out]; exact Oth.wrote Hv1.out (by omega) (by omega) f0 f1
                        have HOY := Lib.hid hOY
                        clear hOY
                        go_wp2_with (at_builtin; refine wpList_append_lies _ rfl (.tmp 92) (.tmp 94) 48 rfl (G + 1) 28 i0 _ 3 24 Try.underlying48 hi hz0 hz1 hz2 rfl (by omega) u9 L.length (icells L) rfl ((Hown3.out.kept (grownBy_setCell wc ⟨S, 0, none⟩ (.string Y)) (.inr (fun e => by have := (Hb.out S e).1; omega))).alloc _) ⟨_, 0, none⟩ 1 1 [.int .i64 (last + 1), .int .i64 s, .int .i64 z] rfl rfl (World.news_of_block (heap_at_new _ _ _ (by simp [World.setCell]))) (by simp [Value.oneCell']) (by omega) (by unfold maxLen; omega) (by omega) (by simp [World.setCell]; omega) _ rfl ?_; intro gg cap w4 hown4 hg4 hat4 hlt4)
                        go_meet
                        case rel => exact ⟨1, gq, gs, gz, L ++ [(last + 1, s, z)], rfl, .inr rfl, WS.app ((HT3.out.set _ _ lS).alloc _) (heap_at_old' _ (by simp [World.setCell]; omega) (heap_setCell_same wc S 0 _ _ _ HS3.out)) HOY.out (IAt.alloc (set_other hGS HG3.out) _) Hgv.out hgq lS lG hLl hg4 (fun b hb => (Hb.out b hb).1) hown4⟩
                      · obtain ⟨i0, hi, hz0, hz1, hz2⟩ := info_parts ino_info
                        have tw := fun (y2 : Int) w => torn_w O Y y2 w HO.out.1.size (by rw [HY.out]; exact secH_size _ _ _ _ _)
                        clear c0 c1 m0 m1 m2
                        go_upto_region 30 with (first
                          | (go_at_call 19; refine (next_t _ w _ _ (by omega) (by omega) HT3.out).mono ?_; rintro e w4 ⟨y2, rfl, y20, y21, hT4, hg4⟩; have HS4 := Lib.hid (gb_block hg4 (by omega) HS3.out); have HG4 := Lib.hid (IAt.grown hg4 (by omega) HG3.out); have HX4 := Lib.hid (IAt.grown hg4 (by omega) (IAt.grown hg (by omega) HX2.out)); have Hown4 := Lib.hid (Hown3.out.kept hg4 (.inr (fun e => by have := (Hb.out _ e).1; omega))); have HT4 := Lib.hid hT4; clear hT4)
                          | (go_at_call 20; (with_reducible refine Calls.mono (tw _ _) ?_); rintro e w5 ⟨rfl, hb5⟩; have hS5 := (hb5.block S (Array.getElem?_eq_some_iff.1 HS4.out).1).trans HS4.out; have c0 : w5.cell? ⟨S, 0, none⟩ = some (.string O) := (cells_at hS5 0).trans rfl; have c1 := free_at hS5 0; have lS5 := (Array.getElem?_eq_some_iff.1 hS5).1; have HS5 := Lib.hid hS5; clear hS5; have HG5 := Lib.hid (IAt.step hb5 HG4.out); have hX5 := IAt.step hb5 HX4.out; obtain ⟨m0, m1, m2⟩ := hX5.cell; have HT5 := Lib.hid (HT4.out.step hb5); have Hown5 := Lib.hid (Hown4.out.kept (row := none) ⟨hb5.os, hb5.tape, hb5.output, hb5.size, fun k hk _ => hb5.block k hk⟩ (by cases h : u9.ownBlock with | none => exact .inl rfl | some b => exact .inr (by simp)))))
                        have hOT := (Oth.torn (L' := L ++ [(last + 1, s, z)]) HO.out Hv1.out (by omega) (by omega) (Int.le_refl _) f0 f1 (show y2 = 0 ∨ y2 = 1 by omega)).1
                        rw [← HY.out] at hOT
                        have HOT := Lib.hid hOT
                        clear hOT
                        go_wp2_with (at_builtin; refine wpList_append_lies _ rfl (.tmp 109) (.tmp 111) 48 rfl (G + 1) 28 i0 _ 3 24 Try.underlying48 hi hz0 hz1 hz2 rfl (by omega) u9 L.length (icells L) rfl ((Hown5.out.kept (grownBy_setCell w5 ⟨S, 0, none⟩ (.string (toS O Y y2))) (.inr (fun e => by have := (Hb.out S e).1; omega))).alloc _) ⟨_, 0, none⟩ 1 1 [.int .i64 (last + 1), .int .i64 s, .int .i64 z] rfl rfl (World.news_of_block (heap_at_new _ _ _ (by simp [World.setCell]))) (by simp [Value.oneCell']) (by omega) (by unfold maxLen; omega) (by omega) (by have := HG5.out.lt; simp [World.setCell]; omega) _ rfl ?_; intro gg cap w6 hown6 hg6 hat6 hlt6)
                        go_meet
                        case rel => exact ⟨1, gq, gs, gz, L ++ [(last + 1, s, z)], rfl, .inr rfl, WS.app ((HT5.out.set _ _ lS).alloc _) (heap_at_old' _ (by simp [World.setCell]; omega) (heap_setCell_same w5 S 0 _ _ _ HS5.out)) HOT.out (IAt.alloc (set_other hGS HG5.out) _) Hgv.out hgq lS lG hLl hg6 (fun b hb => (Hb.out b hb).1) hown6⟩
                  case rest =>
                    clear HT HO HS HG Hgv Hown HW2 HX2 Hv1 HY lw2 hy hg hT hk hgq hLl
                    obtain ⟨k', gq', gs', gz', L', rfl, hk, hW⟩ := hcut
                    have HW := Lib.hid hW
                    obtain ⟨hT, ⟨O', hO, hS⟩, hG, hgv, hgq, hown, _, _, hLl⟩ := hW
                    obtain ⟨q3, s3, z3, n3, m3, hmem, ch1, ch2⟩ := writes_pick hgv f0 f1 hO
                    have HS := Lib.hid hS
                    have Hmem := Lib.hid hmem
                    clear hT hO hS hG hgv hgq hown hLl hmem
                    go_upto_region 31 with fail
                    go_cut [15, 17] (fun s15 s17 wx => ∃ J, s15 = .pointer (some ⟨J, 0, none⟩) ∧ s17 = .bool true ∧ IAt wx J q3 s3 z3 ∧ WS f w S G k' gq' gs' gz' (last + 1) L' u9 wx)
                    case first =>
                      rcases hk with rfl | rfl
                      · have q0 : wc.cell? ⟨S, 0, none⟩ = some (.string (secI gq' gs' gz' f)) := (cells_at HS.out 0).trans rfl
                        have q1 : wc.cell? ⟨S, 1, none⟩ = some (.string O') := (cells_at HS.out 1).trans rfl
                        go_wp2_with (go_at_call 15; (with_reducible refine Calls.mono (ch1 _) ?_); rintro e w3 ⟨rfl, hb3⟩)
                        go_meet
                        case rel => exact ⟨_, rfl, rfl, IAt.new _ _ _ _ _ rfl, (HW.out.step hb3).alloc _⟩
                      · have q0 : wc.cell? ⟨S, 0, none⟩ = some (.string O') := (cells_at HS.out 0).trans rfl
                        have q1 : wc.cell? ⟨S, 1, none⟩ = some (.string (secI gq' gs' gz' f)) := (cells_at HS.out 1).trans rfl
                        go_wp2_with (go_at_call 15; (with_reducible refine Calls.mono (ch2 _) ?_); rintro e w3 ⟨rfl, hb3⟩)
                        go_meet
                        case rel => exact ⟨_, rfl, rfl, IAt.new _ _ _ _ _ rfl, (HW.out.step hb3).alloc _⟩
                    case rest =>
                      clear HW HS ch1 ch2
                      obtain ⟨J, rfl, rfl, hJ, hW⟩ := hcut
                      go_upto_region 32 with fail
                      go_cut [18] (fun s18 wx => ∃ fb, s18 = .bool fb ∧ fb = fin0 (q3, s3, z3) (gq', gs', gz') [] ∧ IAt wx J q3 s3 z3 ∧ WS f w S G k' gq' gs' gz' (last + 1) L' u9 wx)
                      case first =>
                        obtain ⟨j0, j1, j2⟩ := hJ.cell
                        obtain ⟨g0, g1, g2⟩ := hW.2.2.1.cell
                        have HJ := Lib.hid hJ
                        have HW := Lib.hid hW
                        clear hJ hW
                        rcases eq3w q3 s3 z3 gq' gs' gz' with he | ⟨hn, hd⟩
                        · have HE := Lib.hid (fin0_nil_t he)
                          obtain ⟨h1, h2, h3⟩ := he
                          have d1 : (q3 == gq') = true := by simp [h1]
                          have d2 : (s3 == gs') = true := by simp [h2]
                          have d3 : (z3 == gz') = true := by simp [h3]
                          clear h1 h2 h3
                          go_wp2
                          go_meet
                          case rel => exact ⟨_, rfl, HE.out, HJ.out, HW.out⟩
                        · have HE := Lib.hid (fin0_nil_f hn)
                          clear hn
                          rcases hd with hd | hd | hd
                          all_goals
                            go_wp2
                            go_meet
                            case rel => exact ⟨_, rfl, HE.out, HJ.out, HW.out⟩
                      case rest =>
                        clear hJ hW
                        obtain ⟨fb, rfl, hfb, hJ, hW⟩ := hcut
                        have Hfb := Lib.hid hfb
                        clear hfb
                        obtain ⟨A, cap, rfl, hA⟩ : ∃ A cap, u9 = .slice A L'.length cap ∧ (0 < L'.length → ∃ g, A = some ⟨g, 0, none⟩) := by
                          rcases hW.2.2.2.2.2.1.2 with ⟨h1, h2⟩ | ⟨g, cap, cur, h1, _⟩
                          · exact ⟨none, 0, by rw [h1, h2], fun h => by omega⟩
                          · exact ⟨_, cap, h1, fun _ => ⟨g, rfl⟩⟩
                        have hl8 := hW.2.2.2.2.2.2.2.2
                        go_wp2
                        go_loopw [18, 19] (fun s18 s19 wx => ∃ (kk : Nat) (fb : Bool), kk ≤ L'.length ∧ s19 = .int .i64 kk ∧ s18 = .bool fb ∧ fb = fin0 (q3, s3, z3) (gq', gs', gz') (L'.take kk) ∧ IAt wx J q3 s3 z3 ∧ WS f w S G k' gq' gs' gz' (last + 1) L' (.slice A L'.length cap) wx) (fun _ s19 _ => L'.length - (intOf s19).toNat)
                        case atStart => exact ⟨0, fb, by omega, rfl, rfl, Hfb.out, hJ, hW⟩
                        case round =>
                          clear hJ hW Hfb fb
                          obtain ⟨kk, fb, hkk, rfl, rfl, hfb, hJ, hW⟩ := hrel
                          by_cases hlt : kk < L'.length
                          · obtain ⟨g, rfl⟩ := hA (by omega)
                            obtain ⟨⟨a, b, c⟩, hel⟩ : ∃ x, L'[kk]? = some x := ⟨_, List.getElem?_eq_getElem hlt⟩
                            obtain ⟨x0, x1, x2⟩ := icells_get _ _ _ _ _ hel
                            have hown := hW.2.2.2.2.2.1
                            have r0 := (hown.cellAt (kk * 3) (by omega)).trans x0
                            have r1 := (hown.cellAt (kk * 3 + 1) (by omega)).trans x1
                            have r2 := (hown.cellAt (kk * 3 + 2) (by omega)).trans x2
                            obtain ⟨j0, j1, j2⟩ := hJ.cell
                            have HJ := Lib.hid hJ
                            have HW := Lib.hid hW
                            have Hfb := Lib.hid hfb
                            have Hel := Lib.hid hel
                            have b0 : (0 : Int) ≤ (kk : Int) := by omega
                            have b1 : (kk : Int) < (L'.length : Int) := by omega
                            have b2 : ((kk : Int)).toNat = kk := by omega
                            clear hJ hW hfb hel x0 x1 x2 hown
                            cases fb with
                            | true =>
                              go_upto_region 36 with fail
                              go_quiet (fail)
                              go_wp2
                              go_roundw
                              case rel => exact ⟨kk + 1, true, by omega, by go_num, rfl, fin0_more Hfb.out, HJ.out.drewN _, HW.out.drewN _⟩
                              case measure => simp [intOf]; omega
                            | false =>
                              rcases eq3w q3 s3 z3 a b c with he | ⟨hn, hd⟩
                              · have HE := Lib.hid (fin0_t (g := (gq', gs', gz')) Hel.out he)
                                obtain ⟨h1, h2, h3⟩ := he
                                have d1 : (q3 == a) = true := by simp [h1]
                                have d2 : (s3 == b) = true := by simp [h2]
                                have d3 : (z3 == c) = true := by simp [h3]
                                clear h1 h2 h3
                                go_upto_region 36 with fail
                                go_quiet (fail)
                                go_wp2
                                go_roundw
                                case rel => exact ⟨kk + 1, true, by omega, by go_num, rfl, HE.out, HJ.out.drewN _, HW.out.drewN _⟩
                                case measure => simp [intOf]; omega
                              · have HE := Lib.hid (fin0_f (g := (gq', gs', gz')) Hel.out Hfb.out hn)
                                clear hn
                                rcases hd with hd | hd | hd
                                all_goals
                                  go_upto_region 36 with fail
                                  go_quiet (fail)
                                  go_wp2
                                  go_roundw
                                  case rel => exact ⟨kk + 1, false, by omega, by go_num, rfl, HE.out, HJ.out.drewN _, HW.out.drewN _⟩
                                  case measure => simp [intOf]; omega
                          · obtain rfl : kk = L'.length := by omega
                            rw [List.take_length] at hfb
                            have hft : fb = true := by rw [hfb]; exact decide_eq_true Hmem.out
                            subst hft
                            have HJ := Lib.hid hJ
                            have HW := Lib.hid hW
                            clear hfb hJ hW
                            go_wp2
                            go_roundw
                            case rel => exact ⟨k', gq', gs', gz', last + 1, L', n - 1, rfl, rfl, by go_num, hk, by omega, by omega, HW.out⟩
                            case measure => simp [intOf]; omega
          · obtain rfl : n = 0 := by omega
            have hB := hW.1.below
            clear hW
            go_wp2_with (go_at_call 22; (with_reducible refine Calls.mono (awake_w _) ?_); rintro e w9 ⟨rfl, hb9⟩)
            go_ret
            exact ⟨rfl, bl_step hB hb9⟩

end Go.Proofs.Ytcgfffkfmnbneaa
