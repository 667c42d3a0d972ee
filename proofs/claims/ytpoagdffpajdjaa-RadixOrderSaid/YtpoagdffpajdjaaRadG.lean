/-
  Set, frame, Mark, Unmark, Marked, Get of package radix, by contracts.
-/
import Derived.Test.YtpoagdffpajdjaaRadE
namespace Go.Proofs.Ytpoagdffpajdjaa
open Go.RowKit
set_option linter.unusedVariables false
set_option linter.unusedSimpArgs false

theorem res2 {P : Program} {fn : Func} {p q : Tmp} {ty : TypeId} (h : fn.results = #[.cell p ty, .tmp q]) (tmps : Array Value) (w : World) (g : Nat) (t : TypeId) (cs : Array Value) (fr : Nat × Nat) (d : TypeDesc) (u : Value)
    (hp : tmps.getD p undef = .pointer (some ⟨g, 0, none⟩)) (hq : tmps.getD q undef = u) (hg : w.heap[g]? = some (.cells cs t fr))
    (hu : P.underlying ty = some d) (hd : (match d with | .struct _ | .array _ _ => true | _ => false) = true) (hi : (P.info? ty).map (·.size) = some cs.size) :
    (results fn tmps).run P w = .ok (.tuple #[.agg cs, u]) w := by
  have hp' : tmps[p]?.getD undef = .pointer (some ⟨g, 0, none⟩) := by simpa using hp
  have hq' : tmps[q]?.getD undef = u := by simpa using hq
  simp [results, h, hp', hq', asAddr, run_loadVar_row w g t ty cs fr d hg hu hd hi]
theorem tree2_res {fn : Func} {p q : Tmp} (h : fn.results = #[.cell p 28, .tmp q]) (tmps : Array Value) (w : World) (g : Nat) (t : TypeId) (a b c d : Value) (fr : Nat × Nat) (u : Value)
    (hp : tmps.getD p undef = .pointer (some ⟨g, 0, none⟩)) (hq : tmps.getD q undef = u) (hg : w.heap[g]? = some (.cells #[a, b, c, d] t fr)) : (results fn tmps).run Try.prog w = .ok (.tuple #[.agg #[a, b, c, d], u]) w :=
  res2 h tmps w g t _ fr _ u hp hq hg Try.underlying28 rfl tree_size
theorem node2_res {fn : Func} {p q : Tmp} (h : fn.results = #[.cell p 26, .tmp q]) (tmps : Array Value) (w : World) (g : Nat) (t : TypeId) (a b c : Value) (fr : Nat × Nat) (u : Value)
    (hp : tmps.getD p undef = .pointer (some ⟨g, 0, none⟩)) (hq : tmps.getD q undef = u) (hg : w.heap[g]? = some (.cells #[a, b, c] t fr)) : (results fn tmps).run Try.prog w = .ok (.tuple #[.agg #[a, b, c], u]) w :=
  res2 h tmps w g t _ fr _ u hp hq hg Try.underlying26 rfl node_size
theorem heap_off {w : World} {g : Nat} {x : Obj} (h : w.heap[g]? = some x) {n : Nat} (e : n = g) : w.heap[n]? = some x := by subst e; exact h
/-- A tree with contents c and an error come back. -/
def RetTE (c : Cn) (err : Int) (S : Nat → Prop) (w : World) (e : Ending) (w' : World) : Prop := ∃ (h : Nat) (A : Option Addr) (cap : Nat), e = .returned (.tuple #[trV h A (cano h c).kids.length cap (cano h c).val (cano h c).marks, .int .i64 err]) ∧ TreeOk h c ∧ (cano h c).kids.length ≤ cap ∧ NK w' S A (cano h c).kids ∧ Below w.heap.size w w'
theorem RetTE.err {err : Int} {S : Nat → Prop} {w w' : World} (h : Below w.heap.size w w') : RetTE zeroC err S w (.returned (.tuple #[trV 0 none 0 0 0 0, .int .i64 err])) w' :=
  ⟨0, none, 0, by rfl, TreeOk.zero, Nat.zero_le _, .nil _, h⟩
def inB (i : Int) : Bool := decide (0 ≤ i ∧ i ≤ 255)
theorem inB_t {i : Int} (h : inB i = true) : 0 ≤ i ∧ i ≤ 255 := by simpa [inB] using h
theorem inside_b (i : Int) (w : World) : Calls Try.prog 49 #[.int .i64 i] w fun e w' => e = .returned (.bool (inB i)) ∧ w = w' := inside_w i w
def setR (c : Cn) (i v : Int) : Cn × Int := if inB i then (upd c i.toNat (v, 0), 0) else (zeroC, 2)
/-- What frame answers: a leaf and an error. -/
def frR (c : Cn) (i m : Int) : (Int × Int) × Int := if inB i then (if oneB m then (if (c i.toNat).1 ≤ 0 then ((0, 0), 4) else (c i.toNat, 0)) else ((0, 0), 1)) else ((0, 0), 2)
abbrev notI (a b : Int) : Int := bits .andNot .i64 a b
abbrev andI (a b : Int) : Int := bits .and .i64 a b
def markR (c : Cn) (i m : Int) : Cn × Int := if (frR c i m).2 = 0 then (upd c i.toNat ((c i.toNat).1, orI (c i.toNat).2 m), 0) else (zeroC, (frR c i m).2)
def unmarkR (c : Cn) (i m : Int) : Cn × Int := if (frR c i m).2 = 0 then (upd c i.toNat ((c i.toNat).1, notI (c i.toNat).2 m), 0) else (zeroC, (frR c i m).2)
def markedR (c : Cn) (i m : Int) : Bool := decide ((frR c i m).2 = 0) && (andI (c i.toNat).2 m != 0)
def getR (c : Cn) (i : Int) : Int := if inB i then (c i.toNat).1 else 0
set_option maxRecDepth 100000 in
set_option maxHeartbeats 2000000 in
theorem set_w (h : Nat) (c : Cn) (A : Option Addr) (cap : Nat) (S : Nat → Prop) (i y : Int) (w : World) (hl : leafy c) (ht : TreeOk h c) (hcap : (cano h c).kids.length ≤ cap) (hk : NK w S A (cano h c).kids) (hS : ∀ b, w.heap.size ≤ b → S b) :
    Calls Try.prog 30 #[trV h A (cano h c).kids.length cap (cano h c).val (cano h c).marks, .int .i64 i, .int .i64 y] w (RetTE (setR c i y).1 (setR c i y).2 S w) := by
  have hwi := fun (j : Nat) w' (hj : j < 256) (hb : Below w.heap.size w w') (hz : w.heap.size + 1 < w'.heap.size) => with_w h c A cap (fun z => S z ∧ z ≠ w.heap.size + 1) j none 0 y 0 w' hj ht hcap ((hk.weak fun z hz h => ⟨h, by omega⟩).step hb) (fun b hb' => ⟨hS b (Nat.le_trans hb.size (by omega)), by omega⟩)
  obtain ⟨n, hn⟩ : ∃ n, (cano h c).kids.length = n := ⟨_, rfl⟩
  obtain ⟨v, hv⟩ : ∃ v, (cano h c).val = v := ⟨_, rfl⟩
  obtain ⟨mm, hm⟩ : ∃ m, (cano h c).marks = m := ⟨_, rfl⟩
  have hva := fun w' (hb : Below w.heap.size w w') => valid_w h (cano h c) A cap S w' (cano_ml _ _) hcap (hk.step hb)
  rw [valid_of hl ht] at hva
  have HT := Lib.hid ht
  have HC := Lib.hid hcap
  have HK := Lib.hid (fun w' (hb : Below w.heap.size w w') => hk.step hb)
  rw [hn, hv, hm] at hva ⊢
  have HX := Lib.hid (bk_alloc (heap_alloc_at w (.cells #[.int .i64 (h : Int), .slice A n cap, .int .i64 v, .int .i64 mm] 28)) (.cells #[.int .i64 0, .slice none 0 0, .int .i64 0, .int .i64 0] 28))
  have HR := Lib.hid (heap_at_new (w.alloc (.cells #[.int .i64 (h : Int), .slice A n cap, .int .i64 v, .int .i64 mm] 28)) (.cells #[.int .i64 0, .slice none 0 0, .int .i64 0, .int .i64 0] 28) (w.heap.size + 1) (by simp))
  have HW := Lib.hid (bl_alloc (bl_alloc (Below.refl w.heap.size w) (.cells #[.int .i64 (h : Int), .slice A n cap, .int .i64 v, .int .i64 mm] 28)) (.cells #[.int .i64 0, .slice none 0 0, .int .i64 0, .int .i64 0] 28))
  rw [hn, hv, hm] at hwi
  clear hn hv hm hk hS hl ht
  have hin := fun w => inside_b i w
  cases hib : inB i with
  | true =>
    rw [hib] at hin
    obtain ⟨j, rfl⟩ := Int.eq_ofNat_of_zero_le (inB_t hib).1
    have hj := (inB_t hib).2
    have HS := Lib.hid (show setR c j y = (upd c j (y, 0), 0) by unfold setR; rw [hib]; simp)
    have hwj := fun w' hb hz => hwi j w' (by omega) hb hz
    clear hwi hib
    go_enter Try.func30, Try.ntmps30
    go_wp2_with (first
      | (go_at_call 15; (with_reducible refine Calls.mono (hva _ (by (repeat (with_reducible first | assumption | exact Below.refl _ _ | refine bl_alloc ?_ _ | apply Below.drew | refine below_drewN ?_ _ | (apply bl_step2; assumption) | (refine Below.setCell ?_ (Nat.le_refl _) _) | (refine Below.setCell ?_ (by first | omega | (simp; done) | (go_simp; done)) _))))) ?_); rintro e w1 ⟨rfl, hb1⟩; have HX1 := Lib.hid (bk_step HX.out hb1); have HR1 := Lib.hid (bk_step HR.out hb1); have HW1 := Lib.hid (bl_step HW.out hb1); have x0 := cells_at HX1.out 0; have x1 := cells_at HX1.out 1; have x2 := cells_at HX1.out 2; have x3 := cells_at HX1.out 3; simp only [List.getElem?_toArray, List.getElem?_cons_zero, List.getElem?_cons_succ] at x0 x1 x2 x3)
      | (go_at_call 49; (with_reducible refine Calls.mono (hin _) ?_); rintro e w2 ⟨rfl, rfl⟩)
      | (go_at_call 55; (with_reducible refine Calls.mono (hwj _ HW1.out (bk_lt HR1.out)) ?_); rintro e w2 ⟨h', A', cap', rfl, ht', hc', hk', hb2⟩; have HR2 := Lib.hid (bk_step HR1.out hb2); have HW2 := Lib.hid (bl_step HW1.out hb2))
      | (refine wpList_store_rowTo rfl 28 (.tmp 6) (.tmp 20) rfl rfl (w.heap.size + 1) #[.int .i64 (h' : Int), .slice A' (cano h' (upd c j (y, 0))).kids.length cap', .int .i64 (cano h' (upd c j (y, 0))).val, .int .i64 (cano h' (upd c j (y, 0))).marks] rfl rfl 28 _ (HR2.out) tree_size rfl (tree_one _ _ _ _ _ _) ?_))
    show bodyPost Try.prog Try.f30 _ _ _ _
    refine bodyPost_ret (tree2_res rfl _ _ (w.heap.size + 1) _ _ _ _ _ _ _ rfl rfl (setRow_heap _ _ _ _ _ _ HR2.out)) rfl ?_
    rw [HS.out]
    exact ⟨h', A', cap', rfl, ht', hc', (hk'.kept (by simp [World.setRow]) (fun z hz _ => setRow_other _ _ _ _ hz.2)).weak fun _ _ h => h.1, bl_setRow HW2.out (by omega) _⟩
  | false =>
    rw [hib] at hin
    have HS := Lib.hid (show setR c i y = (zeroC, 2) by unfold setR; rw [hib]; simp)
    clear hwi hib
    go_enter Try.func30, Try.ntmps30
    go_wp2_with (first
      | (go_at_call 15; (with_reducible refine Calls.mono (hva _ (by (repeat (with_reducible first | assumption | exact Below.refl _ _ | refine bl_alloc ?_ _ | apply Below.drew | refine below_drewN ?_ _ | (apply bl_step2; assumption) | (refine Below.setCell ?_ (Nat.le_refl _) _) | (refine Below.setCell ?_ (by first | omega | (simp; done) | (go_simp; done)) _))))) ?_); rintro e w1 ⟨rfl, hb1⟩; have HX1 := Lib.hid (bk_step HX.out hb1); have HR1 := Lib.hid (bk_step HR.out hb1); have HW1 := Lib.hid (bl_step HW.out hb1); have x0 := cells_at HX1.out 0; have x1 := cells_at HX1.out 1; have x2 := cells_at HX1.out 2; have x3 := cells_at HX1.out 3; simp only [List.getElem?_toArray, List.getElem?_cons_zero, List.getElem?_cons_succ] at x0 x1 x2 x3)
      | (go_at_call 49; (with_reducible refine Calls.mono (hin _) ?_); rintro e w2 ⟨rfl, rfl⟩)
      | (refine wpList_store_rowTo rfl 28 (.tmp 6) (.tmp 15) rfl rfl (w.heap.size + 1) #[.int .i64 0, .slice none 0 0, .int .i64 0, .int .i64 0] rfl rfl 28 _ (HR1.out) tree_size rfl (tree_one _ _ _ _ _ _) ?_))
    show bodyPost Try.prog Try.f30 _ _ _ _
    refine bodyPost_ret (tree2_res rfl _ _ (w.heap.size + 1) _ _ _ _ _ _ _ rfl rfl (setRow_heap _ _ _ _ _ _ HR1.out)) rfl ?_
    rw [HS.out]
    exact RetTE.err (bl_setRow HW1.out (by omega) _)

/-- A leaf and an error come back. -/
def RetNE (x : Int × Int) (err : Int) (w : World) (e : Ending) (w' : World) : Prop := ∃ (A : Option Addr) (cap : Nat), e = .returned (.tuple #[ndV A 0 cap x.1 x.2, .int .i64 err]) ∧ Below w.heap.size w w'
theorem mark_b (m : Int) (w : World) : Calls Try.prog 40 #[.int .i64 m] w fun e w' => e = .returned (.bool (oneB m)) ∧ w = w' := mark_w m w
set_option maxRecDepth 100000 in
set_option maxHeartbeats 2000000 in
theorem frame_w (h : Nat) (c : Cn) (A : Option Addr) (cap : Nat) (S : Nat → Prop) (i m : Int) (w : World) (hl : leafy c) (ht : TreeOk h c) (hcap : (cano h c).kids.length ≤ cap) (hk : NK w S A (cano h c).kids) :
    Calls Try.prog 52 #[trV h A (cano h c).kids.length cap (cano h c).val (cano h c).marks, .int .i64 i, .int .i64 m] w (RetNE (frR c i m).1 (frR c i m).2 w) := by
  have hfi := fun (j : Nat) w' (hj : j < 256) (hb : Below w.heap.size w w') => find_w h c A cap S j w' hj ht hcap (hk.step hb)
  obtain ⟨n, hn⟩ : ∃ n, (cano h c).kids.length = n := ⟨_, rfl⟩
  obtain ⟨v, hv⟩ : ∃ v, (cano h c).val = v := ⟨_, rfl⟩
  obtain ⟨mm, hm⟩ : ∃ m, (cano h c).marks = m := ⟨_, rfl⟩
  have hva := fun w' (hb : Below w.heap.size w w') => valid_w h (cano h c) A cap S w' (cano_ml _ _) hcap (hk.step hb)
  rw [valid_of hl ht] at hva
  have HT := Lib.hid ht
  have HC := Lib.hid hcap
  have HK := Lib.hid (fun w' (hb : Below w.heap.size w w') => hk.step hb)
  rw [hn, hv, hm] at hva ⊢
  have HX := Lib.hid (bk_alloc (heap_alloc_at w (.cells #[.int .i64 (h : Int), .slice A n cap, .int .i64 v, .int .i64 mm] 28)) (.cells #[.slice none 0 0, .int .i64 0, .int .i64 0] 26))
  have HR := Lib.hid (heap_at_new (w.alloc (.cells #[.int .i64 (h : Int), .slice A n cap, .int .i64 v, .int .i64 mm] 28)) (.cells #[.slice none 0 0, .int .i64 0, .int .i64 0] 26) (w.heap.size + 1) (by simp))
  have HW := Lib.hid (bl_alloc (bl_alloc (Below.refl w.heap.size w) (.cells #[.int .i64 (h : Int), .slice A n cap, .int .i64 v, .int .i64 mm] 28)) (.cells #[.slice none 0 0, .int .i64 0, .int .i64 0] 26))
  rw [hn, hv, hm] at hfi
  clear hn hv hm hk hl ht
  have hin := fun w => inside_b i w
  have hon := fun w => mark_b m w
  cases hib : inB i with
  | true =>
    rw [hib] at hin
    cases hob : oneB m with
    | true =>
      rw [hob] at hon
      obtain ⟨j, rfl⟩ := Int.eq_ofNat_of_zero_le (inB_t hib).1
      have hj := (inB_t hib).2
      have hfj := fun w' hb => hfi j w' (by omega) hb
      by_cases hle : (c j).1 ≤ 0
      · have HS := Lib.hid (show frR c j m = ((0, 0), 4) by unfold frR; rw [hib, hob, Int.toNat_natCast]; simp [hle])
        clear hfi hib hob
        generalize c j = y at hfj hle
        go_enter Try.func52, Try.ntmps52
        go_wp2_with (first
          | (go_at_call 15; (with_reducible refine Calls.mono (hva _ (by (repeat (with_reducible first | assumption | exact Below.refl _ _ | refine bl_alloc ?_ _ | apply Below.drew | refine below_drewN ?_ _ | (apply bl_step2; assumption) | (refine Below.setCell ?_ (Nat.le_refl _) _) | (refine Below.setCell ?_ (by first | omega | (simp; done) | (go_simp; done)) _))))) ?_); rintro e w1 ⟨rfl, hb1⟩; have HX1 := Lib.hid (bk_step HX.out hb1); have HR1 := Lib.hid (bk_step HR.out hb1); have HW1 := Lib.hid (bl_step HW.out hb1); have x0 := cells_at HX1.out 0; have x1 := cells_at HX1.out 1; have x2 := cells_at HX1.out 2; have x3 := cells_at HX1.out 3; simp only [List.getElem?_toArray, List.getElem?_cons_zero, List.getElem?_cons_succ] at x0 x1 x2 x3)
          | (go_at_call 49; (with_reducible refine Calls.mono (hin _) ?_); rintro e w2 ⟨rfl, rfl⟩)
          | (go_at_call 40; (with_reducible refine Calls.mono (hon _) ?_); rintro e w2 ⟨rfl, rfl⟩)
          | (go_at_call 50; (with_reducible refine Calls.mono (hfj _ HW1.out) ?_); rintro e w2 ⟨A', cap', rfl, hb2⟩; have HR2 := Lib.hid (bk_alloc (bk_step HR1.out hb2) (.cells #[.slice A' 0 cap', .int .i64 y.1, .int .i64 y.2] 26)); have HW2 := Lib.hid (bl_alloc (bl_step HW1.out hb2) (.cells #[.slice A' 0 cap', .int .i64 y.1, .int .i64 y.2] 26)))
          | (refine wpList_store_rowTo rfl 26 (.tmp 6) (.tmp 27) rfl rfl (w.heap.size + 1) #[.slice none 0 0, .int .i64 0, .int .i64 0] rfl rfl 26 _ (HR2.out) node_size rfl (node_one _ _ _ _ _) ?_))
        show bodyPost Try.prog Try.f52 _ _ _ _
        refine bodyPost_ret (node2_res rfl _ _ (w.heap.size + 1) _ _ _ _ _ _ rfl rfl (setRow_heap _ _ _ _ _ _ HR2.out)) rfl ?_
        rw [HS.out]
        exact ⟨_, _, rfl, bl_setRow HW2.out (by omega) _⟩
      · have HS := Lib.hid (show frR c j m = (c j, 0) by unfold frR; rw [hib, hob, Int.toNat_natCast]; simp [hle])
        clear hfi hib hob
        obtain ⟨y, hy⟩ : ∃ y, c j = y := ⟨_, rfl⟩
        rw [hy] at hfj hle HS
        clear hy
        go_enter Try.func52, Try.ntmps52
        go_wp2_with (first
          | (go_at_call 15; (with_reducible refine Calls.mono (hva _ (by (repeat (with_reducible first | assumption | exact Below.refl _ _ | refine bl_alloc ?_ _ | apply Below.drew | refine below_drewN ?_ _ | (apply bl_step2; assumption) | (refine Below.setCell ?_ (Nat.le_refl _) _) | (refine Below.setCell ?_ (by first | omega | (simp; done) | (go_simp; done)) _))))) ?_); rintro e w1 ⟨rfl, hb1⟩; have HX1 := Lib.hid (bk_step HX.out hb1); have HR1 := Lib.hid (bk_step HR.out hb1); have HW1 := Lib.hid (bl_step HW.out hb1); have x0 := cells_at HX1.out 0; have x1 := cells_at HX1.out 1; have x2 := cells_at HX1.out 2; have x3 := cells_at HX1.out 3; simp only [List.getElem?_toArray, List.getElem?_cons_zero, List.getElem?_cons_succ] at x0 x1 x2 x3)
          | (go_at_call 49; (with_reducible refine Calls.mono (hin _) ?_); rintro e w2 ⟨rfl, rfl⟩)
          | (go_at_call 40; (with_reducible refine Calls.mono (hon _) ?_); rintro e w2 ⟨rfl, rfl⟩)
          | (go_at_call 50; (with_reducible refine Calls.mono (hfj _ HW1.out) ?_); rintro e w2 ⟨A', cap', rfl, hb2⟩; have HR2 := Lib.hid (bk_alloc (bk_step HR1.out hb2) (.cells #[.slice A' 0 cap', .int .i64 y.1, .int .i64 y.2] 26)); have HW2 := Lib.hid (bl_alloc (bl_step HW1.out hb2) (.cells #[.slice A' 0 cap', .int .i64 y.1, .int .i64 y.2] 26)))
          | (refine wpList_store_rowTo rfl 26 (.tmp 6) (.tmp 28) rfl rfl (w.heap.size + 1) #[.slice A' 0 cap', .int .i64 y.1, .int .i64 y.2] rfl rfl 26 _ (HR2.out) node_size rfl (node_one _ _ _ _ _) ?_))
        show bodyPost Try.prog Try.f52 _ _ _ _
        refine bodyPost_ret (node2_res rfl _ _ (w.heap.size + 1) _ _ _ _ _ _ rfl rfl (setRow_heap _ _ _ _ _ _ HR2.out)) rfl ?_
        rw [HS.out]
        exact ⟨_, _, rfl, bl_setRow HW2.out (by omega) _⟩
    | false =>
      rw [hob] at hon
      have HS := Lib.hid (show frR c i m = ((0, 0), 1) by unfold frR; rw [hib, hob]; simp)
      clear hfi hib hob
      go_enter Try.func52, Try.ntmps52
      go_wp2_with (first
        | (go_at_call 15; (with_reducible refine Calls.mono (hva _ (by (repeat (with_reducible first | assumption | exact Below.refl _ _ | refine bl_alloc ?_ _ | apply Below.drew | refine below_drewN ?_ _ | (apply bl_step2; assumption) | (refine Below.setCell ?_ (Nat.le_refl _) _) | (refine Below.setCell ?_ (by first | omega | (simp; done) | (go_simp; done)) _))))) ?_); rintro e w1 ⟨rfl, hb1⟩; have HX1 := Lib.hid (bk_step HX.out hb1); have HR1 := Lib.hid (bk_step HR.out hb1); have HW1 := Lib.hid (bl_step HW.out hb1); have x0 := cells_at HX1.out 0; have x1 := cells_at HX1.out 1; have x2 := cells_at HX1.out 2; have x3 := cells_at HX1.out 3; simp only [List.getElem?_toArray, List.getElem?_cons_zero, List.getElem?_cons_succ] at x0 x1 x2 x3)
        | (go_at_call 49; (with_reducible refine Calls.mono (hin _) ?_); rintro e w2 ⟨rfl, rfl⟩)
        | (go_at_call 40; (with_reducible refine Calls.mono (hon _) ?_); rintro e w2 ⟨rfl, rfl⟩)
        | (refine wpList_store_rowTo rfl 26 (.tmp 6) (.tmp 20) rfl rfl (w.heap.size + 1) #[.slice none 0 0, .int .i64 0, .int .i64 0] rfl rfl 26 _ (HR1.out) node_size rfl (node_one _ _ _ _ _) ?_))
      show bodyPost Try.prog Try.f52 _ _ _ _
      refine bodyPost_ret (node2_res rfl _ _ (w.heap.size + 1) _ _ _ _ _ _ rfl rfl (setRow_heap _ _ _ _ _ _ HR1.out)) rfl ?_
      rw [HS.out]
      exact ⟨_, _, rfl, bl_setRow HW1.out (by omega) _⟩
  | false =>
    rw [hib] at hin
    have HS := Lib.hid (show frR c i m = ((0, 0), 2) by unfold frR; rw [hib]; simp)
    clear hfi hib
    go_enter Try.func52, Try.ntmps52
    go_wp2_with (first
      | (go_at_call 15; (with_reducible refine Calls.mono (hva _ (by (repeat (with_reducible first | assumption | exact Below.refl _ _ | refine bl_alloc ?_ _ | apply Below.drew | refine below_drewN ?_ _ | (apply bl_step2; assumption) | (refine Below.setCell ?_ (Nat.le_refl _) _) | (refine Below.setCell ?_ (by first | omega | (simp; done) | (go_simp; done)) _))))) ?_); rintro e w1 ⟨rfl, hb1⟩; have HX1 := Lib.hid (bk_step HX.out hb1); have HR1 := Lib.hid (bk_step HR.out hb1); have HW1 := Lib.hid (bl_step HW.out hb1); have x0 := cells_at HX1.out 0; have x1 := cells_at HX1.out 1; have x2 := cells_at HX1.out 2; have x3 := cells_at HX1.out 3; simp only [List.getElem?_toArray, List.getElem?_cons_zero, List.getElem?_cons_succ] at x0 x1 x2 x3)
      | (go_at_call 49; (with_reducible refine Calls.mono (hin _) ?_); rintro e w2 ⟨rfl, rfl⟩)
      | (go_at_call 40; (with_reducible refine Calls.mono (hon _) ?_); rintro e w2 ⟨rfl, rfl⟩)
      | (refine wpList_store_rowTo rfl 26 (.tmp 6) (.tmp 16) rfl rfl (w.heap.size + 1) #[.slice none 0 0, .int .i64 0, .int .i64 0] rfl rfl 26 _ (HR1.out) node_size rfl (node_one _ _ _ _ _) ?_))
    show bodyPost Try.prog Try.f52 _ _ _ _
    refine bodyPost_ret (node2_res rfl _ _ (w.heap.size + 1) _ _ _ _ _ _ rfl rfl (setRow_heap _ _ _ _ _ _ HR1.out)) rfl ?_
    rw [HS.out]
    exact ⟨_, _, rfl, bl_setRow HW1.out (by omega) _⟩
theorem fr_ok {c : Cn} {i m : Int} (h : (frR c i m).2 = 0) : inB i = true ∧ oneB m = true ∧ 0 < (c i.toNat).1 ∧ frR c i m = (c i.toNat, 0) := by
  unfold frR at h ⊢
  cases h1 : inB i with
  | false => rw [h1] at h; simp at h
  | true =>
    rw [h1] at h
    cases h2 : oneB m with
    | false => rw [h2] at h; simp at h
    | true =>
      rw [h2] at h
      by_cases h3 : (c i.toNat).1 ≤ 0
      · simp [h3] at h
      · simp [h3]; omega

set_option maxRecDepth 100000 in
set_option maxHeartbeats 2000000 in
theorem mrk_w (h : Nat) (c : Cn) (A : Option Addr) (cap : Nat) (S : Nat → Prop) (i m : Int) (w : World) (hl : leafy c) (ht : TreeOk h c) (hcap : (cano h c).kids.length ≤ cap) (hk : NK w S A (cano h c).kids) (hS : ∀ b, w.heap.size ≤ b → S b) :
    Calls Try.prog 32 #[trV h A (cano h c).kids.length cap (cano h c).val (cano h c).marks, .int .i64 i, .int .i64 m] w (RetTE (markR c i m).1 (markR c i m).2 S w) := by
  have hwi := fun (j : Nat) xa xc y z w' (hj : j < 256) (hb : Below w.heap.size w w') (hz : w.heap.size + 1 < w'.heap.size) => with_w h c A cap (fun z => S z ∧ z ≠ w.heap.size + 1) j xa xc y z w' hj ht hcap ((hk.weak fun z hz h => ⟨h, by omega⟩).step hb) (fun b hb' => ⟨hS b (Nat.le_trans hb.size (by omega)), by omega⟩)
  have hfr := fun w' (hb : Below w.heap.size w w') => frame_w h c A cap S i m w' hl ht hcap (hk.step hb)
  obtain ⟨n, hn⟩ : ∃ n, (cano h c).kids.length = n := ⟨_, rfl⟩
  obtain ⟨v, hv⟩ : ∃ v, (cano h c).val = v := ⟨_, rfl⟩
  obtain ⟨mm, hm⟩ : ∃ m, (cano h c).marks = m := ⟨_, rfl⟩
  have hva := fun w' (hb : Below w.heap.size w w') => valid_w h (cano h c) A cap S w' (cano_ml _ _) hcap (hk.step hb)
  rw [valid_of hl ht] at hva
  have HT := Lib.hid ht
  have HC := Lib.hid hcap
  have HK := Lib.hid (fun w' (hb : Below w.heap.size w w') => hk.step hb)
  rw [hn, hv, hm] at hva ⊢
  have HX := Lib.hid (bk_alloc (heap_alloc_at w (.cells #[.int .i64 (h : Int), .slice A n cap, .int .i64 v, .int .i64 mm] 28)) (.cells #[.int .i64 0, .slice none 0 0, .int .i64 0, .int .i64 0] 28))
  have HR := Lib.hid (heap_at_new (w.alloc (.cells #[.int .i64 (h : Int), .slice A n cap, .int .i64 v, .int .i64 mm] 28)) (.cells #[.int .i64 0, .slice none 0 0, .int .i64 0, .int .i64 0] 28) (w.heap.size + 1) (by simp))
  have HW := Lib.hid (bl_alloc (bl_alloc (Below.refl w.heap.size w) (.cells #[.int .i64 (h : Int), .slice A n cap, .int .i64 v, .int .i64 mm] 28)) (.cells #[.int .i64 0, .slice none 0 0, .int .i64 0, .int .i64 0] 28))
  rw [hn, hv, hm] at hwi hfr
  clear hn hv hm hk hS hl ht hva
  by_cases he : (frR c i m).2 = 0
  · obtain ⟨h1, h2, h3, h4⟩ := fr_ok he
    obtain ⟨j, rfl⟩ := Int.eq_ofNat_of_zero_le (inB_t h1).1
    have hj := (inB_t h1).2
    have HS := Lib.hid (show markR c j m = (upd c j ((c j).1, orI (c j).2 m), 0) by unfold markR; rw [if_pos he, Int.toNat_natCast])
    have hwj := fun xa xc y z w' hb hz => hwi j xa xc y z w' (by omega) hb hz
    rw [h4, Int.toNat_natCast] at hfr
    clear hwi he h1 h2 h3 h4
    obtain ⟨y, hy⟩ : ∃ y, c j = y := ⟨_, rfl⟩
    rw [hy] at hfr HS
    clear hy
    go_enter Try.func32, Try.ntmps32
    go_wp2_with (first
      | (go_at_call 52; (with_reducible refine Calls.mono (hfr _ (by (repeat (with_reducible first | assumption | exact Below.refl _ _ | refine bl_alloc ?_ _ | apply Below.drew | refine below_drewN ?_ _ | (apply bl_step2; assumption) | (refine Below.setCell ?_ (Nat.le_refl _) _) | (refine Below.setCell ?_ (by first | omega | (simp; done) | (go_simp; done)) _))))) ?_); rintro e w1 ⟨xa, xc, rfl, hb1⟩; have HX1 := Lib.hid (bk_step HX.out hb1); have HR1 := Lib.hid (bk_step HR.out hb1); have HW1 := Lib.hid (bl_step HW.out hb1); have x0 := cells_at HX1.out 0; have x1 := cells_at HX1.out 1; have x2 := cells_at HX1.out 2; have x3 := cells_at HX1.out 3; simp only [List.getElem?_toArray, List.getElem?_cons_zero, List.getElem?_cons_succ] at x0 x1 x2 x3; have l1 := bk_lt HX1.out; have l2 := bk_lt HR1.out)
      | (go_at_call 55; (with_reducible refine Calls.mono (hwj _ _ _ _ _ (by (repeat (with_reducible first | assumption | exact Below.refl _ _ | refine bl_alloc ?_ _ | apply Below.drew | refine below_drewN ?_ _ | (apply bl_step2; assumption) | (refine Below.setCell ?_ (Nat.le_refl _) _) | (refine Below.setCell ?_ (by first | omega | (simp; done) | (go_simp; done)) _)))) (by simp; omega)) ?_); rintro e w2 ⟨h', A', cap', rfl, ht', hc', hk', hb2⟩; have HR2 := Lib.hid (bk_step (bk_alloc HR1.out _) hb2); have HW2 := Lib.hid (bl_step (bl_alloc HW1.out _) hb2))
      | (refine wpList_store_rowTo rfl 28 (.tmp 6) (.tmp 29) rfl rfl (w.heap.size + 1) #[.int .i64 (h' : Int), .slice A' (cano h' (upd c j (y.1, orI y.2 m))).kids.length cap', .int .i64 (cano h' (upd c j (y.1, orI y.2 m))).val, .int .i64 (cano h' (upd c j (y.1, orI y.2 m))).marks] rfl rfl 28 _ (HR2.out) tree_size rfl (tree_one _ _ _ _ _ _) ?_))
    show bodyPost Try.prog Try.f32 _ _ _ _
    refine bodyPost_ret (tree2_res rfl _ _ (w.heap.size + 1) _ _ _ _ _ _ _ rfl rfl (setRow_heap _ _ _ _ _ _ HR2.out)) rfl ?_
    rw [HS.out]
    exact ⟨h', A', cap', rfl, ht', hc', (hk'.kept (by simp [World.setRow]) (fun z hz _ => setRow_other _ _ _ _ hz.2)).weak fun _ _ h => h.1, bl_setRow HW2.out (by omega) _⟩
  · have HS := Lib.hid (show markR c i m = (zeroC, (frR c i m).2) by unfold markR; rw [if_neg he])
    have e1 : ((frR c i m).2 == 0) = false := beq_eq_false_iff_ne.2 he
    have e2 : ((frR c i m).2 != 0) = true := bne_iff_ne.2 he
    generalize frR c i m = y at hfr HS e1 e2
    clear hwi he
    go_enter Try.func32, Try.ntmps32
    go_wp2_with (first
      | (go_at_call 52; (with_reducible refine Calls.mono (hfr _ (by (repeat (with_reducible first | assumption | exact Below.refl _ _ | refine bl_alloc ?_ _ | apply Below.drew | refine below_drewN ?_ _ | (apply bl_step2; assumption) | (refine Below.setCell ?_ (Nat.le_refl _) _) | (refine Below.setCell ?_ (by first | omega | (simp; done) | (go_simp; done)) _))))) ?_); rintro e w1 ⟨xa, xc, rfl, hb1⟩; have HR1 := Lib.hid (bk_alloc (bk_step HR.out hb1) (.cells #[.slice xa 0 xc, .int .i64 y.1.1, .int .i64 y.1.2] 26)); have HW1 := Lib.hid (bl_alloc (bl_step HW.out hb1) (.cells #[.slice xa 0 xc, .int .i64 y.1.1, .int .i64 y.1.2] 26)))
      | (refine wpList_store_rowTo rfl 28 (.tmp 6) (.tmp 19) rfl rfl (w.heap.size + 1) #[.int .i64 0, .slice none 0 0, .int .i64 0, .int .i64 0] rfl rfl 28 _ (HR1.out) tree_size rfl (tree_one _ _ _ _ _ _) ?_))
    show bodyPost Try.prog Try.f32 _ _ _ _
    refine bodyPost_ret (tree2_res rfl _ _ (w.heap.size + 1) _ _ _ _ _ _ _ rfl rfl (setRow_heap _ _ _ _ _ _ HR1.out)) rfl ?_
    rw [HS.out]
    exact RetTE.err (bl_setRow HW1.out (by omega) _)

set_option maxRecDepth 100000 in
set_option maxHeartbeats 2000000 in
theorem unmrk_w (h : Nat) (c : Cn) (A : Option Addr) (cap : Nat) (S : Nat → Prop) (i m : Int) (w : World) (hl : leafy c) (ht : TreeOk h c) (hcap : (cano h c).kids.length ≤ cap) (hk : NK w S A (cano h c).kids) (hS : ∀ b, w.heap.size ≤ b → S b) :
    Calls Try.prog 34 #[trV h A (cano h c).kids.length cap (cano h c).val (cano h c).marks, .int .i64 i, .int .i64 m] w (RetTE (unmarkR c i m).1 (unmarkR c i m).2 S w) := by
  have hwi := fun (j : Nat) xa xc y z w' (hj : j < 256) (hb : Below w.heap.size w w') (hz : w.heap.size + 1 < w'.heap.size) => with_w h c A cap (fun z => S z ∧ z ≠ w.heap.size + 1) j xa xc y z w' hj ht hcap ((hk.weak fun z hz h => ⟨h, by omega⟩).step hb) (fun b hb' => ⟨hS b (Nat.le_trans hb.size (by omega)), by omega⟩)
  have hfr := fun w' (hb : Below w.heap.size w w') => frame_w h c A cap S i m w' hl ht hcap (hk.step hb)
  obtain ⟨n, hn⟩ : ∃ n, (cano h c).kids.length = n := ⟨_, rfl⟩
  obtain ⟨v, hv⟩ : ∃ v, (cano h c).val = v := ⟨_, rfl⟩
  obtain ⟨mm, hm⟩ : ∃ m, (cano h c).marks = m := ⟨_, rfl⟩
  have hva := fun w' (hb : Below w.heap.size w w') => valid_w h (cano h c) A cap S w' (cano_ml _ _) hcap (hk.step hb)
  rw [valid_of hl ht] at hva
  have HT := Lib.hid ht
  have HC := Lib.hid hcap
  have HK := Lib.hid (fun w' (hb : Below w.heap.size w w') => hk.step hb)
  rw [hn, hv, hm] at hva ⊢
  have HX := Lib.hid (bk_alloc (heap_alloc_at w (.cells #[.int .i64 (h : Int), .slice A n cap, .int .i64 v, .int .i64 mm] 28)) (.cells #[.int .i64 0, .slice none 0 0, .int .i64 0, .int .i64 0] 28))
  have HR := Lib.hid (heap_at_new (w.alloc (.cells #[.int .i64 (h : Int), .slice A n cap, .int .i64 v, .int .i64 mm] 28)) (.cells #[.int .i64 0, .slice none 0 0, .int .i64 0, .int .i64 0] 28) (w.heap.size + 1) (by simp))
  have HW := Lib.hid (bl_alloc (bl_alloc (Below.refl w.heap.size w) (.cells #[.int .i64 (h : Int), .slice A n cap, .int .i64 v, .int .i64 mm] 28)) (.cells #[.int .i64 0, .slice none 0 0, .int .i64 0, .int .i64 0] 28))
  rw [hn, hv, hm] at hwi hfr
  clear hn hv hm hk hS hl ht hva
  by_cases he : (frR c i m).2 = 0
  · obtain ⟨h1, h2, h3, h4⟩ := fr_ok he
    obtain ⟨j, rfl⟩ := Int.eq_ofNat_of_zero_le (inB_t h1).1
    have hj := (inB_t h1).2
    have HS := Lib.hid (show unmarkR c j m = (upd c j ((c j).1, notI (c j).2 m), 0) by unfold unmarkR; rw [if_pos he, Int.toNat_natCast])
    have hwj := fun xa xc y z w' hb hz => hwi j xa xc y z w' (by omega) hb hz
    rw [h4, Int.toNat_natCast] at hfr
    clear hwi he h1 h2 h3 h4
    obtain ⟨y, hy⟩ : ∃ y, c j = y := ⟨_, rfl⟩
    rw [hy] at hfr HS
    clear hy
    go_enter Try.func34, Try.ntmps34
    go_wp2_with (first
      | (go_at_call 52; (with_reducible refine Calls.mono (hfr _ (by (repeat (with_reducible first | assumption | exact Below.refl _ _ | refine bl_alloc ?_ _ | apply Below.drew | refine below_drewN ?_ _ | (apply bl_step2; assumption) | (refine Below.setCell ?_ (Nat.le_refl _) _) | (refine Below.setCell ?_ (by first | omega | (simp; done) | (go_simp; done)) _))))) ?_); rintro e w1 ⟨xa, xc, rfl, hb1⟩; have HX1 := Lib.hid (bk_step HX.out hb1); have HR1 := Lib.hid (bk_step HR.out hb1); have HW1 := Lib.hid (bl_step HW.out hb1); have x0 := cells_at HX1.out 0; have x1 := cells_at HX1.out 1; have x2 := cells_at HX1.out 2; have x3 := cells_at HX1.out 3; simp only [List.getElem?_toArray, List.getElem?_cons_zero, List.getElem?_cons_succ] at x0 x1 x2 x3; have l1 := bk_lt HX1.out; have l2 := bk_lt HR1.out)
      | (go_at_call 55; (with_reducible refine Calls.mono (hwj _ _ _ _ _ (by (repeat (with_reducible first | assumption | exact Below.refl _ _ | refine bl_alloc ?_ _ | apply Below.drew | refine below_drewN ?_ _ | (apply bl_step2; assumption) | (refine Below.setCell ?_ (Nat.le_refl _) _) | (refine Below.setCell ?_ (by first | omega | (simp; done) | (go_simp; done)) _)))) (by simp; omega)) ?_); rintro e w2 ⟨h', A', cap', rfl, ht', hc', hk', hb2⟩; have HR2 := Lib.hid (bk_step (bk_alloc HR1.out _) hb2); have HW2 := Lib.hid (bl_step (bl_alloc HW1.out _) hb2))
      | (refine wpList_store_rowTo rfl 28 (.tmp 6) (.tmp 29) rfl rfl (w.heap.size + 1) #[.int .i64 (h' : Int), .slice A' (cano h' (upd c j (y.1, notI y.2 m))).kids.length cap', .int .i64 (cano h' (upd c j (y.1, notI y.2 m))).val, .int .i64 (cano h' (upd c j (y.1, notI y.2 m))).marks] rfl rfl 28 _ (HR2.out) tree_size rfl (tree_one _ _ _ _ _ _) ?_))
    show bodyPost Try.prog Try.f34 _ _ _ _
    refine bodyPost_ret (tree2_res rfl _ _ (w.heap.size + 1) _ _ _ _ _ _ _ rfl rfl (setRow_heap _ _ _ _ _ _ HR2.out)) rfl ?_
    rw [HS.out]
    exact ⟨h', A', cap', rfl, ht', hc', (hk'.kept (by simp [World.setRow]) (fun z hz _ => setRow_other _ _ _ _ hz.2)).weak fun _ _ h => h.1, bl_setRow HW2.out (by omega) _⟩
  · have HS := Lib.hid (show unmarkR c i m = (zeroC, (frR c i m).2) by unfold unmarkR; rw [if_neg he])
    have e1 : ((frR c i m).2 == 0) = false := beq_eq_false_iff_ne.2 he
    have e2 : ((frR c i m).2 != 0) = true := bne_iff_ne.2 he
    generalize frR c i m = y at hfr HS e1 e2
    clear hwi he
    go_enter Try.func34, Try.ntmps34
    go_wp2_with (first
      | (go_at_call 52; (with_reducible refine Calls.mono (hfr _ (by (repeat (with_reducible first | assumption | exact Below.refl _ _ | refine bl_alloc ?_ _ | apply Below.drew | refine below_drewN ?_ _ | (apply bl_step2; assumption) | (refine Below.setCell ?_ (Nat.le_refl _) _) | (refine Below.setCell ?_ (by first | omega | (simp; done) | (go_simp; done)) _))))) ?_); rintro e w1 ⟨xa, xc, rfl, hb1⟩; have HR1 := Lib.hid (bk_alloc (bk_step HR.out hb1) (.cells #[.slice xa 0 xc, .int .i64 y.1.1, .int .i64 y.1.2] 26)); have HW1 := Lib.hid (bl_alloc (bl_step HW.out hb1) (.cells #[.slice xa 0 xc, .int .i64 y.1.1, .int .i64 y.1.2] 26)))
      | (refine wpList_store_rowTo rfl 28 (.tmp 6) (.tmp 19) rfl rfl (w.heap.size + 1) #[.int .i64 0, .slice none 0 0, .int .i64 0, .int .i64 0] rfl rfl 28 _ (HR1.out) tree_size rfl (tree_one _ _ _ _ _ _) ?_))
    show bodyPost Try.prog Try.f34 _ _ _ _
    refine bodyPost_ret (tree2_res rfl _ _ (w.heap.size + 1) _ _ _ _ _ _ _ rfl rfl (setRow_heap _ _ _ _ _ _ HR1.out)) rfl ?_
    rw [HS.out]
    exact RetTE.err (bl_setRow HW1.out (by omega) _)

end Go.Proofs.Ytpoagdffpajdjaa
