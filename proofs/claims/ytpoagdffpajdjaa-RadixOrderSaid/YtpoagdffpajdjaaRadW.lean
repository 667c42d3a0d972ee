/-
  Mark and Unmark of the reference; its setters on trees that are not valid; Same; by contracts.
-/
import Derived.Test.YtpoagdffpajdjaaRadV
namespace Go.Proofs.Ytpoagdffpajdjaa
open Go.RowKit
set_option linter.unusedVariables false
set_option linter.unusedSimpArgs false

set_option maxHeartbeats 1000000 in
theorem rMark_w (h : Nat) (c : Cn) (A : Option Addr) (cap : Nat) (S : Nat → Prop) (i m : Int) (w : World) (hl : leafy c) (ht : TreeOk h c) (hcap : (cano h c).kids.length ≤ cap) (hk : NK w S A (cano h c).kids) (hS : ∀ b, w.heap.size ≤ b → S b) :
    Calls Try.prog 33 #[trV h A (cano h c).kids.length cap (cano h c).val (cano h c).marks, .int .i64 i, .int .i64 m] w (RetTE (markR c i m).1 (markR c i m).2 S w) := by
  have hch := fun w' (hb : Below w.heap.size w w') (hz : w.heap.size + 1 < w'.heap.size) => change_w true h c A cap (fun z => S z ∧ z ≠ w.heap.size + 1) i m w' hl ht hcap ((hk.weak fun z hz h => ⟨h, by omega⟩).step hb) (fun b hb' => ⟨hS b (Nat.le_trans hb.size (by omega)), by omega⟩)
  rw [show chR true c i m = markR c i m from rfl] at hch
  obtain ⟨n, hn⟩ : ∃ n, (cano h c).kids.length = n := ⟨_, rfl⟩
  obtain ⟨v, hv⟩ : ∃ v, (cano h c).val = v := ⟨_, rfl⟩
  obtain ⟨mm, hm⟩ : ∃ m, (cano h c).marks = m := ⟨_, rfl⟩
  rw [hn, hv, hm] at hch ⊢
  have HR := Lib.hid (heap_at_new (w.alloc (.cells #[.int .i64 (h : Int), .slice A n cap, .int .i64 v, .int .i64 mm] 28)) (.cells #[.int .i64 0, .slice none 0 0, .int .i64 0, .int .i64 0] 28) (w.heap.size + 1) (by simp))
  have HW := Lib.hid (bl_alloc (bl_alloc (Below.refl w.heap.size w) (.cells #[.int .i64 (h : Int), .slice A n cap, .int .i64 v, .int .i64 mm] 28)) (.cells #[.int .i64 0, .slice none 0 0, .int .i64 0, .int .i64 0] 28))
  generalize markR c i m = r at hch ⊢
  clear hn hv hm hk hS hl ht hcap
  go_enter Try.func33, Try.ntmps33
  go_wp2_with (first
    | (go_at_call 56; (with_reducible refine Calls.mono (hch _ (by (repeat (with_reducible first | assumption | exact Below.refl _ _ | refine bl_alloc ?_ _ | apply Below.drew | refine below_drewN ?_ _ | (apply bl_step2; assumption) | (refine Below.setCell ?_ (Nat.le_refl _) _) | (refine Below.setCell ?_ (by first | omega | (simp; done) | (go_simp; done)) _)))) (by simp)) ?_); rintro e w2 ⟨h', A', cap', rfl, ht', hc', hk', hb2⟩; have HR2 := Lib.hid (bk_step HR.out hb2); have HW2 := Lib.hid (bl_step HW.out hb2))
    | (refine wpList_store_rowTo rfl 28 (.tmp 6) (.tmp 12) rfl rfl (w.heap.size + 1) #[.int .i64 (h' : Int), .slice A' (cano h' r.1).kids.length cap', .int .i64 (cano h' r.1).val, .int .i64 (cano h' r.1).marks] rfl rfl 28 _ (HR2.out) tree_size rfl (tree_one _ _ _ _ _ _) ?_))
  show bodyPost Try.prog Try.f33 _ _ _ _
  refine bodyPost_ret (tree2_res rfl _ _ (w.heap.size + 1) _ _ _ _ _ _ _ rfl rfl (setRow_heap _ _ _ _ _ _ HR2.out)) rfl ?_
  exact ⟨h', A', cap', rfl, ht', hc', (hk'.kept (by simp [World.setRow]) (fun z hz _ => setRow_other _ _ _ _ hz.2)).weak fun _ _ h => h.1, bl_setRow HW2.out (by omega) _⟩
set_option maxHeartbeats 1000000 in
theorem rUnmark_w (h : Nat) (c : Cn) (A : Option Addr) (cap : Nat) (S : Nat → Prop) (i m : Int) (w : World) (hl : leafy c) (ht : TreeOk h c) (hcap : (cano h c).kids.length ≤ cap) (hk : NK w S A (cano h c).kids) (hS : ∀ b, w.heap.size ≤ b → S b) :
    Calls Try.prog 35 #[trV h A (cano h c).kids.length cap (cano h c).val (cano h c).marks, .int .i64 i, .int .i64 m] w (RetTE (unmarkR c i m).1 (unmarkR c i m).2 S w) := by
  have hch := fun w' (hb : Below w.heap.size w w') (hz : w.heap.size + 1 < w'.heap.size) => change_w false h c A cap (fun z => S z ∧ z ≠ w.heap.size + 1) i m w' hl ht hcap ((hk.weak fun z hz h => ⟨h, by omega⟩).step hb) (fun b hb' => ⟨hS b (Nat.le_trans hb.size (by omega)), by omega⟩)
  rw [show chR false c i m = unmarkR c i m from rfl] at hch
  obtain ⟨n, hn⟩ : ∃ n, (cano h c).kids.length = n := ⟨_, rfl⟩
  obtain ⟨v, hv⟩ : ∃ v, (cano h c).val = v := ⟨_, rfl⟩
  obtain ⟨mm, hm⟩ : ∃ m, (cano h c).marks = m := ⟨_, rfl⟩
  rw [hn, hv, hm] at hch ⊢
  have HR := Lib.hid (heap_at_new (w.alloc (.cells #[.int .i64 (h : Int), .slice A n cap, .int .i64 v, .int .i64 mm] 28)) (.cells #[.int .i64 0, .slice none 0 0, .int .i64 0, .int .i64 0] 28) (w.heap.size + 1) (by simp))
  have HW := Lib.hid (bl_alloc (bl_alloc (Below.refl w.heap.size w) (.cells #[.int .i64 (h : Int), .slice A n cap, .int .i64 v, .int .i64 mm] 28)) (.cells #[.int .i64 0, .slice none 0 0, .int .i64 0, .int .i64 0] 28))
  generalize unmarkR c i m = r at hch ⊢
  clear hn hv hm hk hS hl ht hcap
  go_enter Try.func35, Try.ntmps35
  go_wp2_with (first
    | (go_at_call 56; (with_reducible refine Calls.mono (hch _ (by (repeat (with_reducible first | assumption | exact Below.refl _ _ | refine bl_alloc ?_ _ | apply Below.drew | refine below_drewN ?_ _ | (apply bl_step2; assumption) | (refine Below.setCell ?_ (Nat.le_refl _) _) | (refine Below.setCell ?_ (by first | omega | (simp; done) | (go_simp; done)) _)))) (by simp)) ?_); rintro e w2 ⟨h', A', cap', rfl, ht', hc', hk', hb2⟩; have HR2 := Lib.hid (bk_step HR.out hb2); have HW2 := Lib.hid (bl_step HW.out hb2))
    | (refine wpList_store_rowTo rfl 28 (.tmp 6) (.tmp 12) rfl rfl (w.heap.size + 1) #[.int .i64 (h' : Int), .slice A' (cano h' r.1).kids.length cap', .int .i64 (cano h' r.1).val, .int .i64 (cano h' r.1).marks] rfl rfl 28 _ (HR2.out) tree_size rfl (tree_one _ _ _ _ _ _) ?_))
  show bodyPost Try.prog Try.f35 _ _ _ _
  refine bodyPost_ret (tree2_res rfl _ _ (w.heap.size + 1) _ _ _ _ _ _ _ rfl rfl (setRow_heap _ _ _ _ _ _ HR2.out)) rfl ?_
  exact ⟨h', A', cap', rfl, ht', hc', (hk'.kept (by simp [World.setRow]) (fun z hz _ => setRow_other _ _ _ _ hz.2)).weak fun _ _ h => h.1, bl_setRow HW2.out (by omega) _⟩

section
variable (hI : Int) (t : T) (A : Option Addr) (cap : Nat) (S : Nat → Prop) (w : World) (hm : t.kids.length ≤ maxLen) (hcap : t.kids.length ≤ cap) (hk : NK w S A t.kids) (hbad : validT hI t = false)
include hm hcap hk hbad
theorem rSet_bad (i y : Int) : Calls Try.prog 31 #[trV hI A t.kids.length cap t.val t.marks, .int .i64 i, .int .i64 y] w (RetTE zeroC 1 S w) := by
  have hva := fun w' (hb : Below w.heap.size w w') => rValid_w hI t A cap S w' hm hcap (hk.step hb)
  rw [hbad] at hva
  obtain ⟨n, hn⟩ : ∃ n, t.kids.length = n := ⟨_, rfl⟩
  obtain ⟨v, hv⟩ : ∃ v, t.val = v := ⟨_, rfl⟩
  obtain ⟨mm, hm'⟩ : ∃ m, t.marks = m := ⟨_, rfl⟩
  rw [hn, hv, hm'] at hva ⊢
  have HR := Lib.hid (heap_at_new (w.alloc (.cells #[.int .i64 hI, .slice A n cap, .int .i64 v, .int .i64 mm] 28)) (.cells #[.int .i64 0, .slice none 0 0, .int .i64 0, .int .i64 0] 28) (w.heap.size + 1) (by simp))
  have HW := Lib.hid (bl_alloc (bl_alloc (Below.refl w.heap.size w) (.cells #[.int .i64 hI, .slice A n cap, .int .i64 v, .int .i64 mm] 28)) (.cells #[.int .i64 0, .slice none 0 0, .int .i64 0, .int .i64 0] 28))
  clear hn hv hm' hk hbad hm hcap
  go_enter Try.func31, Try.ntmps31
  go_wp2_with (first
    | (go_at_call 16; (with_reducible refine Calls.mono (hva _ (by (repeat (with_reducible first | assumption | exact Below.refl _ _ | refine bl_alloc ?_ _ | apply Below.drew | refine below_drewN ?_ _ | (apply bl_step2; assumption) | (refine Below.setCell ?_ (Nat.le_refl _) _) | (refine Below.setCell ?_ (by first | omega | (simp; done) | (go_simp; done)) _))))) ?_); rintro e w1 ⟨rfl, hb1⟩; have HR1 := Lib.hid (bk_step HR.out hb1); have HW1 := Lib.hid (bl_step HW.out hb1))
    | (refine wpList_store_rowTo rfl 28 (.tmp 6) (.tmp 14) rfl rfl (w.heap.size + 1) #[.int .i64 0, .slice none 0 0, .int .i64 0, .int .i64 0] rfl rfl 28 _ (HR1.out) tree_size rfl (tree_one _ _ _ _ _ _) ?_))
  show bodyPost Try.prog Try.f31 _ _ _ _
  refine bodyPost_ret (tree2_res rfl _ _ (w.heap.size + 1) _ _ _ _ _ _ _ rfl rfl (setRow_heap _ _ _ _ _ _ HR1.out)) rfl ?_
  exact RetTE.err (bl_setRow HW1.out (by omega) _)
theorem change_bad (on : Bool) (i m : Int) : Calls Try.prog 56 #[trV hI A t.kids.length cap t.val t.marks, .int .i64 i, .int .i64 m, .bool on] w (RetTE zeroC 1 S w) := by
  have hva := fun w' (hb : Below w.heap.size w w') => rValid_w hI t A cap S w' hm hcap (hk.step hb)
  rw [hbad] at hva
  obtain ⟨n, hn⟩ : ∃ n, t.kids.length = n := ⟨_, rfl⟩
  obtain ⟨v, hv⟩ : ∃ v, t.val = v := ⟨_, rfl⟩
  obtain ⟨mm, hm'⟩ : ∃ m, t.marks = m := ⟨_, rfl⟩
  rw [hn, hv, hm'] at hva ⊢
  have HR := Lib.hid (heap_at_new (w.alloc (.cells #[.int .i64 hI, .slice A n cap, .int .i64 v, .int .i64 mm] 28)) (.cells #[.int .i64 0, .slice none 0 0, .int .i64 0, .int .i64 0] 28) (w.heap.size + 1) (by simp))
  have HW := Lib.hid (bl_alloc (bl_alloc (Below.refl w.heap.size w) (.cells #[.int .i64 hI, .slice A n cap, .int .i64 v, .int .i64 mm] 28)) (.cells #[.int .i64 0, .slice none 0 0, .int .i64 0, .int .i64 0] 28))
  clear hn hv hm' hk hbad hm hcap
  go_enter Try.func56, Try.ntmps56
  go_wp2_with (first
    | (go_at_call 16; (with_reducible refine Calls.mono (hva _ (by (repeat (with_reducible first | assumption | exact Below.refl _ _ | refine bl_alloc ?_ _ | apply Below.drew | refine below_drewN ?_ _ | (apply bl_step2; assumption) | (refine Below.setCell ?_ (Nat.le_refl _) _) | (refine Below.setCell ?_ (by first | omega | (simp; done) | (go_simp; done)) _))))) ?_); rintro e w1 ⟨rfl, hb1⟩; have HR1 := Lib.hid (bk_step HR.out hb1); have HW1 := Lib.hid (bl_step HW.out hb1))
    | (refine wpList_store_rowTo rfl 28 (.tmp 8) (.tmp 15) rfl rfl (w.heap.size + 1) #[.int .i64 0, .slice none 0 0, .int .i64 0, .int .i64 0] rfl rfl 28 _ (HR1.out) tree_size rfl (tree_one _ _ _ _ _ _) ?_))
  show bodyPost Try.prog Try.f56 _ _ _ _
  refine bodyPost_ret (tree2_res rfl _ _ (w.heap.size + 1) _ _ _ _ _ _ _ rfl rfl (setRow_heap _ _ _ _ _ _ HR1.out)) rfl ?_
  exact RetTE.err (bl_setRow HW1.out (by omega) _)
theorem rMark_bad (hS : ∀ b, w.heap.size ≤ b → S b) (i m : Int) : Calls Try.prog 33 #[trV hI A t.kids.length cap t.val t.marks, .int .i64 i, .int .i64 m] w (RetTE zeroC 1 S w) := by
  have hva := fun w' (hb : Below w.heap.size w w') => change_bad hI t A cap (fun z => S z ∧ z ≠ w.heap.size + 1) w' hm hcap ((hk.weak fun z hz h => ⟨h, by omega⟩).step hb) hbad true i m
  obtain ⟨n, hn⟩ : ∃ n, t.kids.length = n := ⟨_, rfl⟩
  obtain ⟨v, hv⟩ : ∃ v, t.val = v := ⟨_, rfl⟩
  obtain ⟨mm, hm'⟩ : ∃ m, t.marks = m := ⟨_, rfl⟩
  rw [hn, hv, hm'] at hva ⊢
  have HR := Lib.hid (heap_at_new (w.alloc (.cells #[.int .i64 hI, .slice A n cap, .int .i64 v, .int .i64 mm] 28)) (.cells #[.int .i64 0, .slice none 0 0, .int .i64 0, .int .i64 0] 28) (w.heap.size + 1) (by simp))
  have HW := Lib.hid (bl_alloc (bl_alloc (Below.refl w.heap.size w) (.cells #[.int .i64 hI, .slice A n cap, .int .i64 v, .int .i64 mm] 28)) (.cells #[.int .i64 0, .slice none 0 0, .int .i64 0, .int .i64 0] 28))
  clear hn hv hm' hk hbad hm hcap
  clear hS
  go_enter Try.func33, Try.ntmps33
  go_wp2_with (first
    | (go_at_call 56; (with_reducible refine Calls.mono (hva _ (by (repeat (with_reducible first | assumption | exact Below.refl _ _ | refine bl_alloc ?_ _ | apply Below.drew | refine below_drewN ?_ _ | (apply bl_step2; assumption) | (refine Below.setCell ?_ (Nat.le_refl _) _) | (refine Below.setCell ?_ (by first | omega | (simp; done) | (go_simp; done)) _))))) ?_); rintro e w2 ⟨h', A', cap', rfl, ht', hc', hk', hb2⟩; have HR2 := Lib.hid (bk_step HR.out hb2); have HW2 := Lib.hid (bl_step HW.out hb2))
    | (refine wpList_store_rowTo rfl 28 (.tmp 6) (.tmp 12) rfl rfl (w.heap.size + 1) #[.int .i64 (h' : Int), .slice A' (cano h' zeroC).kids.length cap', .int .i64 (cano h' zeroC).val, .int .i64 (cano h' zeroC).marks] rfl rfl 28 _ (HR2.out) tree_size rfl (tree_one _ _ _ _ _ _) ?_))
  show bodyPost Try.prog Try.f33 _ _ _ _
  refine bodyPost_ret (tree2_res rfl _ _ (w.heap.size + 1) _ _ _ _ _ _ _ rfl rfl (setRow_heap _ _ _ _ _ _ HR2.out)) rfl ?_
  exact ⟨h', A', cap', rfl, ht', hc', (hk'.kept (by simp [World.setRow]) (fun z hz _ => setRow_other _ _ _ _ hz.2)).weak fun _ _ h => h.1, bl_setRow HW2.out (by omega) _⟩
theorem rUnmark_bad (hS : ∀ b, w.heap.size ≤ b → S b) (i m : Int) : Calls Try.prog 35 #[trV hI A t.kids.length cap t.val t.marks, .int .i64 i, .int .i64 m] w (RetTE zeroC 1 S w) := by
  have hva := fun w' (hb : Below w.heap.size w w') => change_bad hI t A cap (fun z => S z ∧ z ≠ w.heap.size + 1) w' hm hcap ((hk.weak fun z hz h => ⟨h, by omega⟩).step hb) hbad false i m
  obtain ⟨n, hn⟩ : ∃ n, t.kids.length = n := ⟨_, rfl⟩
  obtain ⟨v, hv⟩ : ∃ v, t.val = v := ⟨_, rfl⟩
  obtain ⟨mm, hm'⟩ : ∃ m, t.marks = m := ⟨_, rfl⟩
  rw [hn, hv, hm'] at hva ⊢
  have HR := Lib.hid (heap_at_new (w.alloc (.cells #[.int .i64 hI, .slice A n cap, .int .i64 v, .int .i64 mm] 28)) (.cells #[.int .i64 0, .slice none 0 0, .int .i64 0, .int .i64 0] 28) (w.heap.size + 1) (by simp))
  have HW := Lib.hid (bl_alloc (bl_alloc (Below.refl w.heap.size w) (.cells #[.int .i64 hI, .slice A n cap, .int .i64 v, .int .i64 mm] 28)) (.cells #[.int .i64 0, .slice none 0 0, .int .i64 0, .int .i64 0] 28))
  clear hn hv hm' hk hbad hm hcap
  clear hS
  go_enter Try.func35, Try.ntmps35
  go_wp2_with (first
    | (go_at_call 56; (with_reducible refine Calls.mono (hva _ (by (repeat (with_reducible first | assumption | exact Below.refl _ _ | refine bl_alloc ?_ _ | apply Below.drew | refine below_drewN ?_ _ | (apply bl_step2; assumption) | (refine Below.setCell ?_ (Nat.le_refl _) _) | (refine Below.setCell ?_ (by first | omega | (simp; done) | (go_simp; done)) _))))) ?_); rintro e w2 ⟨h', A', cap', rfl, ht', hc', hk', hb2⟩; have HR2 := Lib.hid (bk_step HR.out hb2); have HW2 := Lib.hid (bl_step HW.out hb2))
    | (refine wpList_store_rowTo rfl 28 (.tmp 6) (.tmp 12) rfl rfl (w.heap.size + 1) #[.int .i64 (h' : Int), .slice A' (cano h' zeroC).kids.length cap', .int .i64 (cano h' zeroC).val, .int .i64 (cano h' zeroC).marks] rfl rfl 28 _ (HR2.out) tree_size rfl (tree_one _ _ _ _ _ _) ?_))
  show bodyPost Try.prog Try.f35 _ _ _ _
  refine bodyPost_ret (tree2_res rfl _ _ (w.heap.size + 1) _ _ _ _ _ _ _ rfl rfl (setRow_heap _ _ _ _ _ _ HR2.out)) rfl ?_
  exact ⟨h', A', cap', rfl, ht', hc', (hk'.kept (by simp [World.setRow]) (fun z hz _ => setRow_other _ _ _ _ hz.2)).weak fun _ _ h => h.1, bl_setRow HW2.out (by omega) _⟩
end

/-! ### Same -/
set_option maxRecDepth 100000 in
set_option maxHeartbeats 4000000 in
theorem same_step (ks : List T) (A B : Option Addr) (cap cap' : Nat) (y mm : Int) (w : World) (hn : ks.length ≤ 1000) (hc : ks.length ≤ cap) (hc' : ks.length ≤ cap') (hA : NK w Any A ks) (hB : NK w Any B ks)
    (hkid : ∀ (i : Nat) (k : T), ks[i]? = some k → ∀ w', Below w.heap.size w w' → ∀ A' B' c1 c2, NK w' Any A' k.kids → NK w' Any B' k.kids → k.kids.length ≤ c1 → k.kids.length ≤ c2 → Calls Try.prog 57 #[ndV A' k.kids.length c1 k.val k.marks, ndV B' k.kids.length c2 k.val k.marks] w' (RetB true w')) :
    Calls Try.prog 57 #[ndV A ks.length cap y mm, ndV B ks.length cap' y mm] w (RetB true w) := by
  have HA := Lib.hid (fun w' (hb : Below w.heap.size w w') => hA.step hb)
  have HB := Lib.hid (fun w' (hb : Below w.heap.size w w') => hB.step hb)
  have HKID := Lib.hid hkid
  obtain ⟨b, hb⟩ : ∃ b, b = w.heap.size := ⟨_, rfl⟩
  have HBe := Lib.hid hb
  obtain ⟨n, hnn⟩ : ∃ n, ks.length = n := ⟨_, rfl⟩
  have Hn := Lib.hid hnn
  rw [hnn] at hn hc hc' ⊢
  clear hA hB hkid hb hnn
  go_enter Try.func57, Try.ntmps57
  go_upto_region 1 with fail
  go_cut [2, 3, 4, 26] (fun s2 s3 s4 s26 wx => s2 = .pointer (some ⟨b, 0, none⟩) ∧ s3 = .pointer (some ⟨b + 1, 0, none⟩) ∧ s26 = .bool false ∧ wx.heap[b]? = some (.cells #[.slice A n cap, .int .i64 y, .int .i64 mm] 26 (0, 0)) ∧ wx.heap[b + 1]? = some (.cells #[.slice B n cap', .int .i64 y, .int .i64 mm] 26 (0, 0)) ∧ Below w.heap.size w wx)
  case first =>
    go_wp2
    go_meet
    case rel => exact ⟨by rw [HBe.out], by rw [HBe.out], rfl, by rw [HBe.out]; exact bk_alloc (heap_alloc_at _ _) _, by rw [HBe.out]; exact heap_at_new _ _ _ (by simp), bl_alloc (bl_alloc (Below.refl _ _) _) _⟩
  case rest =>
    obtain ⟨rfl, rfl, rfl, hX, hY, hW⟩ := hcut
    have HX := Lib.hid hX
    have HY := Lib.hid hY
    have HW := Lib.hid hW
    clear hX hY hW
    go_wp2
    go_loopw [5] (fun s5 wx => ∃ i : Nat, i ≤ n ∧ s5 = .int .i64 i ∧ wx.heap[b]? = some (.cells #[.slice A n cap, .int .i64 y, .int .i64 mm] 26 (0, 0)) ∧ wx.heap[b + 1]? = some (.cells #[.slice B n cap', .int .i64 y, .int .i64 mm] 26 (0, 0)) ∧ Below w.heap.size w wx) (fun s5 _ => n - (intOf s5).toNat)
    case atStart => exact ⟨0, by omega, rfl, HX.out, HY.out, HW.out⟩
    case round =>
      clear HX HY HW
      obtain ⟨i, hi, rfl, hX, hY, hW⟩ := hrel
      have HX := Lib.hid hX
      have HY := Lib.hid hY
      have HW := Lib.hid hW
      have x0 := cells_at hX 0
      have y0 := cells_at hY 0
      simp only [List.getElem?_toArray, List.getElem?_cons_zero] at x0 y0
      have lX := bk_lt hX
      have lY := bk_lt hY
      clear hX hY hW
      by_cases hlt : i < n
      · obtain ⟨p, o, k, A', c1, rfl, _, hpl, hik, hNC, hkm, hkc, hkk⟩ := (HA.out _ HW.out).at_ (i := i) (by rw [Hn.out]; exact hlt)
        obtain ⟨p2, o2, k2, B', c2, rfl, _, hpl2, hik2, hNC2, hkm2, hkc2, hkk2⟩ := (HB.out _ HW.out).at_ (i := i) (by rw [Hn.out]; exact hlt)
        rw [hik] at hik2
        injection hik2 with hik2
        subst hik2
        obtain ⟨a0, a1, a2⟩ := hNC
        obtain ⟨b0, b1, b2⟩ := hNC2
        have hsm := fun w' (hb : Below wr.heap.size wr w') => HKID.out i k hik w' (bl_step HW.out hb) A' B' c1 c2 ((hkk.step hb).weak fun _ _ _ => trivial) ((hkk2.step hb).weak fun _ _ _ => trivial) hkc hkc2
        have i0 : (0 : Int) ≤ (i : Int) := by omega
        have i1 : (i : Int) < (n : Int) := by omega
        clear hik hkk hkk2 hkm hkm2 hkc hkc2
        generalize k.kids.length = kn at *
        generalize k.val = kv at *
        generalize k.marks = km at *
        go_upto_region 6 with fail
        obtain ⟨W, hWe⟩ : ∃ W : World, W = wr := ⟨_, rfl⟩
        subst hWe
        refine wp_region_sp 11 46 [SP.eq (.pointer (some ⟨b, 0, none⟩)), SP.eq (.slice (some ⟨p, o, none⟩) n cap), SP.eq (.int .i64 i), SP.eq (.pointer (some ⟨p, o + i * 3, none⟩)), SP.eq (ndV A' kn c1 kv km), SP.eq (.pointer (some ⟨b + 1, 0, none⟩)), SP.eq (.slice (some ⟨p2, o2, none⟩) n cap'), SP.eq (.int .i64 i), SP.eq (.pointer (some ⟨p2, o2 + i * 3, none⟩)), SP.eq (ndV B' kn c2 kv km), SP.eq (.bool true)] (by kernel_rfl) (by kernel_rfl) rfl ?_
        simp only [List.take_succ_cons, List.take_zero, List.drop_succ_cons, List.drop_zero]
        refine relWalk_cons (fun x hC hd K hK => ?_) (fun v0 => ?_)
        · go_simp
          exact hK _ _ hC (Below.refl _ _) rfl
        simp only [Act.put, List.setIfInBounds_toArray, List.set_cons_zero, List.set_cons_succ]
        refine relWalk_cons (fun x hC hd K hK => ?_) (fun v1 => ?_)
        · obtain rfl : v0 = _ := hd 0 (by kernel_rfl)
          have q0 := (hC.cell (p := ⟨b, _, none⟩) lX).trans x0
          go_simp
          exact hK _ _ hC (Below.refl _ _) rfl
        simp only [Act.put, List.setIfInBounds_toArray, List.set_cons_zero, List.set_cons_succ]
        refine relWalk_cons (fun x hC hd K hK => ?_) (fun v2 => ?_)
        · go_simp
          exact hK _ _ hC (Below.refl _ _) rfl
        simp only [Act.put, List.setIfInBounds_toArray, List.set_cons_zero, List.set_cons_succ]
        refine relWalk_cons (fun x hC hd K hK => ?_) (fun v3 => ?_)
        · obtain rfl : v1 = _ := hd 1 (by kernel_rfl)
          obtain rfl : v2 = _ := hd 2 (by kernel_rfl)
          go_simp
          exact hK _ _ hC (Below.refl _ _) rfl
        simp only [Act.put, List.setIfInBounds_toArray, List.set_cons_zero, List.set_cons_succ]
        refine relWalk_cons (fun x hC hd K hK => ?_) (fun v4 => ?_)
        · obtain rfl : v3 = _ := hd 3 (by kernel_rfl)
          have q0 := (hC.cell (p := ⟨p, _, none⟩) hpl).trans a0
          have q1 := (hC.cell (p := ⟨p, _, none⟩) hpl).trans a1
          have q2 := (hC.cell (p := ⟨p, _, none⟩) hpl).trans a2
          go_simp
          exact hK _ _ hC (Below.refl _ _) rfl
        simp only [Act.put, List.setIfInBounds_toArray, List.set_cons_zero, List.set_cons_succ]
        refine relWalk_cons (fun x hC hd K hK => ?_) (fun v5 => ?_)
        · go_simp
          exact hK _ _ hC (Below.refl _ _) rfl
        simp only [Act.put, List.setIfInBounds_toArray, List.set_cons_zero, List.set_cons_succ]
        refine relWalk_cons (fun x hC hd K hK => ?_) (fun v6 => ?_)
        · obtain rfl : v5 = _ := hd 5 (by kernel_rfl)
          have q0 := (hC.cell (p := ⟨b + 1, _, none⟩) lY).trans y0
          go_simp
          exact hK _ _ hC (Below.refl _ _) rfl
        simp only [Act.put, List.setIfInBounds_toArray, List.set_cons_zero, List.set_cons_succ]
        refine relWalk_cons (fun x hC hd K hK => ?_) (fun v7 => ?_)
        · go_simp
          exact hK _ _ hC (Below.refl _ _) rfl
        simp only [Act.put, List.setIfInBounds_toArray, List.set_cons_zero, List.set_cons_succ]
        refine relWalk_cons (fun x hC hd K hK => ?_) (fun v8 => ?_)
        · obtain rfl : v6 = _ := hd 6 (by kernel_rfl)
          obtain rfl : v7 = _ := hd 7 (by kernel_rfl)
          go_simp
          exact hK _ _ hC (Below.refl _ _) rfl
        simp only [Act.put, List.setIfInBounds_toArray, List.set_cons_zero, List.set_cons_succ]
        refine relWalk_cons (fun x hC hd K hK => ?_) (fun v9 => ?_)
        · obtain rfl : v8 = _ := hd 8 (by kernel_rfl)
          have q0 := (hC.cell (p := ⟨p2, _, none⟩) hpl2).trans b0
          have q1 := (hC.cell (p := ⟨p2, _, none⟩) hpl2).trans b1
          have q2 := (hC.cell (p := ⟨p2, _, none⟩) hpl2).trans b2
          go_simp
          exact hK _ _ hC (Below.refl _ _) rfl
        simp only [Act.put, List.setIfInBounds_toArray, List.set_cons_zero, List.set_cons_succ]
        refine relWalk_cons (fun x hC hd K hK => ?_) (fun v10 => ?_)
        · obtain rfl : v4 = _ := hd 4 (by kernel_rfl)
          obtain rfl : v9 = _ := hd 9 (by kernel_rfl)
          go_simp
          go_at_call 57
          refine (hsm x hC).mono ?_
          rintro e w1 ⟨rfl, hb1⟩
          exact hK _ _ (bl_step hC hb1) hb1 rfl
        simp only [Act.put, List.setIfInBounds_toArray, List.set_cons_zero, List.set_cons_succ]
        refine relWalk_nil ?_
        intro x hC hG
        obtain rfl : v10 = _ := hG 10 (by omega)
        have HX2 := Lib.hid (bk_step HX.out hC)
        have HY2 := Lib.hid (bk_step HY.out hC)
        have HW2 := Lib.hid (bl_step HW.out hC)
        clear hG hC x0 y0 a0 a1 a2 b0 b1 b2 hsm
        go_wp2
        go_roundw
        case rel => exact ⟨i + 1, by omega, by go_num, HX2.out, HY2.out, HW2.out⟩
        case measure => simp [intOf]; omega
      · obtain rfl : i = n := by omega
        go_wp2
        go_ret
        exact ⟨rfl, HW.out⟩
theorem sameNode_w : ∀ (h : Nat) (t : T), dep h t → ∀ (A B : Option Addr) (c1 c2 : Nat) (w : World), t.kids.length ≤ c1 → t.kids.length ≤ c2 → NK w Any A t.kids → NK w Any B t.kids →
    Calls Try.prog 57 #[ndV A t.kids.length c1 t.val t.marks, ndV B t.kids.length c2 t.val t.marks] w (RetB true w)
  | 0, .mk ks v m, hd, A, B, c1, c2, w, h1, h2, hA, hB => same_step ks A B c1 c2 v m w (by have : ks = [] := hd; rw [this]; simp) h1 h2 hA hB (fun i k hi => by have : ks = [] := hd; rw [this] at hi; simp at hi)
  | h + 1, .mk ks v m, hd, A, B, c1, c2, w, h1, h2, hA, hB => same_step ks A B c1 c2 v m w hd.1 h1 h2 hA hB (fun i k hi w' hb A' B' d1 d2 hA' hB' g1 g2 => sameNode_w h k (hd.2 i k hi) A' B' d1 d2 w' g1 g2 hA' hB')
set_option maxHeartbeats 1000000 in
theorem same_w (h : Nat) (c : Cn) (A B : Option Addr) (c1 c2 : Nat) (w : World) (h1 : (cano h c).kids.length ≤ c1) (h2 : (cano h c).kids.length ≤ c2) (hA : NK w Any A (cano h c).kids) (hB : NK w Any B (cano h c).kids) :
    Calls Try.prog 36 #[trV h A (cano h c).kids.length c1 (cano h c).val (cano h c).marks, trV h B (cano h c).kids.length c2 (cano h c).val (cano h c).marks] w (RetB true w) := by
  have hsn := fun w' (hb : Below w.heap.size w w') => sameNode_w h (cano h c) (dep_cano h c) A B c1 c2 w' h1 h2 (hA.step hb) (hB.step hb)
  obtain ⟨n, hn⟩ : ∃ n, (cano h c).kids.length = n := ⟨_, rfl⟩
  obtain ⟨v, hv⟩ : ∃ v, (cano h c).val = v := ⟨_, rfl⟩
  obtain ⟨mm, hm⟩ : ∃ m, (cano h c).marks = m := ⟨_, rfl⟩
  rw [hn, hv, hm] at hsn ⊢
  have HW := Lib.hid (bl_alloc (bl_alloc (Below.refl w.heap.size w) (.cells #[.int .i64 (h : Int), .slice A n c1, .int .i64 v, .int .i64 mm] 28)) (.cells #[.int .i64 (h : Int), .slice B n c2, .int .i64 v, .int .i64 mm] 28))
  clear hn hv hm hA hB h1 h2
  go_enter Try.func36, Try.ntmps36
  go_wp2_with (go_at_call 57; (with_reducible refine Calls.mono (hsn _ (by (repeat (with_reducible first | assumption | exact Below.refl _ _ | refine bl_alloc ?_ _ | apply Below.drew | refine below_drewN ?_ _ | (apply bl_step2; assumption) | (refine Below.setCell ?_ (Nat.le_refl _) _) | (refine Below.setCell ?_ (by first | omega | (simp; done) | (go_simp; done)) _))))) ?_); rintro e w1 ⟨rfl, hb1⟩)
  go_ret
  exact ⟨rfl, bl_step HW.out hb1⟩

end Go.Proofs.Ytpoagdffpajdjaa
