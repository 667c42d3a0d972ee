/-
  Lemmas and contracts for the laws of synchronisations (layer 43), part 1; several texts joined by a program.
-/
import Derived.Test.YthhekebemmckcaaGreatDoorRows
import Derived.BigQuiet
import Derived.BigRegion
import Derived.Deep.AppendLies
import Derived.Deep.CutBlock
import Derived.Deep.DeepCutAuto
import Derived.Deep.QuietTactic
import Derived.Deep.RegionHeld3
import Derived.Great.BuildSlice
import Derived.Lib.Hide
import Derived.StillTail
import Derived.WalkKit
import Derived.WalkLawsBesides
import Derived.WalkSpells
namespace Go.Proofs.YthhekebemmckcaaGreatDoor
set_option linter.unusedVariables false
set_option linter.unusedSimpArgs false
set_option maxRecDepth 100000
set_option maxHeartbeats 16000000
open Go.RowKit
section
theorem ret_bool {a b:Bool} (h:a=b):Ending.returned (.bool a) = .returned (.bool b):=by rw [h]
theorem ret_int {k:IntKind} {a b:Int} (h:a=b):Ending.returned (.int k a) = .returned (.int k b):=by rw [h]
theorem Calls.quiet_of_eq {P:Program} {f:FuncId} {args:Array Value} {w:World} {n:Nat} {v:Value}
  (h:Calls P f args (w.drewN n) fun e w'=>e = .returned v∧w.drewN n=w'):Calls P f args (w.drewN n) fun e w''=>e = .returned v∧∃m,w''=w.drewN m:=
 h.mono fun _ _ ⟨he,hm⟩=>⟨he,n,hm.symm⟩
def cutI (x n:Int):Int:=x % 18446744073709551616 % n
theorem cutI_range (x n:Int) (h:1≤n):0≤cutI x n∧cutI x n<n:=
 ⟨Int.emod_nonneg _ (by omega),Int.emod_lt_of_pos _ (by omega)⟩
theorem cutI_eq (x n:Int) (h1:1≤n) (h2:n≤9223372036854775807):wrap64 ((IntKind.u64.wrap x).tmod n)=cutI x n:=by
 have hr:=cutI_range x n h1
 rw [IntKind.wrap_u64,Int.tmod_eq_emod_of_nonneg (by omega)]
 exact IntWalk.wrap64_in _ (by unfold cutI at hr;omega)
theorem drew_set (w:World) (a b:Nat) (p:Addr) (v:Value):((w.drewN a).setCell p v).drewN b=(w.setCell p v).drewN (a+b):=by
 simp [World.drewN,World.setCell,Nat.add_assoc]
theorem cells_at {w:World} {b:Nat} {cs:Array Value} {t:TypeId} (h:w.heap[b]?=some (.cells cs t (0,0))) (i:Nat):w.cell? ⟨b,i,none⟩=cs[i]?:=by simp [World.cell?,h]
theorem free_at {w:World} {b:Nat} {cs:Array Value} {t:TypeId} (h:w.heap[b]?=some (.cells cs t (0,0))) (i:Nat):w.frozen? ⟨b,i,none⟩=false:=by simp [World.frozen?,h]
theorem grownBy_drewN (w:World) (m:Nat) (row:Option Nat):w.grownBy (w.drewN m) row:=⟨rfl,rfl,rfl,Nat.le_refl _,fun _ _ _=>rfl⟩
theorem grownBy_setCell (w:World) (p:Addr) (v:Value):w.grownBy (w.setCell p v) (some p.block):=
 ⟨rfl,rfl,rfl,by simp [World.setCell],fun k _ hk=>by
  simp only [World.setCell,Array.getElem?_modify]
  rw [if_neg (fun e=>hk (by rw [e]))]⟩
theorem grownBy_trans {a b c:World} {row:Option Nat} (h:a.grownBy b row) (k:b.grownBy c row):a.grownBy c row:=
 ⟨k.os.trans h.os,k.tape.trans h.tape,k.output.trans h.output,Nat.le_trans h.size k.size,fun i hi hr=>(k.block i (Nat.lt_of_lt_of_le hi h.size) hr).trans (h.block i hi hr)⟩
theorem ints_cell (w:World) (l:List Int) (t:TypeId) (i:Nat) (hi:i<l.length) :
  (w.alloc (.cells (l.map (Value.int .i64)).toArray t)).cell? ⟨w.heap.size,i,none⟩=some (.int .i64 l[i]):=by
 have e:(w.alloc (.cells (l.map (Value.int .i64)).toArray t)).heap[w.heap.size]?=some (.cells (l.map (Value.int .i64)).toArray t (0,0)):=by show (w.heap.push _)[w.heap.size]?=_;simp
 rw [cells_at e];simp [hi]
def IsRow (k:IntKind) (w:World) (a:Option Addr) (len cap:Nat) (zs:List Int):Prop:=
 (a=none∧len=0∧cap=0∧zs=[])∨
 ∃x,a=some x∧len≤cap∧cap≤maxLen∧zs.length=cap∧(∀i,i<zs.length→w.cell? (x.add i)=some (.int k (zs.getD i 0)))∧∀n ∈ zs,(Lit.int k n).wf=true
theorem kept {W w1:World} (hb:Below W.heap.size W w1) :
  (∀b o,b<W.heap.size→w1.cell? ⟨b,o,none⟩=W.cell? ⟨b,o,none⟩)∧(∀b o,b<W.heap.size→w1.frozen? ⟨b,o,none⟩=W.frozen? ⟨b,o,none⟩)∧
  (∀k,k<W.heap.size→k<w1.heap.size)∧(∀k,k<W.heap.size→k≤w1.heap.size)∧(∀k,k<W.heap.size→¬k=w1.heap.size)∧(∀k,k<W.heap.size→¬w1.heap.size=k)∧
  (∀k,k≤W.heap.size→k≤w1.heap.size)∧(∀k,k<W.heap.size→k<w1.heap.size+1)∧(∀k,k<W.heap.size→k<w1.heap.size+1+1):=
 ⟨fun b o h=>hb.cell (p:=⟨b,o,none⟩) h,fun b o h=>hb.frozen (p:=⟨b,o,none⟩) h,fun k h=>Nat.lt_of_lt_of_le h hb.size,fun k h=>Nat.le_trans (Nat.le_of_lt h) hb.size,
  fun k h=>by have:=hb.size;omega,fun k h=>by have:=hb.size;omega,fun k h=>Nat.le_trans h hb.size,fun k h=>by have:=hb.size;omega,fun k h=>by have:=hb.size;omega⟩
theorem keptG {c:Nat} {W w1:World} (hg:W.grownBy w1 (some c)) :
  (∀b o,b<W.heap.size→¬b=c→w1.cell? ⟨b,o,none⟩=W.cell? ⟨b,o,none⟩)∧(∀b o,b<W.heap.size→¬b=c→w1.frozen? ⟨b,o,none⟩=W.frozen? ⟨b,o,none⟩)∧
  (∀k,k<W.heap.size→k<w1.heap.size)∧(∀k,k<W.heap.size→k≤w1.heap.size)∧(∀k,k<W.heap.size→¬k=w1.heap.size)∧(∀k,k<W.heap.size→¬w1.heap.size=k)∧
  (∀k,k≤W.heap.size→k≤w1.heap.size)∧(∀k,k<W.heap.size→k<w1.heap.size+1)∧(∀k,k<W.heap.size→k<w1.heap.size+1+1):=
 ⟨fun b o h hn=>World.cell?_of_block (a:=⟨b,o,none⟩) (hg.block b h (by simpa using hn)),fun b o h hn=>World.frozen?_of_block (a:=⟨b,o,none⟩) (hg.block b h (by simpa using hn)),
  fun k h=>Nat.lt_of_lt_of_le h hg.size,fun k h=>Nat.le_trans (Nat.le_of_lt h) hg.size,fun k h=>by have:=hg.size;omega,fun k h=>by have:=hg.size;omega,fun k h=>Nat.le_trans h hg.size,fun k h=>by have:=hg.size;omega,fun k h=>by have:=hg.size;omega⟩
theorem bl_step {W0 W w1:World} (h:Below W0.heap.size W0 W) (hb:Below W.heap.size W w1):Below W0.heap.size W0 w1:=h.trans (hb.mono h.size)
theorem bl_step2 {W0 W w1:World} (hb:Below W.heap.size W w1) (h:Below W0.heap.size W0 W):Below W0.heap.size W0 w1:=bl_step h hb
theorem bl_alloc {W0 X:World} (h:Below W0.heap.size W0 X) (o:Obj):Below W0.heap.size W0 (X.alloc o):=h.alloc h.size o
def RetB (b:Bool) (w:World) (e:Ending) (w':World):Prop:=e = .returned (.bool b)∧Below w.heap.size w w'
def RetI (n:Int) (w:World) (e:Ending) (w':World):Prop:=e = .returned (.int .i64 n)∧Below w.heap.size w w'
end
section
section
variable {w : World} {b : Nat} {t : TypeId} {a0 a1 a2 a3 a4 a5 a6 a7 a8 : Value} {l : List Value}
theorem cs1 (h : w.heap[b]? = some (.cells (List.toArray (a0 :: l)) t (0, 0))) : w.cell? ⟨b, 0, none⟩ = some a0 := cells_at h 0
theorem cs2 (h : w.heap[b]? = some (.cells (List.toArray (a0 :: a1 :: l)) t (0, 0))) : w.cell? ⟨b, 0, none⟩ = some a0 ∧ w.cell? ⟨b, 1, none⟩ = some a1 := ⟨cells_at h 0, cells_at h 1⟩
theorem cs3 (h : w.heap[b]? = some (.cells (List.toArray (a0 :: a1 :: a2 :: l)) t (0, 0))) : w.cell? ⟨b, 0, none⟩ = some a0 ∧ w.cell? ⟨b, 1, none⟩ = some a1 ∧ w.cell? ⟨b, 2, none⟩ = some a2 := ⟨cells_at h 0, cells_at h 1, cells_at h 2⟩
theorem cs4 (h : w.heap[b]? = some (.cells (List.toArray (a0 :: a1 :: a2 :: a3 :: l)) t (0, 0))) : w.cell? ⟨b, 0, none⟩ = some a0 ∧ w.cell? ⟨b, 1, none⟩ = some a1 ∧ w.cell? ⟨b, 2, none⟩ = some a2 ∧ w.cell? ⟨b, 3, none⟩ = some a3 := ⟨cells_at h 0, cells_at h 1, cells_at h 2, cells_at h 3⟩
theorem cs5 (h : w.heap[b]? = some (.cells (List.toArray (a0 :: a1 :: a2 :: a3 :: a4 :: l)) t (0, 0))) : w.cell? ⟨b, 0, none⟩ = some a0 ∧ w.cell? ⟨b, 1, none⟩ = some a1 ∧ w.cell? ⟨b, 2, none⟩ = some a2 ∧ w.cell? ⟨b, 3, none⟩ = some a3 ∧ w.cell? ⟨b, 4, none⟩ = some a4 := ⟨cells_at h 0, cells_at h 1, cells_at h 2, cells_at h 3, cells_at h 4⟩
theorem cs6 (h : w.heap[b]? = some (.cells (List.toArray (a0 :: a1 :: a2 :: a3 :: a4 :: a5 :: l)) t (0, 0))) : w.cell? ⟨b, 0, none⟩ = some a0 ∧ w.cell? ⟨b, 1, none⟩ = some a1 ∧ w.cell? ⟨b, 2, none⟩ = some a2 ∧ w.cell? ⟨b, 3, none⟩ = some a3 ∧ w.cell? ⟨b, 4, none⟩ = some a4 ∧ w.cell? ⟨b, 5, none⟩ = some a5 := ⟨cells_at h 0, cells_at h 1, cells_at h 2, cells_at h 3, cells_at h 4, cells_at h 5⟩
theorem cs7 (h : w.heap[b]? = some (.cells (List.toArray (a0 :: a1 :: a2 :: a3 :: a4 :: a5 :: a6 :: l)) t (0, 0))) : w.cell? ⟨b, 0, none⟩ = some a0 ∧ w.cell? ⟨b, 1, none⟩ = some a1 ∧ w.cell? ⟨b, 2, none⟩ = some a2 ∧ w.cell? ⟨b, 3, none⟩ = some a3 ∧ w.cell? ⟨b, 4, none⟩ = some a4 ∧ w.cell? ⟨b, 5, none⟩ = some a5 ∧ w.cell? ⟨b, 6, none⟩ = some a6 := ⟨cells_at h 0, cells_at h 1, cells_at h 2, cells_at h 3, cells_at h 4, cells_at h 5, cells_at h 6⟩
theorem cs8 (h : w.heap[b]? = some (.cells (List.toArray (a0 :: a1 :: a2 :: a3 :: a4 :: a5 :: a6 :: a7 :: l)) t (0, 0))) : w.cell? ⟨b, 0, none⟩ = some a0 ∧ w.cell? ⟨b, 1, none⟩ = some a1 ∧ w.cell? ⟨b, 2, none⟩ = some a2 ∧ w.cell? ⟨b, 3, none⟩ = some a3 ∧ w.cell? ⟨b, 4, none⟩ = some a4 ∧ w.cell? ⟨b, 5, none⟩ = some a5 ∧ w.cell? ⟨b, 6, none⟩ = some a6 ∧ w.cell? ⟨b, 7, none⟩ = some a7 := ⟨cells_at h 0, cells_at h 1, cells_at h 2, cells_at h 3, cells_at h 4, cells_at h 5, cells_at h 6, cells_at h 7⟩
theorem cs9 (h : w.heap[b]? = some (.cells (List.toArray (a0 :: a1 :: a2 :: a3 :: a4 :: a5 :: a6 :: a7 :: a8 :: l)) t (0, 0))) : w.cell? ⟨b, 0, none⟩ = some a0 ∧ w.cell? ⟨b, 1, none⟩ = some a1 ∧ w.cell? ⟨b, 2, none⟩ = some a2 ∧ w.cell? ⟨b, 3, none⟩ = some a3 ∧ w.cell? ⟨b, 4, none⟩ = some a4 ∧ w.cell? ⟨b, 5, none⟩ = some a5 ∧ w.cell? ⟨b, 6, none⟩ = some a6 ∧ w.cell? ⟨b, 7, none⟩ = some a7 ∧ w.cell? ⟨b, 8, none⟩ = some a8 := ⟨cells_at h 0, cells_at h 1, cells_at h 2, cells_at h 3, cells_at h 4, cells_at h 5, cells_at h 6, cells_at h 7, cells_at h 8⟩
end
section
variable {ops : Array Oper} {rest : List Oper} {o : Oper} {a : Act} {w : World} {Q : Exit → Act → World → Prop} {old : Array Value}
theorem st_ck (hgd : o.guard = none) (x y : Operand) (ho : o.op = .store 30 x y) (hd : o.dst = none) (g : Nat) {A B C D E F G : Option Addr} {a1 b1 c1 d1 e1 f1 g1 a2 b2 c2 d2 e2 f2 g2 : Nat}
    (hx : a.eval x = .pointer (some ⟨g, 0, none⟩)) (hy : a.eval y = .agg #[.slice A a1 a2, .slice B b1 b2, .slice C c1 c2, .slice D d1 d2, .slice E e1 e2, .slice F f1 f2, .slice G g1 g2]) (hg : w.heap[g]? = some (.cells old 30 (0, 0))) (hold : old.size = 7)
    (h : wpList Tryz.prog ops Q rest a (w.setRow g #[.slice A a1 a2, .slice B b1 b2, .slice C c1 c2, .slice D d1 d2, .slice E e1 e2, .slice F f1 f2, .slice G g1 g2])) : wpList Tryz.prog ops Q (o :: rest) a w :=
  wpList_store_rowTo hgd 30 x y ho hd g _ hx hy 30 old hg (by kernel_rfl) hold (by simp [Value.oneCell']) h
theorem st_sy (hgd : o.guard = none) (x y : Operand) (ho : o.op = .store 37 x y) (hd : o.dst = none) (g : Nat) {i j k : Int} {A B : Option Addr} {a1 b1 a2 b2 : Nat} {f : Bool}
    (hx : a.eval x = .pointer (some ⟨g, 0, none⟩)) (hy : a.eval y = .agg #[.int .i64 i, .int .i64 j, .int .i64 k, .slice A a1 a2, .slice B b1 b2, .bool f]) (hg : w.heap[g]? = some (.cells old 37 (0, 0))) (hold : old.size = 6)
    (h : wpList Tryz.prog ops Q rest a (w.setRow g #[.int .i64 i, .int .i64 j, .int .i64 k, .slice A a1 a2, .slice B b1 b2, .bool f])) : wpList Tryz.prog ops Q (o :: rest) a w :=
  wpList_store_rowTo hgd 37 x y ho hd g _ hx hy 37 old hg (by kernel_rfl) hold (by simp [Value.oneCell']) h
end
/-- Membership, for what a store waits for. -/
def inL (l : List Nat) (i : Nat) : Bool := l.contains i
theorem two_box {w W : World} {c1 c2 : Array Value} {t1 t2 : TypeId} (h : (w.alloc (.cells c1 t1)).alloc (.cells c2 t2) = W) :
    Hid (W.heap[w.heap.size]? = some (.cells c1 t1 (0, 0))) ∧ Hid (W.heap[w.heap.size + 1]? = some (.cells c2 t2 (0, 0))) ∧ Hid (Below w.heap.size w W) ∧ W.heap.size = w.heap.size + 1 + 1 := by
  subst h
  have hb := bl_alloc (Below.refl w.heap.size w) (.cells c1 t1)
  refine ⟨Lib.hid ?_, Lib.hid ?_, Lib.hid (bl_alloc hb (.cells c2 t2)), by simp⟩
  · have e : ∀ (W : World) (o : Obj), (W.alloc o).heap = W.heap.push o := fun _ _ => rfl
    rw [e, e, Array.getElem?_push, if_neg (by simp), Array.getElem?_push, if_pos rfl]
  · have e : ∀ (W : World) (o : Obj), (W.alloc o).heap = W.heap.push o := fun _ _ => rfl
    rw [e, e, Array.getElem?_push, if_pos (by simp)]
abbrev oCZ : Obj := .cells #[.slice none 0 0, .slice none 0 0, .slice none 0 0, .slice none 0 0, .slice none 0 0, .slice none 0 0, .slice none 0 0] 30 (0, 0)
abbrev oSZ : Obj := .cells #[.int .i64 0, .int .i64 0, .int .i64 0, .slice none 0 0, .slice none 0 0, .bool false] 37 (0, 0)
abbrev oRZ : Obj := .cells #[.int .i64 0, .int .i64 0, .int .i64 0, .int .i64 0, .int .i64 0, .int .i64 0, .string ⟨#[]⟩, .bool false, .bool false, .int .i64 0] 97 (0, 0)
abbrev r7 (gf nf cf gr nr cr : Nat) (c d : Value) (gl nl cl gk nk ck : Nat) (g : Value) : Array Value := #[.slice (some ⟨gf, 0, none⟩) nf cf, .slice (some ⟨gr, 0, none⟩) nr cr, c, d, .slice (some ⟨gl, 0, none⟩) nl cl, .slice (some ⟨gk, 0, none⟩) nk ck, g]
theorem ly : (∀ (a : Act) (t : Tmp) (v : Value), a.put (some t) v = { a with tmps := a.tmps.setIfInBounds t v }) ∧ (∀ (a : Act) (v : Value), a.put none v = a) ∧ (∀ (l : List Value) (i : Nat) (x : Value), l.toArray.setIfInBounds i x = (l.set i x).toArray) ∧
    (∀ (y : Value) (l : List Value) (x : Value), (y :: l).set 0 x = x :: l) ∧ (∀ (y : Value) (l : List Value) (n : Nat) (x : Value), (y :: l).set (n + 1) x = y :: l.set n x) :=
  ⟨fun _ _ _ => rfl, fun _ _ => rfl, fun _ _ _ => by simp, fun _ _ _ => rfl, fun _ _ _ _ => rfl⟩
theorem s1set {S : Nat → Prop} {n : Nat} (hS : ∀ z, n ≤ z → S z) : ∃ S1 : Nat → Prop, (∀ z, S1 z → S z ∧ z ≠ n ∧ z ≠ n + 1) ∧ (∀ z, n + 1 < z → S1 z) ∧ (∀ z, z < n → S z → S1 z) :=
  ⟨fun z => S z ∧ z ≠ n ∧ z ≠ n + 1, fun _ h => h, fun z hz => ⟨hS z (by omega), by omega, by omega⟩, fun z hz h => ⟨h, by omega, by omega⟩⟩
theorem nah {w W : World} {o : Obj} (h : w.alloc o = W) : Hid (W.heap[w.heap.size]? = some o) := by subst h; exact Lib.hid (heap_alloc_new w o)
theorem lah {w0 w W : World} {o : Obj} (h : w.alloc o = W) (hb : Hid (Below w0.heap.size w0 w)) : Hid (Below w0.heap.size w0 W) := by subst h; exact Lib.hid (bl_alloc hb.out o)
theorem B_ {n : Nat} {w : World} : Below n w w := Below.refl n w
theorem CM {P : Program} {f : FuncId} {args : Array Value} {w : World} {Q Q' : Ending → World → Prop} (h : Calls P f args w Q) (hq : ∀ e w', Q e w' → Q' e w') : Calls P f args w Q' := Calls.mono h hq
theorem g_l {α : Type} {l : List α} {i : Nat} {x : α} (h : l[i]? = some x) : i < l.length := (List.getElem?_eq_some_iff.1 h).1
theorem dF {p : Prop} [Decidable p] (h : ¬ p) : decide p = false := decide_eq_false h
theorem dT {p : Prop} [Decidable p] (h : p) : decide p = true := decide_eq_true h
theorem H_ {p : Prop} (h : p) : Hid p := h
theorem bkh {w w' : World} {g : Nat} {x : Obj} (h : Hid (w.heap[g]? = some x)) (hb : Below w.heap.size w w') : Hid (w'.heap[g]? = some x) := Lib.hid ((hb.block _ (Array.getElem?_eq_some_iff.1 h.out).1).trans h.out)
theorem blh {W0 W w1 : World} (h : Hid (Below W0.heap.size W0 W)) (hb : Below W.heap.size W w1) : Hid (Below W0.heap.size W0 w1) := Lib.hid (bl_step h.out hb)
theorem bah {w W : World} {o x : Obj} {g : Nat} (h : w.alloc o = W) (hx : Hid (w.heap[g]? = some x)) : Hid (W.heap[g]? = some x) := bkh hx (by subst h; exact bl_alloc (Below.refl w.heap.size w) o)
end
section
section
variable {P:Program} {ops:Array Oper} {C:World→Prop} {R:World→World→Prop} {G:Nat→Value→World→Prop}
def atOp (ops:Array Oper) (a:Act) (j:Nat):Value:=
 match (ops[j]?).bind (·.dst) with
 | some d=>a.eval (.tmp d)
 | none=>undef
def QNone:Exit→Act→World→Prop:=fun _ _ _=>False
def RelOp (P:Program) (ops:Array Oper) (C:World→Prop) (R:World→World→Prop) (G:Nat→Value→World→Prop) (i:Nat) (o:Oper) (a:Act):Prop:=
 ∀w,C w→(∀j,Region.waitsFor .any ops i j=true→G j (atOp ops a j) w)→∀K:Act→World→Prop,(∀v w',C w'→R w w'→G i v w'→K (a.put o.dst v) w')→Oper.wp P o a w K QNone
def relWalk (P:Program) (ops:Array Oper) (C:World→Prop) (R:World→World→Prop) (G:Nat→Value→World→Prop) (T:Act→Prop):Nat→List Oper→Act→Prop
 | _,[],a=>T a
 | i,o :: l,a=>RelOp P ops C R G i o a∧∀v,relWalk P ops C R G T (i+1) l (a.put o.dst v)
def putsR (vals:Nat→Value):Nat→List Oper→Act→Act
 | _,[],a=>a
 | i,o :: l,a=>putsR vals (i+1) l (a.put o.dst (vals i))
theorem relWalk_at {T:Act→Prop} (vals:Nat→Value):∀(l:List Oper) (s:Nat) (a:Act),relWalk P ops C R G T s l a→∀k o,l[k]?=some o→RelOp P ops C R G (s+k) o (putsR vals s (l.take k) a)
 | [],_,_,_,k,o,hk=>by simp at hk
 | x :: l,s,a,h,0,o,hk=>by
  obtain rfl:x=o:=by simpa using hk
  simpa [putsR] using h.1
 | x :: l,s,a,h,k+1,o,hk=>by
  have:=relWalk_at vals l (s+1) _ (h.2 (vals s)) k o (by simpa using hk)
  rw [show s+(k+1)=s+1+k from by omega]
  simpa [putsR] using this
theorem relWalk_end {T:Act→Prop} (vals:Nat→Value):∀(l:List Oper) (s:Nat) (a:Act),relWalk P ops C R G T s l a→T (putsR vals s l a)
 | [],_,_,h=>h
 | _ :: l,s,_,h=>relWalk_end vals l (s+1) _ (h.2 (vals s))
theorem put_size (a:Act) (d:Option Tmp) (v:Value):(a.put d v).tmps.size=a.tmps.size:=by cases d <;> simp [Act.put]
theorem put_def (a:Act) (d:Option Tmp) (v:Value):(a.put d v).defers=a.defers:=by cases d <;> rfl
theorem put_same (a:Act) (d:Tmp) (v:Value) (h:d<a.tmps.size):(a.put (some d) v).eval (.tmp d)=v:=by simp [Act.put,Act.eval,h]
theorem put_other (a:Act) (x:Option Tmp) (d:Tmp) (v:Value) (h:x≠some d):(a.put x v).eval (.tmp d)=a.eval (.tmp d):=
 Act.eval_put (fun e he hx=>h (by rw [he];injection hx with hx;rw [hx]))
theorem putsR_size (vals:Nat→Value):∀(l:List Oper) (s:Nat) (a:Act),(putsR vals s l a).tmps.size=a.tmps.size
 | [],_,_=>rfl
 | o :: l,s,a=>by rw [putsR,putsR_size vals l,put_size]
theorem putsR_def (vals:Nat→Value):∀(l:List Oper) (s:Nat) (a:Act),(putsR vals s l a).defers=a.defers
 | [],_,_=>rfl
 | o :: l,s,a=>by rw [putsR,putsR_def vals l,put_def]
theorem putsR_other (vals:Nat→Value) (t:Tmp):∀(l:List Oper) (s:Nat) (a:Act),(∀(k:Nat) (o:Oper),l[k]?=some o→o.dst≠some t)→(putsR vals s l a).eval (.tmp t)=a.eval (.tmp t)
 | [],_,_,_=>rfl
 | o :: l,s,a,h=>by
  rw [putsR,putsR_other vals t l (s+1) _ (fun k o' hk=>h (k+1) o' (by simpa using hk)),put_other _ _ _ _ (h 0 o (by simp))]
theorem putsR_same (vals:Nat→Value) (t:Tmp):∀(l:List Oper) (s:Nat) (a:Act) (k:Nat) (o:Oper),l[k]?=some o→o.dst=some t→(∀(k':Nat) (o':Oper),k<k'→l[k']?=some o'→o'.dst≠some t)→t<a.tmps.size→
  (putsR vals s l a).eval (.tmp t)=vals (s+k)
 | [],_,_,k,o,hk,_,_,_=>by simp at hk
 | x :: l,s,a,0,o,hk,hd,hx,ht=>by
  obtain rfl:x=o:=by simpa using hk
  rw [putsR,putsR_other vals t l (s+1) _ (fun k' o' hk'=>hx (k'+1) o' (by omega) (by simpa using hk')),hd,put_same _ _ _ ht]
  rfl
 | x :: l,s,a,k+1,o,hk,hd,hx,ht=>by
  rw [putsR,putsR_same vals t l (s+1) _ k o (by simpa using hk) hd (fun k' o' h1 h2=>hx (k'+1) o' (by omega) (by simpa using h2)) (by rw [put_size];exact ht)]
  congr 1;omega
def headB (ops:Array Oper) (n m:Nat):Bool:=
 (List.range n).all fun i=>match ops[i]? with
  | none=>false
  | some o=>o.guard.isNone&&(match o.dst with | some d=>decide (d<m)&&(List.range i).all (fun j=>match ops[j]? with | some oj=>oj.dst != some d | none=>true) | none=>false) &&
   o.after.all (fun e=>!Region.binds .any e||decide (e.on<i)) &&
   (List.range n).all (fun j=>match (ops[j]?).bind (·.dst) with | some d=>!(o.looksAt ops).contains d||Region.waitsFor .any ops i j | none=>true)
def relB (ops:Array Oper) (n m:Nat):Bool:=
 Region.noSelect ops&&decide (n<ops.size)&&Region.sinkB .any ops n&&Region.chainB .any ops n&&Region.seqB .any ops (ops.size - n) n (Array.replicate n true ++ Array.replicate (ops.size - n) false)&&headB ops n m
theorem headB_spec {n m:Nat} (h:headB ops n m=true) {i:Nat} (hi:i<n):∃o d,ops[i]?=some o∧o.guard=none∧o.dst=some d∧d<m∧
  (∀j oj,j<i→ops[j]?=some oj→oj.dst≠some d)∧(∀e ∈ o.after,Region.binds .any e=true→e.on<i)∧(∀j oj d',j<n→ops[j]?=some oj→oj.dst=some d'→d' ∈ o.looksAt ops→Region.waitsFor .any ops i j=true):=by
 have h1:=List.all_eq_true.1 h i (List.mem_range.2 hi)
 cases ho:ops[i]? with
 | none=>rw [ho] at h1;cases h1
 | some o=>
  rw [ho] at h1
  simp only [Bool.and_eq_true] at h1
  obtain ⟨⟨⟨hg,hd⟩,ha⟩,hl⟩:=h1
  cases hdst:o.dst with
  | none=>rw [hdst] at hd;cases hd
  | some d=>
   rw [hdst] at hd
   simp only [Bool.and_eq_true,decide_eq_true_eq] at hd
   refine ⟨o,d,rfl,by simpa using hg,hdst,hd.1,?_,?_,?_⟩
   ·intro j oj hj hoj
    have:=List.all_eq_true.1 hd.2 j (List.mem_range.2 hj)
    rw [hoj] at this
    simpa using this
   ·intro e he hb
    have:=(Array.all_eq_true_iff_forall_mem.1 ha) e he
    simpa [hb] using this
   ·intro j oj d' hj hoj hd' hm
    have:=List.all_eq_true.1 hl j (List.mem_range.2 hj)
    rw [hoj] at this
    simp only [Option.bind_some,hd'] at this
    simpa [hm] using this
theorem wp_carry {o:Oper} {a b:Act} {w:World} {d:Tmp} {Z:Value→World→Prop} {K:Act→World→Prop} {Q:Exit→Act→World→Prop} (hd:o.dst=some d) (hb:d<b.tmps.size) (he:execOp a.eval o=execOp b.eval o)
  (h:Oper.wp P o b w (fun a' w'=>a'.defers=b.defers∧Z (a'.eval (.tmp d)) w') QNone) (hk:∀v w',Z v w'→K (a.put o.dst v) w'):Oper.wp P o a w K Q:=by
 unfold Oper.wp at *
 rw [he]
 generalize (execOp b.eval o).run P w=r at *
 cases r with
 | ok n w'=>
  cases n <;> simp only [Oper.upon] at h ⊢
  case value u=>exact hk u w' (by have:=h.2;rw [hd,put_same _ _ _ hb] at this;exact this)
  case skip=>exact hk undef w' (by have:=h.2;rw [hd,put_same _ _ _ hb] at this;exact this)
  case defer x=>
   have h1:=h.1
   rw [put_def] at h1
   have:=congrArg List.length h1
   simp at this
  case enter f args=>
   refine CM h fun e w'' he=>?_
   cases e with
   | returned u=>exact hk u w'' (by have:=he.2;rw [hd,put_same _ _ _ hb] at this;exact this)
   | panicked c=>exact he.elim
   | outgrown=>obtain ⟨_,_,hf⟩:=he;exact hf.elim
  case row row args=>exact Rows.mono h fun u w'' he=>hk u w'' (by have:=he.2;rw [hd,put_same _ _ _ hb] at this;exact this)
 | halt x w'=>cases x <;> simp only [Oper.upon] at h ⊢;exact h.elim
def cntR (ls:Array Bool):Nat→Nat
 | 0=>0
 | k+1=>cntR ls k+if ls.getD k false=true then 0 else 1
theorem cntR_zero (ls:Array Bool):∀n,cntR ls n=0→∀j,j<n→ls.getD j false=true
 | 0,_,j,hj=>by omega
 | n+1,h,j,hj=>by
  simp only [cntR] at h
  by_cases hn:ls.getD n false=true
  ·by_cases hjn:j=n
   ·subst hjn;exact hn
   ·exact cntR_zero ls n (by omega) j (by omega)
  ·rw [if_neg hn] at h;omega
theorem cntR_out (ls:Array Bool) (i:Nat):∀n,n≤i→cntR (ls.setIfInBounds i true) n=cntR ls n
 | 0,_=>rfl
 | n+1,h=>by simp only [cntR];rw [cntR_out ls i n (by omega),getD_set_ne false (by omega)]
theorem cntR_set (ls:Array Bool) (i:Nat) (hi:i<ls.size) (hu:ls.getD i false=false):∀n,i<n→cntR (ls.setIfInBounds i true) n+1=cntR ls n
 | 0,h=>by omega
 | n+1,h=>by
  simp only [cntR]
  by_cases hin:i=n
  ·subst hin
   rw [cntR_out ls i i (Nat.le_refl _),hu]
   simp [hi]
  ·have:=cntR_set ls i hi hu n (by omega)
   rw [getD_set_ne false hin]
   omega
theorem cntR_first (ls:Array Bool):∀n,cntR ls n≠0→∃i,i<n∧ls.getD i false=false∧∀j,j<i→ls.getD j false=true
 | 0,h=>absurd rfl h
 | n+1,h=>by
  by_cases h0:cntR ls n=0
  ·refine ⟨n,by omega,?_,cntR_zero ls n h0⟩
   cases hb:ls.getD n false with
   | false=>rfl
   | true=>simp only [cntR,h0,hb] at h;exact absurd rfl h
  ·obtain ⟨i,hi,h1,h2⟩:=cntR_first ls n h0
   exact ⟨i,by omega,h1,h2⟩
theorem waits_of {i j:Nat} (h:Region.waitsFor .any ops i j=true) {o:Oper} (ho:ops[i]?=some o):∃e ∈ o.after,Region.binds .any e=true∧e.on=j:=by
 obtain ⟨oj,hoj,e,he,hb,hon⟩:=Region.waitsFor_spec h
 have:oj=o:=Option.some.inj (hoj.symm.trans ho)
 subst this
 exact ⟨e,he,hb,hon⟩
theorem act_ext {a b:Act} (hs:a.tmps.size=b.tmps.size) (hd:a.defers=b.defers) (h:∀t,t<a.tmps.size→a.eval (.tmp t)=b.eval (.tmp t)):a=b:=by
 obtain ⟨ta,da⟩:=a
 obtain ⟨tb,db⟩:=b
 simp only at hs hd
 subst hd
 congr 1
 apply Array.ext hs
 intro i h1 h2
 have:=h i h1
 simpa [Act.eval,h1,h2] using this
theorem any_of_rel {n m:Nat} {Q:Exit→Act→World→Prop} {T:Act→Prop} {l:List Oper} {a0:Act} (hops:ops=l.toArray) (hB:relB ops n m=true) (hm:a0.tmps.size=m)
  (hR:∀w w',R w w'→∀j v,G j v w→G j v w') (hW:relWalk P ops C R G T 0 (l.take n) a0)
  (hT:∀a w,T a→C w→(∀j,j<n→G j (atOp ops a j) w)→wpList P ops Q (l.drop n) a w) :
  ∀(f:Nat) (ls:Array Bool) (a:Act) (w:World),cntR ls n=f→HeadInv .any ops n ls→a.tmps.size=m→a.defers=a0.defers→C w→(∃vals:Nat→Value,
   (∀j o d,j<n→ls.getD j false=true→ops[j]?=some o→o.dst=some d→a.eval (.tmp d)=vals j∧G j (vals j) w)∧
   (∀t,(∀j o,j<n→ls.getD j false=true→ops[j]?=some o→o.dst≠some t)→a.eval (.tmp t)=a0.eval (.tmp t)))→
   wpAny P .any ops Q (f+(ops.size - n)) ls a w:=by
 simp only [relB,Bool.and_eq_true,decide_eq_true_eq] at hB
 obtain ⟨⟨⟨⟨⟨hsel,hn⟩,hs⟩,hc⟩,hseq⟩,hhead⟩:=hB
 have hget:∀j:Nat,ops[j]?=l[j]?:=fun j=>by rw [hops];simp
 have htake:∀(k:Nat) (o:Oper),(l.take n)[k]?=some o→k<n∧ops[k]?=some o:=fun k o hk=>by
  rw [List.getElem?_take] at hk
  split at hk
  ·exact ⟨by assumption,by rw [hget];exact hk⟩
  ·cases hk
 intro f
 induction f with
 | zero=>
  intro ls a w hf inv hsz hdf hC ⟨vals,hv1,hv2⟩
  have hall:=cntR_zero ls n hf
  have hls:ls=Array.replicate n true ++ Array.replicate (ops.size - n) false:=by
   apply Array.ext
   ·rw [inv.size];simp;omega
   ·intro i h1 h2
    by_cases hi:i<n
    ·have:=hall i hi
     simp [h1] at this
     simp [Array.getElem_append,hi,this]
    ·have hz:=inv.tail i (by omega) (by rw [←inv.size];exact h1)
     simp [h1] at hz
     simp [Array.getElem_append,hi,hz]
  have ha:a=putsR vals 0 (l.take n) a0:=by
   apply act_ext
   ·rw [putsR_size,hsz,hm]
   ·rw [putsR_def,hdf]
   ·intro t ht
    by_cases hx:∃(k:Nat) (o:Oper),k<n∧ops[k]?=some o∧o.dst=some t
    ·obtain ⟨k,o,hk,ho,hd⟩:=hx
     rw [(hv1 k o t hk (hall k hk) ho hd).1]
     have hlk:(l.take n)[k]?=some o:=by rw [List.getElem?_take,if_pos hk,←hget];exact ho
     rw [putsR_same vals t (l.take n) 0 a0 k o hlk hd ?_ (by rw [hm,←hsz];exact ht),Nat.zero_add]
     intro k' o' hk' ho'
     obtain ⟨hk'n,hok'⟩:=htake k' o' ho'
     obtain ⟨o2,d2,g1,_,g2,_,g3,_⟩:=headB_spec hhead hk'n
     have:o2=o':=Option.some.inj (g1.symm.trans hok')
     subst this
     rw [g2]
     intro hdd
     injection hdd with hdd
     subst hdd
     exact g3 k o hk' ho hd
    ·rw [hv2 t (fun j o hj _ ho hd=>hx ⟨j,o,hj,ho,hd⟩),putsR_other vals t (l.take n) 0 a0 (fun k o hk hd=>hx ⟨k,o,(htake k o hk).1,(htake k o hk).2,hd⟩)]
  have hTa:=relWalk_end vals (l.take n) 0 a0 hW
  rw [←ha] at hTa
  have hw:=hT a w hTa hC (fun j hj=>by
   obtain ⟨o,d,g1,_,g2,_⟩:=headB_spec hhead hj
   have:=hv1 j o d hj (hall j hj) g1 g2
   unfold atOp
   rw [g1]
   simp only [Option.bind_some,g2]
   rw [this.1];exact this.2)
  have hdl:(l.drop n).length=ops.size - n:=by rw [hops];simp
  have:=wpAny_of_seq (md:= .any) (Q':=Q) (l.drop n) n ls a w (fun j=>by rw [hget,List.getElem?_drop]) (by rw [hdl,hls];exact hseq) hw
  rw [hdl] at this
  rw [Nat.zero_add]
  exact this
 | succ f ih=>
  intro ls a w hf inv hsz hdf hC ⟨vals,hv1,hv2⟩
  obtain ⟨i0,hi0,hu0,hbefore⟩:=cntR_first ls n (by omega)
  have hr0:i0 ∈ Region.ready .any ops ls:=by
   obtain ⟨o,d,g1,_,_,_,_,g4,_⟩:=headB_spec hhead hi0
   exact mem_ready.2 ⟨getD_in (by rw [inv.size];omega) hu0,o,g1,fun e he hb=>hbefore _ (g4 e he hb)⟩
  rw [show f+1+(ops.size - n)=(f+(ops.size - n))+1 by omega]
  refine ⟨fun h=>(by rw [h] at hr0;cases hr0),fun i hir=>?_⟩
  have hin:i<n:=by
   rcases Nat.lt_or_ge i n with h | h
   ·exact h
   ·exact absurd hir (tail_waits hs hc hn inv _ i0 rfl hi0 (getD_in (by rw [inv.size];omega) hu0) i h)
  obtain ⟨o,d,g1,gg,g2,g3,gd,g4,g5⟩:=headB_spec hhead hin
  obtain ⟨hun,o',ho',hall⟩:=mem_ready.1 hir
  obtain rfl:o'=o:=Option.some.inj (ho'.symm.trans g1)
  have hlk:(l.take n)[i]?=some o':=by rw [List.getElem?_take,if_pos hin,←hget];exact g1
  have hop:=relWalk_at vals (l.take n) 0 a0 hW i o' hlk
  rw [Nat.zero_add] at hop
  have hcano:∀j oj dj,j<i→ops[j]?=some oj→oj.dst=some dj→(putsR vals 0 ((l.take n).take i) a0).eval (.tmp dj)=vals j:=by
   intro j oj dj hj hoj hdj
   have hl':((l.take n).take i)[j]?=some oj:=by rw [List.getElem?_take,if_pos hj,List.getElem?_take,if_pos (by omega),←hget];exact hoj
   obtain ⟨o2,d2,k1,_,k2,k3,_⟩:=headB_spec hhead (show j<n by omega)
   obtain rfl:o2=oj:=Option.some.inj (k1.symm.trans hoj)
   have hd2:d2=dj:=Option.some.inj (k2.symm.trans hdj)
   subst hd2
   rw [putsR_same vals d2 _ 0 a0 j o2 hl' k2 ?_ (by rw [hm];exact k3),Nat.zero_add]
   intro k' o'' hk' ho''
   have hk2:k'<i∧ops[k']?=some o'':=by
    rw [List.getElem?_take] at ho''
    split at ho''
    ·exact ⟨by assumption,(htake k' o'' ho'').2⟩
    ·cases ho''
   obtain ⟨o3,d3,m1,_,m2,_,m3,_⟩:=headB_spec hhead (show k'<n by omega)
   obtain rfl:o3=o'':=Option.some.inj (m1.symm.trans hk2.2)
   rw [m2]
   intro hdd
   injection hdd with hdd
   subst hdd
   exact m3 j o2 hk' hoj k2
  have hfar:∀t,(∀j oj,j<n→ops[j]?=some oj→oj.dst≠some t)→(putsR vals 0 ((l.take n).take i) a0).eval (.tmp t)=a0.eval (.tmp t):=fun t ht=>
   putsR_other vals t _ 0 a0 (fun k ok hk=>by
    rw [List.getElem?_take] at hk
    split at hk
    ·exact ht k ok (htake k ok hk).1 (htake k ok hk).2
    ·cases hk)
  have hdone:∀j,Region.waitsFor .any ops i j=true→j<i∧ls.getD j false=true:=fun j hj=>by
   obtain ⟨e,he,hb,hon⟩:=waits_of hj g1
   subst hon
   exact ⟨g4 e he hb,hall e he hb⟩
  have hev:execOp a.eval o'=execOp (putsR vals 0 ((l.take n).take i) a0).eval o':=by
   refine execOp_congr o' (fun cs b=>Region.noSelect_spec hsel i o' cs b g1) (fun x hx=>?_)
   cases x with
   | tmp t=>
    have hlook:t ∈ o'.looksAt ops:=List.mem_append_left _ (List.mem_filterMap.2 ⟨.tmp t,by simpa using hx,rfl⟩)
    by_cases hex:∃(j:Nat) (oj:Oper),j<n∧ops[j]?=some oj∧oj.dst=some t
    ·obtain ⟨j,oj,hj,hoj,hdj⟩:=hex
     obtain ⟨hji,hjd⟩:=hdone j (g5 j oj t hj hoj hdj hlook)
     rw [(hv1 j oj t hj hjd hoj hdj).1,hcano j oj t hji hoj hdj]
    ·have hno:∀j oj,j<n→ops[j]?=some oj→oj.dst≠some t:=fun j oj hj hoj hd=>hex ⟨j,oj,hj,hoj,hd⟩
     rw [hv2 t (fun j oj hj _ hoj=>hno j oj hj hoj),hfar t hno]
   | _=>rfl
  have hstep:=hop w hC (fun j hj=>by
   obtain ⟨hji,hjd⟩:=hdone j hj
   obtain ⟨o2,d2,k1,_,k2,_⟩:=headB_spec hhead (show j<n by omega)
   unfold atOp
   rw [k1]
   simp only [Option.bind_some,k2]
   rw [hcano j o2 d2 hji k1 k2]
   exact (hv1 j o2 d2 (by omega) hjd k1 k2).2)
   (fun a' w'=>a'.defers=(putsR vals 0 ((l.take n).take i) a0).defers∧(C w'∧R w w'∧G i (a'.eval (.tmp d)) w'))
   (fun v w' h1 h2 h3=>⟨put_def _ _ _,h1,h2,by rw [g2,put_same _ _ _ (by rw [putsR_size,hm];exact g3)];exact h3⟩)
  have hwant:Region.wanted o' (yielded ops a.tmps)=true:=by simp [Region.wanted,gg]
  unfold wpOp
  rw [g1]
  simp only [hwant,if_true]
  refine .inl (wp_carry (Z:=fun v w'=>C w'∧R w w'∧G i v w') g2 (by rw [putsR_size,hm];exact g3) hev hstep fun v w' ⟨hC',hRw,hGi⟩=>?_)
  have hils:i<ls.size:=by rw [inv.size];omega
  refine ih (ls.setIfInBounds i true) (a.put o'.dst v) w' (by have:=cntR_set ls i hils (getD_both hun) n hin;omega) (inv.set hir hin) (by rw [put_size,hsz]) (by rw [put_def,hdf]) hC' ⟨fun j=>if j=i then v else vals j,?_,?_⟩
  ·intro j oj dj hj hjl hoj hdj
   by_cases hji:j=i
   ·subst hji
    obtain rfl:oj=o':=Option.some.inj (hoj.symm.trans g1)
    have:dj=d:=Option.some.inj (hdj.symm.trans g2)
    subst this
    show (a.put oj.dst v).eval (.tmp dj)=(if j=j then v else vals j)∧G j (if j=j then v else vals j) w'
    rw [if_pos rfl,hdj,put_same _ _ _ (by rw [hsz];exact g3)]
    exact ⟨rfl,hGi⟩
   ·rw [getD_set_ne false (Ne.symm hji)] at hjl
    have h1:=hv1 j oj dj hj hjl hoj hdj
    show (a.put o'.dst v).eval (.tmp dj)=(if j=i then v else vals j)∧G j (if j=i then v else vals j) w'
    rw [if_neg hji]
    refine ⟨?_,hR _ _ hRw _ _ h1.2⟩
    rw [put_other _ _ _ _ ?_]
    ·exact h1.1
    ·rw [g2]
     intro hdd
     injection hdd with hdd
     subst hdd
     rcases Nat.lt_or_gt_of_ne hji with hlt | hgt
     ·exact gd j oj hlt hoj hdj
     ·obtain ⟨o2,d2,k1,_,k2,_,k3,_⟩:=headB_spec hhead hj
      obtain rfl:o2=oj:=Option.some.inj (k1.symm.trans hoj)
      have:d2=d:=Option.some.inj (k2.symm.trans hdj)
      subst this
      exact k3 i o' hgt g1 g2
  ·intro t ht
   have hne:o'.dst≠some t:=ht i o' hin (by simp [hils]) g1
   rw [put_other _ _ _ _ hne]
   refine hv2 t (fun j oj hj hjl hoj=>ht j oj hj (getD_set_true hjl) hoj)
theorem wp_region_rel {id:Nat} {Q:Exit→Act→World→Prop} {a:Act} {w:World} {l:List Oper} (n m:Nat) (C:World→Prop) (R:World→World→Prop) (G:Nat→Value→World→Prop)
  (hm:P.follows .mixedOrders=true) (hB:relB l.toArray n m=true) (hs:a.tmps.size=m) (hC:C {w with drawn:=w.drawn+1}) (hR:∀w w',R w w'→∀j v,G j v w→G j v w')
  (h:relWalk P l.toArray C R G (fun a'=>∀w',C w'→(∀j,j<n→G j (atOp l.toArray a' j) w')→wpList P l.toArray Q (l.drop n) a' w') 0 (l.take n) a):(Code.region id l.toArray true).wp P Q a w:=by
 refine wp_region_any hm ?_
 have hB':=hB
 simp only [relB,Bool.and_eq_true,decide_eq_true_eq] at hB'
 have hn:n<l.toArray.size:=hB'.1.1.1.1.2
 have hcnt:∀k,cntR (Array.replicate l.toArray.size false) k=k:=by
  intro k
  induction k with
  | zero=>rfl
  | succ k ih=>simp only [cntR,ih,getD_replicate_false];simp
 have inv0:HeadInv .any l.toArray n (Array.replicate l.toArray.size false):=
  ⟨by simp,fun j oj _ hl=>(by rw [getD_replicate_false] at hl;cases hl),fun t _ ht=>getD_in (by simpa using ht) (getD_replicate_false _ _)⟩
 have:=any_of_rel (P:=P) (ops:=l.toArray) (C:=C) (R:=R) (G:=G) (n:=n) (m:=m) (Q:=Q) (l:=l) (a0:=a) rfl hB hs hR h (fun a' w' hT hC' hG=>hT w' hC' hG) n (Array.replicate l.toArray.size false) a {w with drawn:=w.drawn+1} (hcnt n) inv0 hs rfl hC
  ⟨fun _=>undef,fun j o d hj hl=>(by rw [getD_replicate_false] at hl;cases hl),fun t _=>rfl⟩
 rw [show n+(l.toArray.size - n)=l.toArray.size by omega] at this
 exact this
theorem rC {P:Program} {ops:Array Oper} {C:World→Prop} {R:World→World→Prop} {G:Nat→Value→World→Prop} {T:Act→Prop} {i:Nat} {o:Oper} {l:List Oper} {a:Act}
  (h1:∀w,C w→(∀j,Region.waitsFor .any ops i j=true→G j (atOp ops a j) w)→∀K:Act→World→Prop,(∀v w',C w'→R w w'→G i v w'→K (a.put o.dst v) w')→Oper.wp P o a w K QNone)
  (h2:∀v,relWalk P ops C R G T (i+1) l (a.put o.dst v)):relWalk P ops C R G T i (o :: l) a:=⟨h1,h2⟩
theorem relWalk_nil {P:Program} {ops:Array Oper} {C:World→Prop} {R:World→World→Prop} {G:Nat→Value→World→Prop} {T:Act→Prop} {i:Nat} {a:Act} (h:T a):relWalk P ops C R G T i [] a:=h
end
end
section
structure SP where
 p:Value→World→Prop
 st:∀v w w',Below w.heap.size w w'→p v w→p v w'
def SP.eq (x:Value):SP:=⟨fun v _=>v=x,fun _ _ _ _ h=>h⟩
def SP.any:SP:=⟨fun _ _=>True,fun _ _ _ _ h=>h⟩
def GS (ls:List SP) (j:Nat) (v:Value) (w:World):Prop:=(ls.getD j SP.any).p v w
theorem GS.keep {ls:List SP} {w w':World} (hr:Below w.heap.size w w') (j:Nat) (v:Value) (h:GS ls j v w):GS ls j v w':=(ls.getD j SP.any).st v w w' hr h
theorem wp_region_sp {P:Program} {id:Nat} {Q:Exit→Act→World→Prop} {a:Act} {W:World} {l:List Oper} (n m:Nat) (ls:List SP)
  (hm:P.follows .mixedOrders=true) (hB:relB l.toArray n m=true) (hs:a.tmps.size=m)
  (h:relWalk P l.toArray (fun x=>Below W.heap.size W x) (fun x y=>Below x.heap.size x y) (GS ls) (fun a'=>∀w',Below W.heap.size W w'→(∀j,j<n→GS ls j (atOp l.toArray a' j) w')→wpList P l.toArray Q (l.drop n) a' w') 0 (l.take n) a):(Code.region id l.toArray true).wp P Q a W:=
 wp_region_rel n m _ _ (GS ls) hm hB hs (B_.drew) (fun x y hr=>GS.keep hr) h
end
section
theorem bk_step {w w':World} {g:Nat} {x:Obj} (h:w.heap[g]?=some x) (hb:Below w.heap.size w w'):w'.heap[g]?=some x:=(hb.block _ (Array.getElem?_eq_some_iff.1 h).1).trans h
theorem bk_alloc {w:World} {g:Nat} {x:Obj} (h:w.heap[g]?=some x) (o:Obj):(w.alloc o).heap[g]?=some x:=bk_step h (B_.alloc (Nat.le_refl _) _)
theorem bk_lt {w:World} {g:Nat} {x:Obj} (h:w.heap[g]?=some x):g<w.heap.size:=(Array.getElem?_eq_some_iff.1 h).1
theorem heap_alloc_at (w:World) (o:Obj):(w.alloc o).heap[w.heap.size]?=some o:=heap_alloc_new w o
theorem heap_at_new (w:World) (o:Obj) (n:Nat) (h:w.heap.size=n):(w.alloc o).heap[n]?=some o:=by subst h;exact heap_alloc_new w o
theorem set_bk {w:World} {g:Nat} {x:Obj} (h:w.heap[g]?=some x) (p:Addr) (v:Value) (hn:g≠p.block):(w.setCell p v).heap[g]?=some x:=(Below.heap_setCell w p v g hn).trans h
theorem set_same {w:World} {g i:Nat} {cs:Array Value} {t:TypeId} {fr:Nat × Nat} (h:w.heap[g]?=some (.cells cs t fr)) (v:Value):(w.setCell ⟨g,i,none⟩ v).heap[g]?=some (.cells (cs.setIfInBounds i v) t fr):=by
 simp [World.setCell,Array.getElem?_modify,h]
theorem own_step {w w':World} {B sz n:Nat} {t:TypeId} {v:Value} {xs:List Value} (h:w.ownsRow B t sz v n xs) (hb:Below w.heap.size w w'):w'.ownsRow B t sz v n xs:=
 h.kept (row:=none) ⟨hb.os,hb.tape,hb.output,hb.size,fun k hk _=>hb.block k hk⟩ (by cases h:v.ownBlock with | none=>exact .inl rfl | some b=>exact .inr (by simp))
def SP.blk (c:Nat) (cs:Array Value) (t:TypeId):SP:=⟨fun v w=>∃g,v = .slice (some ⟨g,0,none⟩) c c∧w.heap[g]?=some (.cells cs t (0,0)),fun v w w' hb ⟨g,h1,h2⟩=>⟨g,h1,bk_step h2 hb⟩⟩
theorem w64 {x:Int} (h:-1000000≤x∧x≤1000000):IntKind.i64.wrap x=x:=IntWalk.i64_in _ (by omega)
theorem int_info:(Tryz.prog.info? 3).map (fun i=>(i.zero,i.size,i.bytes))=some (some (.int .i64 0),1,8):=by kernel_rfl
end
end Go.Proofs.YthhekebemmckcaaGreatDoor
