/-
  Lemmas and short forms for the laws of this seat, part 0; several texts joined by a program.
-/
import Derived.Test.YtehfhnbpnaiogaaGreatDoorRows
import Derived.BigQuiet
import Derived.BigRegion
import Derived.Deep.CutBlock
import Derived.Deep.DeepCutAuto
import Derived.Deep.QuietTactic
import Derived.Deep.RegionHeld3
import Derived.Great.BuildSlice
import Derived.Lib.Hide
import Derived.WalkKit
import Derived.WalkLawsBesides
import Derived.WalkSpells
namespace Go.Proofs.YtehfhnbpnaiogaaGreatDoor
set_option linter.unusedVariables false
set_option linter.unusedSimpArgs false
set_option maxRecDepth 100000
set_option maxHeartbeats 16000000
open Go.RowKit Go.Proofs.Tryz IntKind
variable {P:Program} {W W0 w w' w0 w1:World} {args cs:Array Value} {b b0 b1 b2 g n:Nat} {f:FuncId} {o o0 o1 x:Obj} {p p0 p1 p2 p3 p4 p5:Prop} {t:TypeId} {v:Value} {α:Type}
section
theorem A_ {a b:Bool} (h:a=b):Ending.returned (.bool a) = .returned (.bool b):=by rw [h]
theorem yN {k:IntKind} {a b:Int} (h:a=b):Ending.returned (.int k a) = .returned (.int k b):=by rw [h]
theorem Calls.quiet_of_eq
  (h:Calls P f args (w.drewN n) fun e w'=>e = .returned v∧w.drewN n=w'):Calls P f args (w.drewN n) fun e w''=>e = .returned v∧∃m,w''=w.drewN m:=
 h.mono fun _ _ ⟨he,hm⟩=>⟨he,n,hm.symm⟩
def cS_ (x n:Int):Int:=x % 18446744073709551616 % n
theorem tW (x n:Int) (h:1≤n):0≤cS_ x n∧cS_ x n<n:=
 ⟨Int.emod_nonneg _ (by omega),Int.emod_lt_of_pos _ (by omega)⟩
theorem ge_ (x n:Int) (h1:1≤n) (h2:n≤9223372036854775807):wrap64 ((IntKind.u64.wrap x).tmod n)=cS_ x n:=by
 have hr:=tW x n h1
 rw [IntKind.wrap_u64,Int.tmod_eq_emod_of_nonneg (by omega)]
 exact IntWalk.wrap64_in _ (by unfold cS_ at hr;omega)
theorem ei_ {a:Nat} {p:Addr}:((w.drewN a).setCell p v).drewN b=(w.setCell p v).drewN (a+b):=by
 simp [World.drewN,World.setCell,Nat.add_assoc]
theorem a_ (h:w.heap[b]?=some (.cells cs t (0,0))) (i:Nat):w.cell? ⟨b,i,none⟩=cs[i]?:=by simp [World.cell?,h]
theorem t_ (h:w.heap[b]?=some (.cells cs t (0,0))) (i:Nat):w.frozen? ⟨b,i,none⟩=false:=by simp [World.frozen?,h]
theorem gP (w:World) (m:Nat) (row:Option Nat):w.grownBy (w.drewN m) row:=⟨rfl,rfl,rfl,Nat.le_refl _,fun _ _ _=>rfl⟩
theorem v_ (w:World) (p:Addr) (v:Value):w.grownBy (w.setCell p v) (some p.block):=
 ⟨rfl,rfl,rfl,by simp [World.setCell],fun k _ hk=>by
  simp only [World.setCell,Array.getElem?_modify]
  rw [if_neg (fun e=>hk (by rw [e]))]⟩
theorem bF {a b c:World} {row:Option Nat} (h:a.grownBy b row) (k:b.grownBy c row):a.grownBy c row:=
 ⟨k.os.trans h.os,k.tape.trans h.tape,k.output.trans h.output,Nat.le_trans h.size k.size,fun i hi hr=>(k.block i (Nat.lt_of_lt_of_le hi h.size) hr).trans (h.block i hi hr)⟩
theorem i6_ (w:World) (l:List Int) (t:TypeId) (i:Nat) (hi:i<l.length) :
  (w.alloc (.cells (l.map (Value.int .i64)).toArray t)).cell? ⟨w.heap.size,i,none⟩=some (.int .i64 l[i]):=by
 have e:(w.alloc (.cells (l.map (Value.int .i64)).toArray t)).heap[w.heap.size]?=some (.cells (l.map (Value.int .i64)).toArray t (0,0)):=by show (w.heap.push _)[w.heap.size]?=_;simp
 rw [a_ e];simp [hi]
def bP_ (k:IntKind) (w:World) (a:Option Addr) (len cap:Nat) (zs:List Int):Prop:=
 (a=none∧len=0∧cap=0∧zs=[])∨
 ∃x,a=some x∧len≤cap∧cap≤maxLen∧zs.length=cap∧(∀i,i<zs.length→w.cell? (x.add i)=some (.int k (zs.getD i 0)))∧∀n ∈ zs,(Lit.int k n).wf=true
theorem gt_ (hb:Below W.heap.size W w1) :
  (∀b o,b<W.heap.size→w1.cell? ⟨b,o,none⟩=W.cell? ⟨b,o,none⟩)∧(∀b o,b<W.heap.size→w1.frozen? ⟨b,o,none⟩=W.frozen? ⟨b,o,none⟩)∧
  (∀k,k<W.heap.size→k<w1.heap.size)∧(∀k,k<W.heap.size→k≤w1.heap.size)∧(∀k,k<W.heap.size→¬k=w1.heap.size)∧(∀k,k<W.heap.size→¬w1.heap.size=k)∧
  (∀k,k≤W.heap.size→k≤w1.heap.size)∧(∀k,k<W.heap.size→k<w1.heap.size+1)∧(∀k,k<W.heap.size→k<w1.heap.size+1+1):=
 ⟨fun b o h=>hb.cell (p:=⟨b,o,none⟩) h,fun b o h=>hb.frozen (p:=⟨b,o,none⟩) h,fun k h=>Nat.lt_of_lt_of_le h hb.size,fun k h=>Nat.le_trans (Nat.le_of_lt h) hb.size,
  fun k h=>by have:=hb.size;omega,fun k h=>by have:=hb.size;omega,fun k h=>Nat.le_trans h hb.size,fun k h=>by have:=hb.size;omega,fun k h=>by have:=hb.size;omega⟩
theorem kT_ {c:Nat} (hg:W.grownBy w1 (some c)) :
  (∀b o,b<W.heap.size→¬b=c→w1.cell? ⟨b,o,none⟩=W.cell? ⟨b,o,none⟩)∧(∀b o,b<W.heap.size→¬b=c→w1.frozen? ⟨b,o,none⟩=W.frozen? ⟨b,o,none⟩)∧
  (∀k,k<W.heap.size→k<w1.heap.size)∧(∀k,k<W.heap.size→k≤w1.heap.size)∧(∀k,k<W.heap.size→¬k=w1.heap.size)∧(∀k,k<W.heap.size→¬w1.heap.size=k)∧
  (∀k,k≤W.heap.size→k≤w1.heap.size)∧(∀k,k<W.heap.size→k<w1.heap.size+1)∧(∀k,k<W.heap.size→k<w1.heap.size+1+1):=
 ⟨fun b o h d=>World.cell?_of_block (a:=⟨b,o,none⟩) (hg.block b h (by simpa using d)),fun b o h d=>World.frozen?_of_block (a:=⟨b,o,none⟩) (hg.block b h (by simpa using d)),
  fun k h=>Nat.lt_of_lt_of_le h hg.size,fun k h=>Nat.le_trans (Nat.le_of_lt h) hg.size,fun k h=>by have:=hg.size;omega,fun k h=>by have:=hg.size;omega,fun k h=>Nat.le_trans h hg.size,fun k h=>by have:=hg.size;omega,fun k h=>by have:=hg.size;omega⟩
theorem d_ {W0 W w1:World} (h:Below W0.heap.size W0 W) (hb:Below W.heap.size W w1):Below W0.heap.size W0 w1:=h.trans (hb.mono h.size)
theorem cW (hb:Below W.heap.size W w1) (h:Below W0.heap.size W0 W):Below W0.heap.size W0 w1:=d_ h hb
theorem b_ {X:World} (h:Below W0.heap.size W0 X) (o:Obj):Below W0.heap.size W0 (X.alloc o):=h.alloc h.size o
def cP (b:Bool) (w:World) (e:Ending) (w':World):Prop:=e = .returned (.bool b)∧Below w.heap.size w w'
def sB (n:Int) (w:World) (e:Ending) (w':World):Prop:=e = .returned (.int .i64 n)∧Below w.heap.size w w'
end
section
instance:Coe World Nat:=⟨fun w=>w.heap.size⟩
section
variable {w:World} {b:Nat} {t:TypeId} {a0 a1 a2 a3 a4 a5 a6 a7 a8 a9:Value} {l:List Value}
theorem xV (h:w.heap[b]?=some (.cells (List.toArray (a0 :: l)) t (0,0))):w.cell? ⟨b,0,none⟩=some a0:=a_ h 0
theorem cs2 (h:w.heap[b]?=some (.cells (List.toArray (a0 :: a1 :: l)) t (0,0))):w.cell? ⟨b,0,none⟩=some a0∧w.cell? ⟨b,1,none⟩=some a1:=⟨a_ h 0,a_ h 1⟩
theorem cL (h:w.heap[b]?=some (.cells (List.toArray (a0 :: a1 :: a2 :: l)) t (0,0))):w.cell? ⟨b,0,none⟩=some a0∧w.cell? ⟨b,1,none⟩=some a1∧w.cell? ⟨b,2,none⟩=some a2:=⟨a_ h 0,a_ h 1,a_ h 2⟩
theorem iH (h:w.heap[b]?=some (.cells (List.toArray (a0 :: a1 :: a2 :: a3 :: l)) t (0,0))):w.cell? ⟨b,0,none⟩=some a0∧w.cell? ⟨b,1,none⟩=some a1∧w.cell? ⟨b,2,none⟩=some a2∧w.cell? ⟨b,3,none⟩=some a3:=⟨a_ h 0,a_ h 1,a_ h 2,a_ h 3⟩
theorem cs5 (h:w.heap[b]?=some (.cells (List.toArray (a0 :: a1 :: a2 :: a3 :: a4 :: l)) t (0,0))):w.cell? ⟨b,0,none⟩=some a0∧w.cell? ⟨b,1,none⟩=some a1∧w.cell? ⟨b,2,none⟩=some a2∧w.cell? ⟨b,3,none⟩=some a3∧w.cell? ⟨b,4,none⟩=some a4:=⟨a_ h 0,a_ h 1,a_ h 2,a_ h 3,a_ h 4⟩
theorem cs6 (h:w.heap[b]?=some (.cells (List.toArray (a0 :: a1 :: a2 :: a3 :: a4 :: a5 :: l)) t (0,0))):w.cell? ⟨b,0,none⟩=some a0∧w.cell? ⟨b,1,none⟩=some a1∧w.cell? ⟨b,2,none⟩=some a2∧w.cell? ⟨b,3,none⟩=some a3∧w.cell? ⟨b,4,none⟩=some a4∧w.cell? ⟨b,5,none⟩=some a5:=⟨a_ h 0,a_ h 1,a_ h 2,a_ h 3,a_ h 4,a_ h 5⟩
theorem aF (h:w.heap[b]?=some (.cells (List.toArray (a0 :: a1 :: a2 :: a3 :: a4 :: a5 :: a6 :: l)) t (0,0))):w.cell? ⟨b,0,none⟩=some a0∧w.cell? ⟨b,1,none⟩=some a1∧w.cell? ⟨b,2,none⟩=some a2∧w.cell? ⟨b,3,none⟩=some a3∧w.cell? ⟨b,4,none⟩=some a4∧w.cell? ⟨b,5,none⟩=some a5∧w.cell? ⟨b,6,none⟩=some a6:=⟨a_ h 0,a_ h 1,a_ h 2,a_ h 3,a_ h 4,a_ h 5,a_ h 6⟩
theorem sE (h:w.heap[b]?=some (.cells (List.toArray (a0 :: a1 :: a2 :: a3 :: a4 :: a5 :: a6 :: a7 :: a8 :: l)) t (0,0))):w.cell? ⟨b,0,none⟩=some a0∧w.cell? ⟨b,1,none⟩=some a1∧w.cell? ⟨b,2,none⟩=some a2∧w.cell? ⟨b,3,none⟩=some a3∧w.cell? ⟨b,4,none⟩=some a4∧w.cell? ⟨b,5,none⟩=some a5∧w.cell? ⟨b,6,none⟩=some a6∧w.cell? ⟨b,7,none⟩=some a7∧w.cell? ⟨b,8,none⟩=some a8:=⟨a_ h 0,a_ h 1,a_ h 2,a_ h 3,a_ h 4,a_ h 5,a_ h 6,a_ h 7,a_ h 8⟩
end
section
variable {ops:Array Oper} {rest:List Oper} {o:Oper} {a:Act} {w:World} {Q:Exit→Act→World→Prop} {old:Array Value}
theorem aJ (hgd:o.guard=none) (x y:Operand) (ho:o.op = .store 30 x y) (hd:o.dst=none) {A B C D E F G:Option Addr} {a1 c1 d1 e1 f1 g1 a2 c2 d2 e2 f2 g2:Nat}
  (hx:a.eval x = .pointer (some ⟨g,0,none⟩)) (hy:a.eval y = .agg #[.slice A a1 a2,.slice B b1 b2,.slice C c1 c2,.slice D d1 d2,.slice E e1 e2,.slice F f1 f2,.slice G g1 g2]) (hg:w.heap[g]?=some (.cells old 30 (0,0))) (hold:old.size=7)
  (h:wpList Tryz.prog ops Q rest a (w.setRow g #[.slice A a1 a2,.slice B b1 b2,.slice C c1 c2,.slice D d1 d2,.slice E e1 e2,.slice F f1 f2,.slice G g1 g2])):wpList Tryz.prog ops Q (o :: rest) a w:=
 wpList_store_rowTo hgd 30 x y ho hd g _ hx hy 30 old hg (by kernel_rfl) hold (by simp [Value.oneCell']) h
end
def inL (l:List Nat) (i:Nat):Bool:=l.contains i
theorem fV {c1 c2:Array Value} {t1 t2:TypeId} (h:(w.alloc (.cells c1 t1)).alloc (.cells c2 t2)=W) :
  Hid (W.heap[w.heap.size]?=some (.cells c1 t1 (0,0)))∧Hid (W.heap[w.heap.size+1]?=some (.cells c2 t2 (0,0)))∧Hid (Below w.heap.size w W)∧W.heap.size=w.heap.size+1+1:=by
 subst h
 have a:=b_ (Below.refl w.heap.size w) (.cells c1 t1)
 refine ⟨Lib.hid ?_,Lib.hid ?_,Lib.hid (b_ a (.cells c2 t2)),by simp⟩
 ·have e:∀(W:World) (o:Obj),(W.alloc o).heap=W.heap.push o:=fun _ _=>rfl
  rw [e,e,Array.getElem?_push,if_neg (by simp),Array.getElem?_push,if_pos rfl]
 ·have e:∀(W:World) (o:Obj),(W.alloc o).heap=W.heap.push o:=fun _ _=>rfl
  rw [e,e,Array.getElem?_push,if_pos (by simp)]
abbrev cG:Obj:= .cells #[.slice none 0 0,.slice none 0 0,.slice none 0 0,.slice none 0 0,.slice none 0 0,.slice none 0 0,.slice none 0 0] 30 (0,0)
abbrev lK:Obj:= .cells #[.int .i64 0,.int .i64 0,.int .i64 0,.int .i64 0,.int .i64 0,.int .i64 0,.string ⟨#[]⟩,.bool false,.bool false,.int .i64 0] 37 (0,0)
abbrev R7_ (gf nf cf gr nr cr:Nat) (c d:Value) (gl nl cl gk nk ck:Nat) (g:Value):Array Value:=#[.slice (some ⟨gf,0,none⟩) nf cf,.slice (some ⟨gr,0,none⟩) nr cr,c,d,.slice (some ⟨gl,0,none⟩) nl cl,.slice (some ⟨gk,0,none⟩) nk ck,g]
theorem ly:(∀(a:Act) (t:Tmp) (v:Value),a.put (some t) v={a with tmps:=a.tmps.setIfInBounds t v})∧(∀(a:Act) (v:Value),a.put none v=a)∧(∀(l:List Value) (i:Nat) (x:Value),l.toArray.setIfInBounds i x=(l.set i x).toArray)∧
  (∀(y:Value) (l:List Value) (x:Value),(y :: l).set 0 x=x :: l)∧(∀(y:Value) (l:List Value) (n:Nat) (x:Value),(y :: l).set (n+1) x=y :: l.set n x):=
 ⟨fun _ _ _=>rfl,fun _ _=>rfl,fun _ _ _=>by simp,fun _ _ _=>rfl,fun _ _ _ _=>rfl⟩
theorem oB {S:Nat→Prop} (hS:∀z,n≤z→S z):∃S1:Nat→Prop,(∀z,S1 z→S z∧z≠n∧z≠n+1)∧(∀z,n+1<z→S1 z)∧(∀z,z<n→S z→S1 z):=
 ⟨fun z=>S z∧z≠n∧z≠n+1,fun _ h=>h,fun z hz=>⟨hS z (by omega),by omega,by omega⟩,fun z hz h=>⟨h,by omega,by omega⟩⟩
theorem nah (h:w.alloc o=W):Hid (W.heap[w.heap.size]?=some o):=by subst h;exact Lib.hid (heap_alloc_new w o)
theorem lah (h:w.alloc o=W) (hb:Hid (Below w0.heap.size w0 w)):Hid (Below w0.heap.size w0 W):=by subst h;exact Lib.hid (b_ hb.out o)
theorem B_:Below n w w:=Below.refl n w
theorem CM {Q Q':Ending→World→Prop} (h:Calls P f args w Q) (hq:∀e w',Q e w'→Q' e w'):Calls P f args w Q':=Calls.mono h hq
theorem bK {l:List α} {i:Nat} {x:α} (h:l[i]?=some x):i<l.length:=(List.getElem?_eq_some_iff.1 h).1
theorem dF [Decidable p] (h:¬p):decide p=false:=decide_eq_false h
theorem dT [Decidable p] (h:p):decide p=true:=decide_eq_true h
theorem H_ (h:p):Hid p:=h
theorem lJ (h:Hid (w.heap[g]?=some x)) (hb:Below w.heap.size w w'):Hid (w'.heap[g]?=some x):=Lib.hid ((hb.block _ (Array.getElem?_eq_some_iff.1 h.out).1).trans h.out)
theorem lU (h:Hid (Below W0.heap.size W0 W)) (hb:Below W.heap.size W w1):Hid (Below W0.heap.size W0 w1):=Lib.hid (d_ h.out hb)
theorem bah (h:w.alloc o=W) (hx:Hid (w.heap[g]?=some x)):Hid (W.heap[g]?=some x):=lJ hx (by subst h;exact b_ (Below.refl w.heap.size w) o)
section
variable {w W:World} {b p q r s t u v x y z:Nat} {P Q R S T U V X Y Z:Option Value}
theorem kT (h:W.heap[b]?=w.heap[b]?) (g:w.cell? ⟨b,p,none⟩=P):W.cell? ⟨b,p,none⟩=P:=(World.cell?_of_block (a:=⟨b,_,none⟩) h).trans g
variable (h:W.heap[b]?=w.heap[b]?)
include h
variable (h0:w.cell? ⟨b,p,none⟩=P)
include h0
variable (h1:w.cell? ⟨b,q,none⟩=Q)
include h1
theorem kt2:W.cell? ⟨b,p,none⟩=P∧W.cell? ⟨b,q,none⟩=Q:=⟨kT h h0,kT h h1⟩
variable (h2:w.cell? ⟨b,r,none⟩=R)
include h2
theorem kt3:W.cell? ⟨b,p,none⟩=P∧W.cell? ⟨b,q,none⟩=Q∧W.cell? ⟨b,r,none⟩=R:=⟨kT h h0,kT h h1,kT h h2⟩
variable (h3:w.cell? ⟨b,s,none⟩=S)
include h3
theorem kt4:W.cell? ⟨b,p,none⟩=P∧W.cell? ⟨b,q,none⟩=Q∧W.cell? ⟨b,r,none⟩=R∧W.cell? ⟨b,s,none⟩=S:=⟨kT h h0,kT h h1,kT h h2,kT h h3⟩
variable (h4:w.cell? ⟨b,t,none⟩=T)
include h4
theorem kt5:W.cell? ⟨b,p,none⟩=P∧W.cell? ⟨b,q,none⟩=Q∧W.cell? ⟨b,r,none⟩=R∧W.cell? ⟨b,s,none⟩=S∧W.cell? ⟨b,t,none⟩=T:=⟨kT h h0,kT h h1,kT h h2,kT h h3,kT h h4⟩
variable (h5:w.cell? ⟨b,u,none⟩=U)
include h5
variable (h6:w.cell? ⟨b,v,none⟩=V)
include h6
theorem kt7:W.cell? ⟨b,p,none⟩=P∧W.cell? ⟨b,q,none⟩=Q∧W.cell? ⟨b,r,none⟩=R∧W.cell? ⟨b,s,none⟩=S∧W.cell? ⟨b,t,none⟩=T∧W.cell? ⟨b,u,none⟩=U∧W.cell? ⟨b,v,none⟩=V:=⟨kT h h0,kT h h1,kT h h2,kT h h3,kT h h4,kT h h5,kT h h6⟩
variable (h7:w.cell? ⟨b,x,none⟩=X)
include h7
variable (h8:w.cell? ⟨b,y,none⟩=Y)
include h8
theorem kt9:W.cell? ⟨b,p,none⟩=P∧W.cell? ⟨b,q,none⟩=Q∧W.cell? ⟨b,r,none⟩=R∧W.cell? ⟨b,s,none⟩=S∧W.cell? ⟨b,t,none⟩=T∧W.cell? ⟨b,u,none⟩=U∧W.cell? ⟨b,v,none⟩=V∧W.cell? ⟨b,x,none⟩=X∧W.cell? ⟨b,y,none⟩=Y:=⟨kT h h0,kT h h1,kT h h2,kT h h3,kT h h4,kT h h5,kT h h6,kT h h7,kT h h8⟩
variable (h9:w.cell? ⟨b,z,none⟩=Z)
include h9
theorem jN_:W.cell? ⟨b,p,none⟩=P∧W.cell? ⟨b,q,none⟩=Q∧W.cell? ⟨b,r,none⟩=R∧W.cell? ⟨b,s,none⟩=S∧W.cell? ⟨b,t,none⟩=T∧W.cell? ⟨b,u,none⟩=U∧W.cell? ⟨b,v,none⟩=V∧W.cell? ⟨b,x,none⟩=X∧W.cell? ⟨b,y,none⟩=Y∧W.cell? ⟨b,z,none⟩=Z:=⟨kT h h0,kT h h1,kT h h2,kT h h3,kT h h4,kT h h5,kT h h6,kT h h7,kT h h8,kT h h9⟩
end
theorem zl:(∀(α:Type) (l:List α) (i:Nat),l.toArray[i]?=l[i]?)∧(∀(α:Type) (a:α) (l:List α),(a :: l)[0]?=some a)∧(∀(α:Type) (a:α) (l:List α) (i:Nat),(a :: l)[i+1]?=l[i]?):=
 ⟨fun _ _ _=>by simp,fun _ _ _=>rfl,fun _ _ _ _=>rfl⟩
abbrev o_ (z:Nat):Option Addr:=some ⟨z,0,none⟩
abbrev E_ (A1:Option Addr) (m1 c1:Nat) (A2:Option Addr) (m2 c2:Nat) (A3:Option Addr) (m3 c3:Nat) (A4:Option Addr) (m4 c4:Nat) (A5:Option Addr) (m5 c5:Nat) (A6:Option Addr) (m6 c6:Nat) (A7:Option Addr) (m7 c7:Nat):Array Value:=#[.slice A1 m1 c1,.slice A2 m2 c2,.slice A3 m3 c3,.slice A4 m4 c4,.slice A5 m5 c5,.slice A6 m6 c6,.slice A7 m7 c7]
abbrev bJ (a b c d e f:Int) (s:ByteArray) (g h:Bool) (k:Int):Array Value:=#[.int .i64 a,.int .i64 b,.int .i64 c,.int .i64 d,.int .i64 e,.int .i64 f,.string s,.bool g,.bool h,.int .i64 k]
abbrev lO:Array Value:=#[.int .i64 0,.int .i64 0,.int .i64 0,.int .i64 0,.int .i64 0,.int .i64 0,.string ⟨#[]⟩,.bool false,.bool false,.int .i64 0]
abbrev pC (a b:Int) (s:ByteArray) (c d e f g h:Int):Array Value:=#[.int .i64 a,.int .i64 b,.string s,.int .i64 c,.int .i64 d,.int .i64 e,.int .i64 f,.int .i64 g,.int .i64 h]
theorem bH (h:p:=by simp [intOf];omega):p:=h
theorem O_ {p:Prop} (h:p:=by omega):p:=h
theorem s_ (h:p:=by kernel_rfl):p:=h
theorem z_ (h:p:=by simp):p:=h
theorem bX (h:p:=by decide):p:=h
theorem cO {a:α} {l:List α}:a ∈ a :: l:=(.head _)
theorem jQ {a b0:α} {l:List α}:a ∈ b0 :: a :: l:=(.tail _ (.head _))
theorem jB {a b0 b1:α} {l:List α}:a ∈ b0 :: b1 :: a :: l:=(.tail _ (.tail _ (.head _)))
theorem tI {a b0 b1 b2:α} {l:List α}:a ∈ b0 :: b1 :: b2 :: a :: l:=(.tail _ (.tail _ (.tail _ (.head _))))
theorem M4_ {a b0 b1 b2 b3:α} {l:List α}:a ∈ b0 :: b1 :: b2 :: b3 :: a :: l:=(.tail _ (.tail _ (.tail _ (.tail _ (.head _)))))
theorem M5_ {a b0 b1 b2 b3 b4:α} {l:List α}:a ∈ b0 :: b1 :: b2 :: b3 :: b4 :: a :: l:=(.tail _ (.tail _ (.tail _ (.tail _ (.tail _ (.head _))))))
theorem M6_ {a b0 b1 b2 b3 b4 b5:α} {l:List α}:a ∈ b0 :: b1 :: b2 :: b3 :: b4 :: b5 :: a :: l:=(.tail _ (.tail _ (.tail _ (.tail _ (.tail _ (.tail _ (.head _)))))))
theorem M7_ {a b0 b1 b2 b3 b4 b5 b6:α} {l:List α}:a ∈ b0 :: b1 :: b2 :: b3 :: b4 :: b5 :: b6 :: a :: l:=(.tail _ (.tail _ (.tail _ (.tail _ (.tail _ (.tail _ (.tail _ (.head _))))))))
theorem M9_ {a b0 b1 b2 b3 b4 b5 b6 b7 b8:α} {l:List α}:a ∈ b0 :: b1 :: b2 :: b3 :: b4 :: b5 :: b6 :: b7 :: b8 :: a :: l:=(.tail _ (.tail _ (.tail _ (.tail _ (.tail _ (.tail _ (.tail _ (.tail _ (.tail _ (.head _))))))))))
abbrev cU:=@List.getElem?_eq_getElem
abbrev aP:=@Option.some.inj
abbrev iS:=@Nat.lt_of_lt_of_le
abbrev fF:=@List.mem_of_getElem?
abbrev sG:=@Int.eq_ofNat_of_zero_le
abbrev dO:=@Nat.le_trans
abbrev aQ:=@Nat.le_refl
abbrev nU:=@List.getElem?_set_self
abbrev lL:=@List.length_set
abbrev jO:=@Below.heap_setCell
abbrev rN:=@Below.setCell
abbrev aI:=@Below.refl
abbrev pF:=@wpList_store_mid
abbrev cV:=@wpList_store_rowTo
abbrev gA_:=@World.grownBy_alloc
abbrev gN_:=@List.getElem?_set_ne
abbrev gM_:=@List.getElem_mem
abbrev xX:=@List.getElem?_eq_none
abbrev mS_:=@List.mem_singleton
abbrev qJ:=@List.mem_cons
abbrev tL_:=@List.take_of_length_le
abbrev gP_:=@List.getElem?_map
abbrev gL_:=@List.getElem?_append_left
abbrev aL_:=@List.length_append
abbrev rL_:=@List.length_replicate
abbrev bA_:=@ByteArray.size_append
abbrev bE_:=@ByteArray.size_extract
abbrev tv_:=@Int.tdiv_eq_ediv_of_nonneg
abbrev tm_:=@Int.tmod_eq_emod_of_nonneg
abbrev tG_:=@List.getElem?_take_of_lt
abbrev cL_:=@List.length_cons
abbrev mL_:=@List.length_map
universe u
theorem aZ {α:Sort u} (a:α):∃x,x=a:=⟨_,rfl⟩
theorem vK:(∀(α:Type) (n:Nat) (a:α) (l:List α),(a :: l).take (n+1)=a :: l.take n)∧(∀(α:Type) (l:List α),l.take 0=[])∧(∀(α:Type) (n:Nat) (a:α) (l:List α),(a :: l).drop (n+1)=l.drop n)∧(∀(α:Type) (l:List α),l.drop 0=l):=
 ⟨fun _ _ _ _=>rfl,fun _ _=>rfl,fun _ _ _ _=>rfl,fun _ _=>rfl⟩
abbrev I_ (x:Int):Value:= .int .i64 x
abbrev P_ (b:Nat):Value:= .pointer (some ⟨b,0,none⟩)
abbrev q_ (w w':World):Prop:=Below w.heap.size w w'
abbrev aW (w:World) (b:Nat) (r:Array Value) (t:TypeId):Prop:=w.heap[b]?=some (.cells r t (0,0))
abbrev S_ (a:Option Addr) (n c:Nat):Value:= .slice a n c
abbrev C_ (f:FuncId) (a:Array Value) (w:World) (Q:Ending→World→Prop):Prop:=Calls Tryz.prog f a w Q
theorem eT (h0:p0) (h1:p1) (h2:p2):Hid p0∧Hid p1∧Hid p2:=⟨h0,h1,h2⟩
theorem sP (h0:p0) (h1:p1) (h2:p2) (h3:p3):Hid p0∧Hid p1∧Hid p2∧Hid p3:=⟨h0,h1,h2,h3⟩
theorem h5_ (h0:p0) (h1:p1) (h2:p2) (h3:p3) (h4:p4):Hid p0∧Hid p1∧Hid p2∧Hid p3∧Hid p4:=⟨h0,h1,h2,h3,h4⟩
theorem h6_ (h0:p0) (h1:p1) (h2:p2) (h3:p3) (h4:p4) (h5:p5):Hid p0∧Hid p1∧Hid p2∧Hid p3∧Hid p4∧Hid p5:=⟨h0,h1,h2,h3,h4,h5⟩
theorem h8_ {p6:Prop} {p7:Prop} (h0:p0) (h1:p1) (h2:p2) (h3:p3) (h4:p4) (h5:p5) (h6:p6) (h7:p7):Hid p0∧Hid p1∧Hid p2∧Hid p3∧Hid p4∧Hid p5∧Hid p6∧Hid p7:=⟨h0,h1,h2,h3,h4,h5,h6,h7⟩
theorem kk_ (h0:Hid (w.heap[b0]?=some o0)) (h1:Hid (w.heap[b1]?=some o1)) (hb:Below w.heap.size w w'):Hid (w'.heap[b0]?=some o0)∧Hid (w'.heap[b1]?=some o1):=⟨lJ h0 hb,lJ h1 hb⟩
theorem iC {o2:Obj} (h0:Hid (w.heap[b0]?=some o0)) (h1:Hid (w.heap[b1]?=some o1)) (h2:Hid (w.heap[b2]?=some o2)) (h3:Hid (Below w0.heap.size w0 w)) (hb:Below w.heap.size w w'):Hid (w'.heap[b0]?=some o0)∧Hid (w'.heap[b1]?=some o1)∧Hid (w'.heap[b2]?=some o2)∧Hid (Below w0.heap.size w0 w'):=⟨lJ h0 hb,lJ h1 hb,lJ h2 hb,lU h3 hb⟩
theorem bN (h0:Hid (w.heap[b0]?=some o0)) (h1:Hid (w.heap[b1]?=some o1)) (h2:Hid (Below w0.heap.size w0 w)) (hb:Below w.heap.size w w'):Hid (w'.heap[b0]?=some o0)∧Hid (w'.heap[b1]?=some o1)∧Hid (Below w0.heap.size w0 w'):=⟨lJ h0 hb,lJ h1 hb,lU h2 hb⟩
theorem gZ (h0:Hid (w.heap[b0]?=some o0)) (h1:Hid (Below w0.heap.size w0 w)) (hb:Below w.heap.size w w'):Hid (w'.heap[b0]?=some o0)∧Hid (Below w0.heap.size w0 w'):=⟨lJ h0 hb,lU h1 hb⟩
theorem fD (h:p:=by (repeat (with_reducible first | assumption | exact Below.refl _ _ | refine b_ ?_ _ | apply Below.drew | refine below_drewN ?_ _ | (apply cW;assumption) | (refine Below.setCell ?_ (Nat.le_refl _) _) | (refine Below.setCell ?_ (by first | omega | (simp;done) | (go_simp;done)) _)))):p:=h
end
end Go.Proofs.YtehfhnbpnaiogaaGreatDoor
