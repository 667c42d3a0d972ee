/-
  Lemmas and contracts for the laws of synchronisations (layer 43), part 10; several texts joined by a program.
-/
import Derived.Test.YthhekebemmckcaaGreatDoorJ01
import Derived.Test.YthhekebemmckcaaGreatDoorJ02
import Derived.Test.YthhekebemmckcaaGreatDoorJ03
import Derived.Test.YthhekebemmckcaaGreatDoorJ09
namespace Go.Proofs.YthhekebemmckcaaGreatDoor
set_option linter.unusedVariables false
set_option linter.unusedSimpArgs false
set_option maxRecDepth 100000
set_option maxHeartbeats 16000000
open Go.RowKit
section
structure RR (α:Type) (k:Nat) where
 p:World→(Nat→Prop)→α→List Value→Prop
 st:∀w w' S a r,KeepS S w w'→p w S a r→p w' S a r
 wk:∀w S S' a r,(∀b,b<w.heap.size→S b→S' b)→p w S a r→p w S' a r
 sh:∀w S a r,p w S a r→r.length=k∧∀u ∈ r,u.oneCell'=true
def RR.flat {α:Type} {k:Nat} (f:α→List Value) (hf:∀a,(f a).length=k∧∀u ∈ f a,u.oneCell'=true):RR α k:=
 ⟨fun _ _ a r=>r=f a,fun _ _ _ _ _ _ h=>h,fun _ _ _ _ _ _ h=>h,fun _ _ a r h=>h ▸ hf a⟩
def All2 {α:Type} (p:α→List Value→Prop):List α→List (List Value)→Prop
 | [],[]=>True
 | a :: l,r :: rows=>p a r∧All2 p l rows
 | _,_=>False
theorem All2.len {α:Type} {p:α→List Value→Prop}:∀{l:List α} {rows:List (List Value)},All2 p l rows→rows.length=l.length
 | [],[],_=>rfl
 | _ :: _,_ :: _,h=>by simp [All2.len h.2]
 | [],_ :: _,h=>h.elim
 | _ :: _,[],h=>h.elim
theorem All2.imp {α:Type} {p q:α→List Value→Prop} (hpq:∀a r,p a r→q a r):∀{l:List α} {rows:List (List Value)},All2 p l rows→All2 q l rows
 | [],[],_=>trivial
 | _ :: _,_ :: _,h=>⟨hpq _ _ h.1,All2.imp hpq h.2⟩
 | [],_ :: _,h=>h.elim
 | _ :: _,[],h=>h.elim
theorem All2.at_ {α:Type} {p:α→List Value→Prop}:∀{l:List α} {rows:List (List Value)},All2 p l rows→∀{i:Nat} {a:α},l[i]?=some a→∃r,rows[i]?=some r∧p a r
 | [],[],_,i,a,h=>by simp at h
 | x :: l,r :: rows,h,0,a,hi=>by
  have:x=a:=by simpa using hi
  subst this
  exact ⟨r,rfl,h.1⟩
 | x :: l,r :: rows,h,i+1,a,hi=>by
  obtain ⟨r',h1,h2⟩:=All2.at_ h.2 (i:=i) (a:=a) (by simpa using hi)
  exact ⟨r',by simpa using h1,h2⟩
 | [],_ :: _,h,_,_,_=>h.elim
 | _ :: _,[],h,_,_,_=>h.elim
theorem All2.set {α:Type} {p:α→List Value→Prop}:∀{l:List α} {rows:List (List Value)},All2 p l rows→∀(i:Nat) {a:α} {r:List Value},p a r→All2 p (l.set i a) (rows.set i r)
 | [],[],_,_,_,_,_=>trivial
 | x :: l,r :: rows,h,0,a,r',hp=>⟨hp,h.2⟩
 | x :: l,r :: rows,h,i+1,a,r',hp=>⟨h.1,All2.set h.2 i hp⟩
 | [],_ :: _,h,_,_,_,_=>h.elim
 | _ :: _,[],h,_,_,_,_=>h.elim
theorem All2.snoc {α:Type} {p:α→List Value→Prop}:∀{l:List α} {rows:List (List Value)},All2 p l rows→∀{a:α} {r:List Value},p a r→All2 p (l ++ [a]) (rows ++ [r])
 | [],[],_,_,_,hp=>⟨hp,trivial⟩
 | x :: l,r :: rows,h,a,r',hp=>⟨h.1,All2.snoc h.2 hp⟩
 | [],_ :: _,h,_,_,_=>h.elim
 | _ :: _,[],h,_,_,_=>h.elim
theorem All2.app {α:Type} {p:α→List Value→Prop}:∀{l:List α} {rows:List (List Value)},All2 p l rows→∀{l':List α} {rows':List (List Value)},All2 p l' rows'→All2 p (l ++ l') (rows ++ rows')
 | [],[],_,_,_,h'=>h'
 | x :: l,r :: rows,h,_,_,h'=>⟨h.1,All2.app h.2 h'⟩
 | [],_ :: _,h,_,_,_=>h.elim
 | _ :: _,[],h,_,_,_=>h.elim
theorem All2.drop {α:Type} {p:α→List Value→Prop}:∀{l:List α} {rows:List (List Value)},All2 p l rows→∀(n:Nat),All2 p (l.drop n) (rows.drop n)
 | [],[],_,n=>by simp [All2]
 | x :: l,r :: rows,h,0=>h
 | x :: l,r :: rows,h,n+1=>All2.drop h.2 n
 | [],_ :: _,h,_=>h.elim
 | _ :: _,[],h,_=>h.elim
theorem All2.flat {α:Type} {f:α→List Value}:∀{l:List α} {rows:List (List Value)},All2 (fun a r=>r=f a) l rows→rows=l.map f
 | [],[],_=>rfl
 | x :: l,r :: rows,h=>by rw [List.map_cons,←h.1,←All2.flat h.2]
 | [],_ :: _,h=>h.elim
 | _ :: _,[],h=>h.elim
theorem All2.of_map {α:Type} {f:α→List Value}:∀(l:List α),All2 (fun a r=>r=f a) l (l.map f)
 | []=>trivial
 | x :: l=>⟨rfl,All2.of_map l⟩
def LA {α:Type} {k:Nat} (R:RR α k) (w:World) (S:Nat→Prop) (v:Value) (L:List α):Prop:=∃rows,RW k w S v rows∧All2 (R.p w S) L rows
theorem LA.kept {α:Type} {k:Nat} {R:RR α k} {w w':World} {S:Nat→Prop} {v:Value} {L:List α} (h:LA R w S v L) (hk:KeepS S w w'):LA R w' S v L:=by
 obtain ⟨rows,h1,h2⟩:=h
 exact ⟨rows,h1.kept hk,h2.imp fun a r h=>R.st _ _ _ _ _ hk h⟩
theorem LA.step {α:Type} {k:Nat} {R:RR α k} {w w':World} {S:Nat→Prop} {v:Value} {L:List α} (h:LA R w S v L) (hb:Below w.heap.size w w'):LA R w' S v L:=h.kept (KeepS.of_below hb)
theorem LA.alloc {α:Type} {k:Nat} {R:RR α k} {w:World} {S:Nat→Prop} {v:Value} {L:List α} (h:LA R w S v L) (o:Obj):LA R (w.alloc o) S v L:=h.kept (KeepS.of_alloc w o)
theorem LA.weak {α:Type} {k:Nat} {R:RR α k} {w:World} {S S':Nat→Prop} {v:Value} {L:List α} (h:LA R w S v L) (hS:∀b,b<w.heap.size→S b→S' b):LA R w S' v L:=by
 obtain ⟨rows,h1,h2⟩:=h
 exact ⟨rows,h1.weak hS,h2.imp fun a r h=>R.wk _ _ _ _ _ hS h⟩
theorem LA.nil {α:Type} {k:Nat} (R:RR α k) (w:World) (S:Nat→Prop):LA R w S (.slice none 0 0) []:=⟨[],RW.nil k w S,trivial⟩
theorem LA.form {α:Type} {k:Nat} {R:RR α k} {w:World} {S:Nat→Prop} {v:Value} {L:List α} (h:LA R w S v L):∃A cap,v = .slice A L.length cap∧L.length≤cap∧cap≤maxLen:=by
 obtain ⟨rows,h1,h2⟩:=h
 rw [←h2.len]
 exact h1.form
theorem LA.at_ {α:Type} {k:Nat} {R:RR α k} {w:World} {S:Nat→Prop} {v:Value} {L:List α} (h:LA R w S v L) {i:Nat} {a:α} (hi:L[i]?=some a):∃b o cap r,v = .slice (some ⟨b,o,none⟩) L.length cap∧L.length≤cap∧cap≤maxLen∧b<w.heap.size∧S b∧R.p w S a r∧
  ∀(j:Nat) (u:Value),r[j]?=some u→w.cell? ⟨b,o+i*k+j,none⟩=some u:=by
 obtain ⟨rows,h1,h2⟩:=h
 obtain ⟨r,hr,hp⟩:=h2.at_ hi
 obtain ⟨b,o,cap,hv,c1,c2,hb,hS,hc⟩:=h1.at_ (i:=i) ((g_l hr))
 rw [h2.len] at hv c1
 exact ⟨b,o,cap,r,hv,c1,c2,hb,hS,hp,fun j u hj=>hc i r j u hr hj⟩
theorem LA.cells {α:Type} {k:Nat} {R:RR α k} {w:World} {S:Nat→Prop} {b o n cap:Nat} {L:List α} (h:LA R w S (.slice (some ⟨b,o,none⟩) n cap) L) {i:Nat} {a:α} (hi:L[i]?=some a):b<w.heap.size∧S b∧∃r,R.p w S a r∧
  ∀(j:Nat) (u:Value),r[j]?=some u→w.cell? ⟨b,o+i*k+j,none⟩=some u:=by
 obtain ⟨b',o',cap',r,hv,c1,c2,hb,hS,hp,hc⟩:=h.at_ hi
 injection hv with e1 e2 e3
 injection e1 with e1
 injection e1 with e4 e5
 subst e4 e5
 exact ⟨hb,hS,r,hp,hc⟩
def LW {α:Type} {k:Nat} (R:RR α k) (w:World) (S:Nat→Prop) (g:Nat) (L:List α):Prop:=¬S g∧∃rows,WR k w g rows∧All2 (R.p w S) L rows
theorem LW.kept {α:Type} {k:Nat} {R:RR α k} {w w':World} {S:Nat→Prop} {g:Nat} {L:List α} (h:LW R w S g L) (hk:KeepS S w w') (hg:w'.heap[g]?=w.heap[g]?):LW R w' S g L:=by
 obtain ⟨h0,rows,h1,h2⟩:=h
 exact ⟨h0,rows,h1.block hg hk.1,h2.imp fun a r h=>R.st _ _ _ _ _ hk h⟩
theorem LW.lt {α:Type} {k:Nat} {R:RR α k} {w:World} {S:Nat→Prop} {g:Nat} {L:List α} (h:LW R w S g L):g<w.heap.size:=by obtain ⟨_,rows,h1,_⟩:=h;exact h1.2.1
theorem LW.step {α:Type} {k:Nat} {R:RR α k} {w w':World} {S:Nat→Prop} {g:Nat} {L:List α} (h:LW R w S g L) (hb:Below w.heap.size w w'):LW R w' S g L:=h.kept (KeepS.of_below hb) (hb.block g h.lt)
theorem LW.la {α:Type} {k:Nat} {R:RR α k} {w:World} {S S':Nat→Prop} {g cap:Nat} {L:List α} (h:LW R w S g L) (hg:S' g) (hS:∀b,b<w.heap.size→S b→S' b) (h1:L.length≤cap) (h2:cap≤maxLen):LA R w S' (.slice (some ⟨g,0,none⟩) L.length cap) L:=by
 obtain ⟨_,rows,w1,w2⟩:=h
 refine ⟨rows,?_,w2.imp fun a r h=>R.wk _ _ _ _ _ hS h⟩
 rw [←w2.len] at h1 ⊢
 exact w1.rw hg h1 h2
theorem LW.at_ {α:Type} {k:Nat} {R:RR α k} {w:World} {S:Nat→Prop} {g:Nat} {L:List α} (h:LW R w S g L) {i:Nat} {a:α} (hi:L[i]?=some a):∃r,R.p w S a r∧∀(j:Nat) (u:Value),r[j]?=some u→w.cell? ⟨g,i*k+j,none⟩=some u:=by
 obtain ⟨_,rows,h1,h2⟩:=h
 obtain ⟨r,hr,hp⟩:=h2.at_ hi
 exact ⟨r,hp,fun j u hj=>h1.2.2.2 i r j u hr hj⟩
theorem LW.setPart {α:Type} {k:Nat} {R:RR α k} {w:World} {S:Nat→Prop} {g:Nat} {L:List α} (h:LW R w S g L) {i p:Nat} {a a':α} {vs:List Value} (hi:L[i]?=some a) (hp:p+vs.length≤k) (h1:∀u ∈ vs,u.oneCell'=true)
  (hr:∀r,R.p w S a r→R.p w S a' (r.take p ++ vs ++ r.drop (p+vs.length))):LW R (w.setCells g (i*k+p) vs) S g (L.set i a'):=by
 obtain ⟨h0,rows,w1,w2⟩:=h
 obtain ⟨r,hri,hpr⟩:=w2.at_ hi
 have hkp:KeepS S w (w.setCells g (i*k+p) vs):=KeepS.of_setCells w g _ vs h0
 refine ⟨h0,_,w1.setPart hri hp rfl h1,(All2.imp (fun a r h=>R.st _ _ _ _ _ hkp h) w2).set i (R.st _ _ _ _ _ hkp (hr r hpr))⟩
theorem LW.set {α:Type} {k:Nat} {R:RR α k} {w:World} {S:Nat→Prop} {g:Nat} {L:List α} (h:LW R w S g L) {i:Nat} {a:α} {vs:List Value} (hi:i<L.length) (hr:R.p w S a vs):LW R (w.setCells g (i*k) vs) S g (L.set i a):=by
 obtain ⟨h0,rows,w1,w2⟩:=h
 have hkp:KeepS S w (w.setCells g (i*k) vs):=KeepS.of_setCells w g _ vs h0
 obtain ⟨s1,s2⟩:=R.sh _ _ _ _ hr
 exact ⟨h0,_,w1.setRow (by rw [w2.len];exact hi) s1 s2,(All2.imp (fun a r h=>R.st _ _ _ _ _ hkp h) w2).set i (R.st _ _ _ _ _ hkp hr)⟩
theorem LW.there {α:Type} {k:Nat} {R:RR α k} {w:World} {S:Nat→Prop} {g:Nat} {L:List α} (h:LW R w S g L) {i p n:Nat} (hi:i<L.length) (hp:p+n≤k):w.there g (i*k+p) n:=by
 obtain ⟨_,rows,w1,w2⟩:=h
 exact w1.there_ (by rw [w2.len];exact hi) hp
def LO {α:Type} {k:Nat} (R:RR α k) (e:TypeId) (w:World) (base:Nat) (S:Nat→Prop) (v:Value) (L:List α):Prop:=∃rows,w.ownsRow base e k v L.length rows.flatten∧All2 (R.p w (fun b=>S b∧v.ownBlock≠some b)) L rows
theorem LO.kept {α:Type} {k:Nat} {R:RR α k} {e:TypeId} {w w':World} {base:Nat} {S:Nat→Prop} {v:Value} {L:List α} (h:LO R e w base S v L) {r:Option Nat} (hg:w.grownBy w' r) (h1:r=none∨∃b,r=some b∧¬S b∧v.ownBlock≠some b):LO R e w' base S v L:=by
 obtain ⟨rows,w1,w2⟩:=h
 refine ⟨rows,w1.kept (row:=r) hg ?_,w2.imp fun a x h=>R.st _ _ _ _ _ ⟨hg.size,fun z hz hl=>hg.block z hl fun e=>?_⟩ h⟩
 ·rcases h1 with rfl | ⟨b,rfl,_,h3⟩
  ·cases hv:v.ownBlock with
   | none=>exact .inl rfl
   | some b=>exact .inr (by simp)
  ·exact .inr (by simpa using h3)
 ·rcases h1 with rfl | ⟨b,rfl,h2,h3⟩
  ·cases e
  ·injection e with e;exact h2 (e ▸ hz.1)
theorem LO.step {α:Type} {k:Nat} {R:RR α k} {e:TypeId} {w w':World} {base:Nat} {S:Nat→Prop} {v:Value} {L:List α} (h:LO R e w base S v L) (hb:Below w.heap.size w w'):LO R e w' base S v L:=h.kept (gb_of_below hb none) (.inl rfl)
theorem LO.alloc {α:Type} {k:Nat} {R:RR α k} {e:TypeId} {w:World} {base:Nat} {S:Nat→Prop} {v:Value} {L:List α} (h:LO R e w base S v L) (o:Obj):LO R e (w.alloc o) base S v L:=h.step (B_.alloc (Nat.le_refl _) _)
theorem LO.nil {α:Type} {k:Nat} (R:RR α k) (e:TypeId) (w:World) (base:Nat) (S:Nat→Prop):LO R e w base S (.slice none 0 0) []:=⟨[],World.ownsRow_nil _ _ _ _,trivial⟩
theorem All2.shp {α:Type} {k:Nat} {R:RR α k} {w:World} {S:Nat→Prop}:∀{L:List α} {rows:List (List Value)},All2 (R.p w S) L rows→Shp k rows
 | [],[],_=>Shp.nil
 | a :: L,r :: rows,h=>fun x hx=>by
  rcases List.mem_cons.1 hx with rfl | hx
  ·exact R.sh _ _ _ _ h.1
  ·exact All2.shp h.2 x hx
 | [],_ :: _,h=>h.elim
 | _ :: _,[],h=>h.elim
theorem LO.la {α:Type} {k:Nat} {R:RR α k} {e:TypeId} {w:World} {base:Nat} {S S':Nat→Prop} {v:Value} {L:List α} (h:LO R e w base S v L) (hS:∀b,b<w.heap.size→S b→S' b) (hb:∀b,base≤b→S' b):LA R w S' v L:=by
 obtain ⟨rows,w1,w2⟩:=h
 rw [←w2.len] at w1
 exact ⟨rows,RW.of_own w1 w2.shp (fun b hv=>hb b (w1.lt b hv).1),w2.imp fun a r h=>R.wk _ _ _ _ _ (fun b hb h=>hS b hb h.1) h⟩
theorem LO.lw {α:Type} {k:Nat} {R:RR α k} {e:TypeId} {w:World} {base:Nat} {S:Nat→Prop} {v:Value} {L:List α} (h:LO R e w base S v L) (h0:0<L.length):∃g cap,v = .slice (some ⟨g,0,none⟩) L.length cap∧L.length≤cap∧cap≤maxLen∧base≤g∧LW R w (fun b=>S b∧b≠g) g L:=by
 obtain ⟨rows,w1,w2⟩:=h
 have hl:=w2.len
 rw [←hl] at w1 h0 ⊢
 obtain ⟨g,cap,hv,c1,c2,hg,hw⟩:=WR.of_own w1 w2.shp h0
 refine ⟨g,cap,hv,c1,c2,hg,fun h=>h.2 rfl,rows,hw,w2.imp fun a r h=>R.wk _ _ _ _ _ (fun b _ h=>⟨h.1,fun e=>h.2 ?_⟩) h⟩
 rw [hv,e];rfl
theorem LO.own {α:Type} {k:Nat} {R:RR α k} {e:TypeId} {w:World} {base:Nat} {S:Nat→Prop} {v:Value} {L:List α} (h:LO R e w base S v L) {b:Nat} (hb:v.ownBlock=some b):base≤b∧b<w.heap.size:=by
 obtain ⟨rows,w1,_⟩:=h
 exact w1.lt b hb
def Elem (P:Program) (t e:TypeId) (k:Nat):Prop:=∃i z bytes,P.underlying t=some (.slice e)∧P.info? e=some i∧i.zero=some z∧i.size=k∧i.bytes=bytes∧z.cells.size=k∧0<k∧bytes≤1000
theorem wpList_copy {α:Type} {k:Nat} {P:Program} (R:RR α k) {t e:TypeId} (he:Elem P t e k) {w:World} {ops:Array Oper} {rest:List Oper} {o:Oper} {a:Act} {Q:Exit→Act→World→Prop}
  (hg:o.guard=none) (s x:Operand) (hop:o.op=Op.call {callee:=Callee.builtin Builtin.append,args:=#[s,x],argTypes:=#[t,t]})
  (hs:a.eval s = .slice none 0 0) (v:Value) (S:Nat→Prop) (L:List α) (hx:a.eval x=v) (hR:LA R w S v L) (hn:L.length≤1000000)
  (hK:∀v' w',LO R e w' w.heap.size S v' L→w.grownBy w' none→wpList P ops Q rest (a.put o.dst v') w'):wpList P ops Q (o :: rest) a w:=by
 obtain ⟨i,z,bytes,h1,h2,h3,h4,h5,h6,h7,h8⟩:=he
 obtain ⟨rows,r1,r2⟩:=hR
 refine wpList_copy_rows w hg s x t hop e i z k bytes h1 h2 h3 h4 h5 h6 h7 hs v S rows hx r1 h8 (by rw [r2.len];exact hn) fun v' w' hown hgr=>hK v' w' ⟨rows,by rw [←r2.len];exact hown,?_⟩ hgr
 have hk:KeepS S w w':=⟨hgr.size,fun z _ hl=>hgr.block z hl (by simp)⟩
 have hlt:∀b,v'.ownBlock=some b→w.heap.size≤b:=fun b hb=>(hown.lt b hb).1
 refine r2.imp fun a r h=>R.wk _ (fun b=>S b∧b<w.heap.size) _ _ _ (fun b _ h=>⟨h.1,fun e=>by have:=hlt b e;omega⟩) (R.st w w' _ _ _ ⟨hk.1,fun z hz hl=>hk.2 z hz.1 hl⟩ (R.wk _ _ _ _ _ (fun b hb h=>⟨h,hb⟩) h))
theorem wpList_push {α:Type} {k:Nat} {P:Program} (R:RR α k) {t e:TypeId} (he:Elem P t e k) {w:World} {ops:Array Oper} {rest:List Oper} {o:Oper} {a:Act} {Q:Exit→Act→World→Prop}
  (hg:o.guard=none) (s x:Operand) (hop:o.op=Op.call {callee:=Callee.builtin Builtin.append,args:=#[s,x],argTypes:=#[t,t]})
  (v:Value) (base:Nat) (S:Nat→Prop) (L:List α) (hs:a.eval s=v) (hown:LO R e w base S v L) (hbase:base≤w.heap.size) (hn:L.length≤1000000)
  (g:Nat) (cs:Array Value) (hx:a.eval x = .slice (some ⟨g,0,none⟩) 1 1) (tg:TypeId) (hblk:w.heap[g]?=some (.cells cs tg (0,0))) (y:α) (hy:R.p w (fun b=>S b∧v.ownBlock≠some b) y cs.toList)
  (hK:∀v' w',LO R e w' base S v' (L ++ [y])→w.grownBy w' v.ownBlock→(∀b,v'.ownBlock=some b→v.ownBlock=some b∨b=w.heap.size)→wpList P ops Q rest (a.put o.dst v') w'):wpList P ops Q (o :: rest) a w:=by
 obtain ⟨i,z,bytes,h1,h2,h3,h4,h5,h6,h7,h8⟩:=he
 obtain ⟨rows,r1,r2⟩:=hown
 obtain ⟨s1,s2⟩:=R.sh _ _ _ _ hy
 have hb:(L.length+1)*bytes≤1000001*1000:=Nat.mul_le_mul (by omega) h8
 refine wpList_append_lies w hg s x t hop base e i z k bytes h1 h2 h3 h4 h5 h6 h7 v L.length rows.flatten hs r1 ⟨g,0,none⟩ 1 1 cs.toList hx (by rw [s1];omega) (World.news_of_block hblk) s2 (by omega) (by unfold maxLen;omega) (by omega) hbase w.heap.size rfl fun g' cap w' hown' hgr hat hlt=>hK _ _ ⟨rows ++ [cs.toList],?_,?_⟩ hgr ?_
 ·rw [List.length_append,List.flatten_append,List.flatten_cons,List.flatten_nil,List.append_nil]
  exact hown'
 ·have hkp:KeepS (fun b=>(S b∧v.ownBlock≠some b)∧b<w.heap.size) w w':=⟨hgr.size,fun z hz hl=>hgr.block z hl fun e=>hz.1.2 e.symm⟩
  have up:∀a r,R.p w (fun b=>S b∧v.ownBlock≠some b) a r→R.p w' (fun b=>S b∧(Value.slice (some ⟨g',0,none⟩) (L.length+1) cap).ownBlock≠some b) a r:=fun a r h=>
   R.wk _ _ _ _ _ (fun b _ h=>⟨h.1.1,fun e=>by
    simp only [Value.ownBlock,Option.some.injEq] at e
    subst e
    rcases hat with hat | hat
    ·exact h.1.2 hat
    ·exact absurd h.2 (by omega)⟩) (R.st _ _ _ _ _ hkp (R.wk _ _ _ _ _ (fun b hb h=>⟨h,hb⟩) h))
  exact (r2.imp up).snoc (up _ _ hy)
 ·intro b hb
  simp only [Value.ownBlock,Option.some.injEq] at hb
  subst hb
  exact hat
theorem app_zero {P:Program} (t ty e:TypeId) (i:TypeInfo) (ht:P.underlying t=some (.slice e)) (hi:P.info? e=some i) (A:Addr) (B:Option Addr) (n cap c:Nat) (hnc:n≤cap) (w:World) :
  (Builtin.append_ #[t,t] ty #[.slice (some A) n cap,.slice B 0 c]).run P w = .ok (.slice (some A) n cap) w:=by
 cases B <;> simp [Builtin.append_,hnc,storeCells,run_underlying ht,sizeOf,typeInfo,hi,Builtin.lenOf,Builtin.firstCells,loadCells,loadCellsFrom]
theorem wpList_cat {α:Type} {k:Nat} {P:Program} (R:RR α k) {t e:TypeId} (he:Elem P t e k) {w:World} {ops:Array Oper} {rest:List Oper} {o:Oper} {a:Act} {Q:Exit→Act→World→Prop}
  (hg:o.guard=none) (s x:Operand) (hop:o.op=Op.call {callee:=Callee.builtin Builtin.append,args:=#[s,x],argTypes:=#[t,t]})
  (v:Value) (base:Nat) (S:Nat→Prop) (L:List α) (hs:a.eval s=v) (hown:LO R e w base S v L) (hbase:base≤w.heap.size) (hn:L.length≤1000000)
  (u:Value) (M:List α) (hx:a.eval x=u) (hM:LA R w (fun b=>S b∧v.ownBlock≠some b) u M) (hm:M.length≤1000000)
  (hK:∀v' w',LO R e w' base S v' (L ++ M)→w.grownBy w' v.ownBlock→(∀b,v'.ownBlock=some b→v.ownBlock=some b∨b=w.heap.size)→wpList P ops Q rest (a.put o.dst v') w'):wpList P ops Q (o :: rest) a w:=by
 obtain ⟨i,z,bytes,h1,h2,h3,h4,h5,h6,h7,h8⟩:=he
 obtain ⟨rows,r1,r2⟩:=hown
 obtain ⟨mr,⟨A,cap,hv,hc1,hc2,hsh,hc⟩,m2⟩:=hM
 have hml:=m2.len
 by_cases h0:M=[]
 ·subst h0
  refine wpList_plain hg fun K hK'=>?_
  have hr0:mr.length=0:=by simpa using hml
  have hL:LO R e w base S v (L ++ []):=by rw [List.append_nil];exact ⟨rows,r1,r2⟩
  have hfin:=hK' _ _ (hK v w hL (World.grownBy.refl _ _) (fun b hb=> .inl hb))
  have hrun:(Builtin.append_ #[t,t] o.type #[v,.slice A 0 cap]).run P w = .ok v w:=by
   rcases r1.2 with ⟨q1,q2⟩ | ⟨g,c,cur,q1,q2,q3,q4,q5,q6,q7⟩
   ·rw [q1];exact app_none t _ e i h1 h2 A cap w
   ·rw [q1];exact app_zero t _ e i h1 h2 _ A _ _ cap q4 w
  unfold Oper.wp execOp
  simp only [hop,resolve,invoke,builtin,Sem.run_bind,Sem.run_pure,Result.andThen_ok,List.map_toArray,List.map_cons,List.map_nil,hs,hx,hv,hr0,hrun]
  exact hfin
 ·have hpos:0<mr.length:=by rw [hml];exact List.length_pos_iff.2 h0
  rcases hc with hc | ⟨b,o',e1,hb',hS,hc⟩
  ·subst hc;simp at hpos
  ·subst e1
   have hb:(L.length+mr.length)*bytes≤2000000*1000:=Nat.mul_le_mul (by omega) h8
   refine wpList_append_lies w hg s x t hop base e i z k bytes h1 h2 h3 h4 h5 h6 h7 v L.length rows.flatten hs r1 ⟨b,o',none⟩ mr.length cap mr.flatten (hx.trans hv) (flat_len mr hsh.len) (fun j u hj=>?_) hsh.one hpos (by unfold maxLen;omega) (by omega) hbase w.heap.size rfl fun g' cap w' hown' hgr hat hlt=>hK _ _ ⟨rows ++ mr,?_,?_⟩ hgr ?_
   ·obtain ⟨i',r,j',hi',hj',rfl⟩:=flat_ix mr hsh.len j u hj
    rw [Addr.add_mid,←Nat.add_assoc]
    exact hc i' r j' u hi' hj'
   ·rw [List.length_append,List.flatten_append,←hml]
    exact hown'
   ·have hkp:KeepS (fun b=>(S b∧v.ownBlock≠some b)∧b<w.heap.size) w w':=⟨hgr.size,fun z hz hl=>hgr.block z hl fun e=>hz.1.2 e.symm⟩
    have up:∀a r,R.p w (fun b=>S b∧v.ownBlock≠some b) a r→R.p w' (fun b=>S b∧(Value.slice (some ⟨g',0,none⟩) (L.length+mr.length) cap).ownBlock≠some b) a r:=fun a r h=>
     R.wk _ _ _ _ _ (fun b _ h=>⟨h.1.1,fun e=>by
      simp only [Value.ownBlock,Option.some.injEq] at e
      subst e
      rcases hat with hat | hat
      ·exact h.1.2 hat
      ·exact absurd h.2 (by omega)⟩) (R.st _ _ _ _ _ hkp (R.wk _ _ _ _ _ (fun b hb h=>⟨h,hb⟩) h))
    exact (r2.imp up).app (m2.imp up)
   ·intro b hb
    simp only [Value.ownBlock,Option.some.injEq] at hb
    subst hb
    exact hat
theorem LO.fresh {α:Type} {k:Nat} {R:RR α k} {e:TypeId} {w:World} {base g:Nat} {S:Nat→Prop} {rows:List (List Value)} {L:List α} (hg:w.heap[g]?=some (.cells rows.flatten.toArray e (0,0))) (hb:base≤g) (h:All2 (R.p w (fun b=>S b∧g≠b)) L rows) (hn:L.length≤maxLen):LO R e w base S (.slice (some ⟨g,0,none⟩) L.length L.length) L:=by
 refine ⟨rows,⟨?_,.inr ⟨g,L.length,_,rfl,hb,hg,Nat.le_refl _,hn,?_,?_⟩⟩,h.imp fun a r h=>R.wk _ _ _ _ _ (fun b _ h=>⟨h.1,fun e=>h.2 (by simpa [Value.ownBlock] using e)⟩) h⟩
 ·rw [flat_len rows h.shp.len,h.len]
 ·rw [List.size_toArray,flat_len rows h.shp.len,h.len]
 ·rw [List.toList_toArray,List.take_of_length_le (by rw [flat_len rows h.shp.len,h.len];exact Nat.le_refl _)]
theorem All2.take {α:Type} {p:α→List Value→Prop}:∀{l:List α} {rows:List (List Value)},All2 p l rows→∀(n:Nat),All2 p (l.take n) (rows.take n)
 | [],[],_,n=>by simp [All2]
 | x :: l,r :: rows,h,0=>trivial
 | x :: l,r :: rows,h,n+1=>⟨h.1,All2.take h.2 n⟩
 | [],_ :: _,h,_=>h.elim
 | _ :: _,[],h,_=>h.elim
theorem LA.take {α:Type} {k:Nat} {R:RR α k} {w:World} {S:Nat→Prop} {A:Option Addr} {m cap:Nat} {L:List α} (h:LA R w S (.slice A m cap) L) {n:Nat} (hn:n≤L.length):LA R w S (.slice A n cap) (L.take n):=by
 obtain ⟨rows,⟨A',cap',e,c1,c2,hs,hc⟩,h2⟩:=h
 injection e with e1 e2 e3
 subst e1 e3
 have hl:=h2.len
 refine ⟨rows.take n,⟨A,cap,by rw [List.length_take,Nat.min_eq_left (by omega)],by rw [List.length_take];omega,c2,hs.sub fun r hr=>List.mem_of_mem_take hr,?_⟩,h2.take n⟩
 rcases hc with hc | ⟨b,o,e1,hb,hS,hc⟩
 ·exact .inl (by rw [hc];simp)
 ·refine .inr ⟨b,o,e1,hb,hS,fun i r j u hi hj=>?_⟩
  rw [List.getElem?_take] at hi
  split at hi
  ·exact hc i r j u hi hj
  ·cases hi
theorem LA.drop {α:Type} {k:Nat} {R:RR α k} {w:World} {S:Nat→Prop} {b o m cap:Nat} {L:List α} (h:LA R w S (.slice (some ⟨b,o,none⟩) m cap) L) {n:Nat} (hn:n≤L.length) (A:Option Addr) (hA:n<L.length→A=some ⟨b,o+n*k,none⟩):LA R w S (.slice A (L.length - n) (cap - n)) (L.drop n):=by
 obtain ⟨rows,⟨A',cap',e,c1,c2,hs,hc⟩,h2⟩:=h
 injection e with e1 e2 e3
 subst e1 e3
 have hl:=h2.len
 refine ⟨rows.drop n,⟨A,cap - n,by rw [List.length_drop,hl],by rw [List.length_drop];omega,by omega,hs.sub fun r hr=>List.mem_of_mem_drop hr,?_⟩,h2.drop n⟩
 by_cases hlt:n<L.length
 ·rcases hc with hc | ⟨b',o',e1,hb,hS,hc⟩
  ·rw [hc] at hl;simp at hl;omega
  ·injection e1 with e1
   injection e1 with e4 e5
   subst e4 e5
   refine .inr ⟨b,o+n*k,hA hlt,hb,hS,fun i r j u hi hj=>?_⟩
   rw [List.getElem?_drop] at hi
   have:=hc (n+i) r j u hi hj
   rw [Nat.add_mul] at this
   rw [show o+n*k+i*k+j=o+(n*k+i*k)+j by omega]
   exact this
 ·exact .inl (List.drop_eq_nil_of_le (by omega))
def IntR:RR Int 1:=RR.flat (fun x=>[.int .i64 x]) (fun a=>⟨rfl,fun u hu=>by simp at hu;subst hu;rfl⟩)
def IL (w:World) (S:Nat→Prop) (v:Value) (l:List Int):Prop:=LA IntR w S v l
theorem int_el:Elem Tryz.prog 22 3 1:=by
 obtain ⟨i,h1,h2,h3,h4⟩:=info_parts int_info
 exact ⟨i,_,8,Tryz.underlying22,h1,h2,h3,h4,rfl,by omega,by omega⟩
theorem IL.cell {w:World} {S:Nat→Prop} {v:Value} {l:List Int} (h:LA IntR w S v l) {i:Nat} {x:Int} (hi:l[i]?=some x):∃b o cap,v = .slice (some ⟨b,o,none⟩) l.length cap∧l.length≤cap∧cap≤maxLen∧b<w.heap.size∧S b∧w.cell? ⟨b,o+i,none⟩=some (.int .i64 x):=by
 obtain ⟨b,o,cap,r,hv,c1,c2,hb,hS,hp,hc⟩:=h.at_ hi
 have hp:r=[.int .i64 x]:=hp
 subst hp
 exact ⟨b,o,cap,hv,c1,c2,hb,hS,by have:=hc 0 _ rfl;rw [Nat.mul_one] at this;exact this⟩
theorem LA.old {α:Type} {k:Nat} {R:RR α k} {w:World} {S:Nat→Prop} {v:Value} {L:List α} (h:LA R w S v L):LA R w (fun b=>S b∧b<w.heap.size) v L:=h.weak fun b hb h=>⟨h,hb⟩
theorem LA.weakN {α:Type} {k:Nat} {R:RR α k} {w:World} {S:Nat→Prop} {v:Value} {L:List α} {o:Obj} {n m c:Nat} (_:LA R (w.alloc o) S v L) (h:LA R w S v L):LA R (w.alloc o) (fun b=>(S b∧b<w.heap.size)∧(Value.slice (some ⟨w.heap.size,n,none⟩) m c).ownBlock≠some b) v L:=
 (h.old.alloc o).weak fun b _ h=>⟨h,fun e=>by simp [Value.ownBlock] at e;omega⟩
theorem LO.base_le {α:Type} {k:Nat} {R:RR α k} {e:TypeId} {w:World} {base base':Nat} {S:Nat→Prop} {v:Value} {L:List α} (h:LO R e w base S v L) (hb:base'≤base):LO R e w base' S v L:=by
 obtain ⟨rows,⟨r1,r2⟩,r3⟩:=h
 refine ⟨rows,⟨r1,?_⟩,r3⟩
 rcases r2 with r2 | ⟨g,cap,cur,q1,q2,q3⟩
 ·exact .inl r2
 ·exact .inr ⟨g,cap,cur,q1,Nat.le_trans hb q2,q3⟩
theorem LW.slot {α:Type} {k:Nat} {R:RR α k} {w:World} {S:Nat→Prop} {g:Nat} {L:List α} (h:LW R w S g L) {i p:Nat} (hi:i<L.length) (hp:p<k):(∃u,w.cell? ⟨g,i*k+p,none⟩=some u)∧w.frozen? ⟨g,i*k+p,none⟩=false:=by
 have:=h.there (i:=i) (p:=p) (n:=1) hi (by omega) 0 (by omega)
 rw [Nat.add_zero] at this
 exact ⟨Option.isSome_iff_exists.1 this.1,this.2⟩
theorem LW.setOne {α:Type} {k:Nat} {R:RR α k} {w:World} {S:Nat→Prop} {g:Nat} {L:List α} (h:LW R w S g L) {i p:Nat} {a a':α} {v:Value} (hi:L[i]?=some a) (hp:p<k) (h1:v.oneCell'=true)
  (hr:∀r,R.p w S a r→R.p w S a' (r.take p ++ [v] ++ r.drop (p+1))):LW R (w.setCell ⟨g,i*k+p,none⟩ v) S g (L.set i a'):=
 h.setPart (vs:=[v]) hi (by simp;omega) (fun u hu=>by simp at hu;subst hu;exact h1) hr
end
section
def RetQ (v:Value) (w:World) (e:Ending) (w':World):Prop:=e = .returned v∧w=w'
def atL (l:List Int) (n:Int):Int:=if n ∈ l then (l.idxOf n:Int) else -1
theorem atL_found {l:List Int} {k:Nat} {n:Int} (hi:l[k]?=some n) (hn:n ∉ l.take k):atL l n=k:=by
 have hm:n ∈ l:=List.mem_of_getElem? hi
 unfold atL
 rw [if_pos hm]
 have hkl:=(g_l hi)
 have e:l=l.take k ++ n :: l.drop (k+1):=by
  conv=>lhs;rw [←List.take_append_drop k l,List.drop_eq_getElem_cons hkl,(List.getElem?_eq_some_iff.1 hi).2]
 rw [e,List.idxOf_append,if_neg hn]
 simp [List.idxOf_cons]
 omega
theorem atL_none {l:List Int} {n:Int} (hn:n ∉ l.take l.length):atL l n=-1:=by
 rw [List.take_length] at hn
 unfold atL;rw [if_neg hn]
theorem not_take_succ {l:List Int} {k:Nat} {n x:Int} (hi:l[k]?=some x) (hn:n ∉ l.take k) (hx:x≠n):n ∉ l.take (k+1):=by
 rw [List.take_add_one,hi,Option.toList_some,List.mem_append,List.mem_singleton]
 rintro (h | h)
 ·exact hn h
 ·exact hx h.symm
theorem at_w (l:List Int) (n:Int) (v:Value) (S:Nat→Prop) (w:World) (h:LA IntR w S v l):Calls Tryz.prog 35 #[v,.int .i64 n] w (RetQ (.int .i64 (atL l n)) w):=by
 obtain ⟨A,cap,rfl,hc,hm⟩:=h.form
 have H:=H_ h
 clear h
 unfold maxLen at hm
 go_enter Tryz.func35,Tryz.ntmps35
 go_wp2
 go_loop [5] (fun i=>∃k:Nat,i = .int .i64 k∧k≤l.length∧n ∉ l.take k) (fun i=>l.length - (intOf i).toNat)
 case atStart=>exact ⟨0,rfl,by omega,by simp⟩
 case round=>
  obtain ⟨k,rfl,hk,hn⟩:=hrel
  have HN:=H_ hn
  clear hn
  by_cases hlt:k<l.length
  ·obtain ⟨x,hx⟩:∃x,l[k]?=some x:=⟨_,List.getElem?_eq_getElem hlt⟩
   obtain ⟨b,o,cap',hv,_,_,hb,_,c0⟩:=IL.cell H.out hx
   injection hv with e1 e2 e3
   subst e1 e3
   have HX:=H_ hx
   clear hx e2
   by_cases hxn:x=n
   ·subst hxn
    go_wp2
    go_ret
    exact ⟨ret_int (atL_found HX.out HN.out).symm,rfl⟩
   ·go_wp2
    go_round
    case rel=>exact ⟨k+1,by go_num,by omega,not_take_succ HX.out HN.out hxn⟩
    case measure=>simp [intOf];omega
  ·obtain rfl:k=l.length:=by omega
   go_wp2
   go_ret
   exact ⟨ret_int (atL_none HN.out).symm,rfl⟩
def outL (l:List Int) (n:Int):List Int:=l.filter (fun x=>x != n)
theorem outL_take {l:List Int} {n:Int} {k:Nat} {x:Int} (h:l[k]?=some x):outL (l.take (k+1)) n=outL (l.take k) n ++ if x != n then [x] else []:=by
 unfold outL
 rw [List.take_add_one,h,Option.toList_some,List.filter_append,List.filter_cons,List.filter_nil]
theorem outL_len (l:List Int) (n:Int):(outL l n).length≤l.length:=List.length_filter_le _ _
def RetIL (l:List Int) (S:Nat→Prop) (w:World) (e:Ending) (w':World):Prop:=∃v,e = .returned v∧LA IntR w' S v l∧Below w.heap.size w w'
theorem without_w (l:List Int) (n:Int) (v:Value) (S:Nat→Prop) (w:World) (h:LA IntR w S v l) (hl:l.length≤1000) (hS:∀b,w.heap.size≤b→S b):Calls Tryz.prog 66 #[v,.int .i64 n] w (RetIL (outL l n) S w):=by
 obtain ⟨A,cap,rfl,hc,hm⟩:=h.form
 have H:=H_ h
 clear h
 unfold maxLen at hm
 go_enter Tryz.func66,Tryz.ntmps66
 go_wp2
 go_loopw [5,6] (fun u i wx=>∃k:Nat,i = .int .i64 k∧k≤l.length∧LO IntR 3 wx w.heap.size S u (outL (l.take k) n)∧Below w.heap.size w wx) (fun _ i _=>l.length - (intOf i).toNat)
 case atStart=>exact ⟨0,rfl,by omega,LO.nil _ _ _ _ _,Below.refl _ _⟩
 case round=>
  obtain ⟨k,rfl,hk,ho,hb⟩:=hrel
  have HO:=H_ ho
  have HB:=H_ hb
  clear ho hb
  by_cases hlt:k<l.length
  ·obtain ⟨x,hx⟩:∃x,l[k]?=some x:=⟨_,List.getElem?_eq_getElem hlt⟩
   obtain ⟨b,o,cap',hv,_,_,hb,_,c0⟩:=IL.cell (H.out.step HB.out) hx
   injection hv with e1 e2 e3
   subst e1 e3
   have HX:=H_ (outL_take (n:=n) hx)
   have hol:=outL_len (l.take k) n
   rw [List.length_take] at hol
   clear hx e2
   by_cases hxn:x=n
   ·subst hxn
    have HX':=H_ (show outL (l.take (k+1)) x=outL (l.take k) x by rw [HX.out];simp)
    go_wp2
    go_roundw
    case rel=>exact ⟨k+1,by go_num,by omega,by rw [HX'.out];exact HO.out,HB.out⟩
    case measure=>simp [intOf];omega
   ·have HX':=H_ (show outL (l.take (k+1)) n=outL (l.take k) n ++ [x] by rw [HX.out];simp [hxn])
    go_wp2_with (at_builtin;go_loud (refine wpList_push IntR int_el rfl (.tmp 19) (.tmp 24) rfl _ w.heap.size S (outL (l.take k) n) rfl (HO.out.alloc _) (by have:=HB.out.size;simp;omega) (by omega) _ #[.int .i64 x] rfl _ (heap_at_new _ _ _ rfl) x rfl ?_);intro v4 w4 hown4 hg4 hat4)
    go_roundw
    case rel=>exact ⟨k+1,by go_num,by omega,by rw [HX'.out];exact hown4,(bl_alloc HB.out _).grown hg4 (bl_alloc HB.out _).size (fun b hb=>(HO.out.own hb).1)⟩
    case measure=>simp [intOf];omega
  ·obtain rfl:k=l.length:=by omega
   rw [List.take_length] at HO
   go_wp2
   go_ret
   exact ⟨_,rfl,HO.out.la (fun _ _ h=>h) hS,HB.out⟩
theorem front_w (l:List Int) (n:Int) (v:Value) (S:Nat→Prop) (w:World) (h:LA IntR w S v l) (hl:l.length≤1000) (hS:∀b,w.heap.size≤b→S b):Calls Tryz.prog 124 #[v,.int .i64 n] w (RetIL (n :: l) S w):=by
 have H:=H_ (h.alloc (.cells #[.int .i64 n] 3))
 have HO:=H_ (LO.fresh (R:=IntR) (e:=3) (base:=w.heap.size) (S:=fun b=>S b∧b<w.heap.size) (rows:=[[.int .i64 n]]) (L:=[n]) (heap_alloc_at w (.cells #[.int .i64 n] 3)) (Nat.le_refl _) ⟨rfl,trivial⟩ (by unfold maxLen;simp))
 have HB:=H_ (bl_alloc (Below.refl w.heap.size w) (.cells #[.int .i64 n] 3))
 have H0:=H_ h
 clear h
 go_enter Tryz.func124,Tryz.ntmps124
 go_wp2_with (at_builtin;go_loud (refine wpList_cat IntR int_el rfl (.tmp 6) (.tmp 7) rfl _ w.heap.size (fun b=>S b∧b<w.heap.size) [n] rfl HO.out (by simp) (by simp) _ l rfl (H.out.weakN H0.out) (by omega) ?_);intro v4 w4 hown4 hg4 hat4)
 go_ret
 exact ⟨_,rfl,hown4.la (fun _ _ h=>h.1) hS,HB.out.grown hg4 HB.out.size (fun b hb=>Nat.le_of_eq (Option.some.inj hb))⟩
end
section
section
variable {P:Program} {ops:Array Oper} {C:Bool→World→Prop} {kp:Nat→Bool} {G:Nat→Value→World→Prop} {s:Nat} {pl:Nat→Bool}
def RelOpB (P:Program) (ops:Array Oper) (C:Bool→World→Prop) (kp:Nat→Bool) (G:Nat→Value→World→Prop) (s:Nat) (pl:Nat→Bool) (i:Nat) (o:Oper) (a:Act):Prop:=
 ∀b w,(b=true→i≠s∧pl i=false)→C b w→(∀j,Region.waitsFor .any ops i j=true→(b=true→kp j=true)→G j (atOp ops a j) w)→∀K:Act→World→Prop,(∀v w',C (b||i == s) w'→(∀j u,(i=s→j<s)→(i=s∨b=true→kp j=true)→G j u w→G j u w')→G i v w'→K (a.put o.dst v) w')→Oper.wp P o a w K QNone
def relWalkB (P:Program) (ops:Array Oper) (C:Bool→World→Prop) (kp:Nat→Bool) (G:Nat→Value→World→Prop) (s:Nat) (pl:Nat→Bool) (T:Act→Prop):Nat→List Oper→Act→Prop
 | _,[],a=>T a
 | i,o :: l,a=>RelOpB P ops C kp G s pl i o a∧∀v,relWalkB P ops C kp G s pl T (i+1) l (a.put o.dst v)
def GB (kp:Nat→Bool) (G:Nat→Value→World→Prop) (s:Nat):Bool→Nat→Value→World→Prop
 | false,j,v,w=>¬(j=s∨(s<j∧kp j=true))∧G j v w
 | true,j,v,w=>kp j=true→G j v w
theorem relWalkE_of_B {T T':Act→Prop} (hT:∀a,T a→T' a) (hkp:∀j,j<ops.size→s<j→kp j=true→Region.waitsFor .any ops j s=true):∀(l:List Oper) (i:Nat) (a:Act),(∀k,l[k]?=ops[i+k]?)→relWalkB P ops C kp G s pl T i l a→
  relWalkE (Γ:=Bool) P ops (fun g d w=>g=d s∧C g w) (GB kp G s) s pl T' i l a
 | [],_,a,_,h=>hT a h
 | o :: l,i,a,hl,h=>by
  have hi:i<ops.size:=(Array.getElem?_eq_some_iff.1 ((hl 0).symm.trans rfl)).1
  refine ⟨fun g d w hn hp ⟨eg,hC⟩ hd K hK=>?_,fun v=>relWalkE_of_B hT hkp l (i+1) _ (fun k=>by have:=hl (k+1);rw [show i+1+k=i+(k+1) by omega];simpa using this) (h.2 v)⟩
  have hss:(s == i)=(i == s):=beq_comm' s i
  cases g with
  | false=>
   refine h.1 false w (fun hb=>by cases hb) hC (fun j hj _=>(hd j hj).2) K fun v w' h1 h2 h3=>hK (false||i == s) v w' ⟨by show _=(d s||s == i);rw [←eg,hss],h1⟩ ?_ ?_
   ·intro j u hg
    by_cases e:i=s
    ·rw [show (false||i == s)=true by simp [e]]
     intro hk
     have hj:j<s:=by
      rcases Nat.lt_trichotomy j s with h | h | h
      ·exact h
      ·exact absurd (.inl h) hg.1
      ·exact absurd (.inr ⟨h,hk⟩) hg.1
     exact h2 j u (fun _=>hj) (fun _=>hk) hg.2
    ·rw [show (false||i == s)=false by simp [e]]
     exact ⟨hg.1,h2 j u (fun h=>absurd h e) (fun h=>by rcases h with h | h;exact absurd h e;cases h) hg.2⟩
   ·by_cases e:i=s
    ·rw [show (false||i == s)=true by simp [e]]
     exact fun _=>h3
    ·rw [show (false||i == s)=false by simp [e]]
     refine ⟨fun h=>?_,h3⟩
     rcases h with h | h
     ·exact e h
     ·exact (hd s (hkp i hi h.1 h.2)).1 (.inl rfl)
  | true=>
   have hne:i≠s:=fun e=>by subst e;rw [hn] at eg;cases eg
   refine h.1 true w (fun _=>⟨hne,hp eg.symm⟩) hC (fun j hj hk=>hd j hj (hk rfl)) K fun v w' h1 h2 h3=>hK true v w' ⟨by show _=(d s||s == i);rw [←eg];rfl,by simpa using h1⟩ (fun j u hg hk=>h2 j u (fun h=>absurd h hne) (fun _=>hk) (hg hk)) (fun _=>h3)
theorem wp_region_relB {id:Nat} {Q:Exit→Act→World→Prop} {a:Act} {w:World} {l:List Oper} (m s:Nat) (pl:Nat→Bool) (C:Bool→World→Prop) (kp:Nat→Bool) (G:Nat→Value→World→Prop)
  (hm:P.follows .mixedOrders=true) (hB:relBA l.toArray m s pl=true) (hs:a.tmps.size=m) (hC:C false {w with drawn:=w.drawn+1}) (hkp:(List.range l.toArray.size).all (fun j=>!decide (s<j)||!kp j||Region.waitsFor .any l.toArray j s)=true) (hs0:∀o,l.toArray[s]?=some o→o.dst=none→∀w,G s undef w)
  (h:relWalkB P l.toArray C kp G s pl (fun a'=>∀w',C true w'→(∀j,j<l.toArray.size→kp j=true→G j (atOp l.toArray a' j) w')→wpList P l.toArray Q [] a' w') 0 l a):(Code.region id l.toArray true).wp P Q a w:=by
 obtain ⟨hB1,hB2⟩:=relBA_spec hB
 have hlt:s<l.toArray.size:=by
  have:=hB1
  simp only [relBC,Bool.and_eq_true,decide_eq_true_eq] at this
  exact this.1.2
 refine wp_region_relE (Γ:=Bool) m s pl (fun g d w=>g=d s∧C g w) (GB kp G s) false hm hB1 hs ⟨rfl,hC⟩ (fun i o ho hd g v w hg=>?_) (relWalkE_of_B (fun a' hT g d w' hd ⟨eg,hC⟩ hG=>?_) (fun j hj h1 h2=>?_) l 0 a (fun k=>by simp) h)
 ·obtain rfl:=hB2 i o ho hd
  cases g with
  | false=>exact absurd (.inl rfl) hg.1
  | true=>exact fun _=>hs0 o ho hd w
 ·have:=List.all_eq_true.1 hkp j (List.mem_range.2 hj)
  simpa [h1,h2] using this
 ·rw [hd s hlt] at eg
  subst eg
  exact hT w' hC (fun j hj hk=>hG j hj hk)
theorem relWalkB_pre {T:Act→Prop} {i:Nat} {o:Oper} {l:List Oper} {a:Act} (hp:pl i=true) (his:(i == s)=false)
  (h1:∀w,C false w→(∀j,Region.waitsFor .any ops i j=true→G j (atOp ops a j) w)→∀K:Act→World→Prop,(∀v w',C false w'→(∀j u,G j u w→G j u w')→G i v w'→K (a.put o.dst v) w')→Oper.wp P o a w K QNone)
  (h2:∀v,relWalkB P ops C kp G s pl T (i+1) l (a.put o.dst v)):relWalkB P ops C kp G s pl T i (o :: l) a:=by
 refine ⟨fun b w hb hC hG K hK=>?_,h2⟩
 cases b with
 | true=>rw [(hb rfl).2] at hp;cases hp
 | false=>exact h1 w hC (fun j hj=>hG j hj (fun h=>by cases h)) K fun v w' h hk hg=>hK v w' (by rw [his];exact h) (fun j u _ _=>hk j u) hg
theorem relWalkB_main {T:Act→Prop} {o:Oper} {l:List Oper} {a:Act}
  (h1:∀w,C false w→(∀j,Region.waitsFor .any ops s j=true→G j (atOp ops a j) w)→∀K:Act→World→Prop,(∀v w',C true w'→(∀j u,j<s→kp j=true→G j u w→G j u w')→G s v w'→K (a.put o.dst v) w')→Oper.wp P o a w K QNone)
  (h2:∀v,relWalkB P ops C kp G s pl T (s+1) l (a.put o.dst v)):relWalkB P ops C kp G s pl T s (o :: l) a:=by
 refine ⟨fun b w hb hC hG K hK=>?_,h2⟩
 cases b with
 | true=>exact absurd rfl (hb rfl).1
 | false=>exact h1 w hC (fun j hj=>hG j hj (fun h=>by cases h)) K fun v w' h hk hg=>hK v w' (by simpa using h) (fun j u h1 hj=>hk j u (h1 rfl) (hj (.inl rfl))) hg
theorem relWalkB_any {T:Act→Prop} {i:Nat} {o:Oper} {l:List Oper} {a:Act} (his:(i == s)=false)
  (h1:∀w,(∀j,Region.waitsFor .any ops i j=true→kp j=true→G j (atOp ops a j) w)→∀K:Act→World→Prop,(∀v,G i v w→K (a.put o.dst v) w)→Oper.wp P o a w K QNone)
  (h2:∀v,relWalkB P ops C kp G s pl T (i+1) l (a.put o.dst v)):relWalkB P ops C kp G s pl T i (o :: l) a:=
 ⟨fun b w hb hC hG K hK=>h1 w (fun j hj hk=>hG j hj (fun _=>hk)) K fun v hv=>hK v w (by rw [his,Bool.or_false];exact hC) (fun _ _ _ _ h=>h) hv,h2⟩
theorem relWalkB_nil {T:Act→Prop} {i:Nat} {a:Act} (h:T a):relWalkB P ops C kp G s pl T i [] a:=h
end
theorem wp_region_sb {P:Program} {id:Nat} {Q:Exit→Act→World→Prop} {a:Act} {W:World} {l:List Oper} (m s:Nat) (pl kp:Nat→Bool) (D:World→Prop) (ls:List SP)
  (hm:P.follows .mixedOrders=true) (hB:relBA l.toArray m s pl=true) (hs:a.tmps.size=m) (hkp:(List.range l.toArray.size).all (fun j=>!decide (s<j)||!kp j||Region.waitsFor .any l.toArray j s)=true)
  (hs0:(l.toArray[s]?).any (fun o=>o.dst.isSome)=true∨∀w,GS ls s undef w)
  (h:relWalkB P l.toArray (CB W D) kp (GS ls) s pl (fun a'=>∀w',D w'→(∀j,j<l.toArray.size→kp j=true→GS ls j (atOp l.toArray a' j) w')→wpList P l.toArray Q [] a' w') 0 l a):(Code.region id l.toArray true).wp P Q a W:=
 wp_region_relB m s pl (CB W D) kp (GS ls) hm hB hs (B_.drew) hkp (fun o ho hd w=>by
  rcases hs0 with h | h
  ·rw [ho] at h;simp [hd] at h
  ·exact h w) h
end
end Go.Proofs.YthhekebemmckcaaGreatDoor
