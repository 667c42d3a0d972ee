/-
  Lemmas and contracts for the laws of this seat, part 10; several texts joined by a program.
-/
import Derived.Test.YtehfhnbpnaiogaaGreatDoorA09
import Derived.Test.YtehfhnbpnaiogaaGreatDoorA00
namespace Go.Proofs.YtehfhnbpnaiogaaGreatDoor
set_option linter.all false
set_option maxRecDepth 100000
set_option maxHeartbeats 16000000
open Go.RowKit Go.Proofs.Tryz IntKind
variable {P:Program} {Q:Exit->Act->World->Prop} {S S':Nat->Prop} {T:Act->Prop} {a:Act} {b base cap g i id k m n:Nat} {e t:TypeId} {l:List Int} {o:Oper} {ops:Array Oper} {rest:List Oper} {v v1 v2 v3:Value} {vs:List Value} {w w':World} {x:Int} {α:Type}
section
structure RR (α:Type) (k:Nat) where
 p:World->(Nat->Prop)->α->List Value->Prop
 st:∀w w' S a r,r_ S w w'->p w S a r->p w' S a r
 wk:∀w S S' a r,(∀b,b<w.heap.size->S b->S' b)->p w S a r->p w S' a r
 sh:∀w S a r,p w S a r->r.length=k/\∀u ∈ r,u.oneCell'=true
def RR.flat {α:Type} {k:Nat} (f:α->List Value) (hf:∀a,(f a).length=k/\∀u ∈ f a,u.oneCell'=true):RR α k:=
 ⟨fun _ _ a r=>r=f a,fun _ _ _ _ _ _ h=>h,fun _ _ _ _ _ _ h=>h,fun _ _ a r h=>h ▸ hf a⟩
def bm_ {α:Type} (p:α->List Value->Prop):List α->List (List Value)->Prop
 | [],[]=>True
 | a :: l,r :: rows=>p a r/\bm_ p l rows
 | _,_=>False
def bm_.len {p:α->List Value->Prop}:∀{l:List α} {rows:List (List Value)},bm_ p l rows->rows.length=l.length
 | [],[],_=>rfl
 | _ :: _,_ :: _,h=>by simp [bm_.len h.2]
 | [],_ :: _,h=>h.elim
 | _ :: _,[],h=>h.elim
def bm_.imp {p q:α->List Value->Prop} (hpq:∀a r,p a r->q a r):∀{l:List α} {rows:List (List Value)},bm_ p l rows->bm_ q l rows
 | [],[],_=>trivial
 | _ :: _,_ :: _,h=>⟨hpq _ _ h.1,bm_.imp hpq h.2⟩
 | [],_ :: _,h=>h.elim
 | _ :: _,[],h=>h.elim
def bm_.at_ {p:α->List Value->Prop}:∀{l:List α} {rows:List (List Value)},bm_ p l rows->∀{i:Nat} {a:α},l[i]?=some a->∃r,rows[i]?=some r/\p a r
 | [],[],_,i,a,h=>by simp at h
 | x :: l,r :: rows,h,0,a,hi=>by
  have:x=a:=by simpa using hi
  subst this;exact ⟨r,rfl,h.1⟩
 | x :: l,r :: rows,h,i+1,a,hi=>by
  let⟨r',h1,h2⟩:=bm_.at_ h.2 (i:=i) (a:=a) (by simpa using hi);exact ⟨r',by simpa using h1,h2⟩
 | [],_ :: _,h,_,_,_=>h.elim
 | _ :: _,[],h,_,_,_=>h.elim
def bm_.set {p:α->List Value->Prop}:∀{l:List α} {rows:List (List Value)},bm_ p l rows->∀(i:Nat) {a:α} {r:List Value},p a r->bm_ p (l.set i a) (rows.set i r)
 | [],[],_,_,_,_,_=>trivial
 | x :: l,r :: rows,h,0,a,r',hp=>⟨hp,h.2⟩
 | x :: l,r :: rows,h,i+1,a,r',hp=>⟨h.1,bm_.set h.2 i hp⟩
 | [],_ :: _,h,_,_,_,_=>h.elim
 | _ :: _,[],h,_,_,_,_=>h.elim
def bm_.snoc {p:α->List Value->Prop}:∀{l:List α} {rows:List (List Value)},bm_ p l rows->∀{a:α} {r:List Value},p a r->bm_ p (l ++ [a]) (rows ++ [r])
 | [],[],_,_,_,hp=>⟨hp,trivial⟩
 | x :: l,r :: rows,h,a,r',hp=>⟨h.1,bm_.snoc h.2 hp⟩
 | [],_ :: _,h,_,_,_=>h.elim
 | _ :: _,[],h,_,_,_=>h.elim
def bm_.app {p:α->List Value->Prop}:∀{l:List α} {rows:List (List Value)},bm_ p l rows->∀{l':List α} {rows':List (List Value)},bm_ p l' rows'->bm_ p (l ++ l') (rows ++ rows')
 | [],[],_,_,_,h'=>h'
 | x :: l,r :: rows,h,_,_,h'=>⟨h.1,bm_.app h.2 h'⟩
 | [],_ :: _,h,_,_,_=>h.elim
 | _ :: _,[],h,_,_,_=>h.elim
def bm_.drop {p:α->List Value->Prop}:∀{l:List α} {rows:List (List Value)},bm_ p l rows->∀(n:Nat),bm_ p (l.drop n) (rows.drop n)
 | [],[],_,n=>by simp [bm_]
 | x :: l,r :: rows,h,0=>h
 | x :: l,r :: rows,h,n+1=>bm_.drop h.2 n
 | [],_ :: _,h,_=>h.elim
 | _ :: _,[],h,_=>h.elim
def bm_.of_map {f:α->List Value}:∀(l:List α),bm_ (fun a r=>r=f a) l (l.map f)
 | []=>trivial
 | x :: l=>⟨rfl,bm_.of_map l⟩
def LA {α:Type} {k:Nat} (R:RR α k) (w:World) (S:Nat->Prop) (v:Value) (L:List α):Prop:=∃rows,RW k w S v rows/\bm_ (R.p w S) L rows
def LA.kept {R:RR α k} {L:List α} (h:LA R w S v L) (hk:r_ S w w'):LA R w' S v L:=by let⟨rows,h1,h2⟩:=h;exact ⟨rows,h1.kept hk,h2.imp fun a r h=>R.st _ _ _ _ _ hk h⟩
def LA.step {R:RR α k} {L:List α} (h:LA R w S v L) (hb:s_ w w'):LA R w' S v L:=h.kept (r_.of_below hb)
def LA.alloc {R:RR α k} {L:List α} (h:LA R w S v L) (o:Obj):LA R (w.alloc o) S v L:=h.kept (r_.of_alloc w o)
def LA.weak {R:RR α k} {L:List α} (h:LA R w S v L) (hS:∀b,b<w.heap.size->S b->S' b):LA R w S' v L:=by let⟨rows,h1,h2⟩:=h;exact ⟨rows,h1.weak hS,h2.imp fun a r h=>R.wk _ _ _ _ _ hS h⟩
def LA.nil (R:RR α k) (w:World) (S:Nat->Prop):LA R w S (S_ none 0 0) []:=⟨[],RW.nil k w S,trivial⟩
def LA.form {R:RR α k} {L:List α} (h:LA R w S v L):∃A cap,v = S_ A L.length cap/\L.length<=cap/\cap<=maxLen:=by let⟨rows,h1,h2⟩:=h;rw [<-h2.len];exact h1.form
def LA.at_ {R:RR α k} {L:List α} (h:LA R w S v L) {a:α} (hi:L[i]?=some a):∃b o cap r,v = S_ (some ⟨b,o,none⟩) L.length cap/\L.length<=cap/\cap<=maxLen/\b<w.heap.size/\S b/\R.p w S a r/\
  ∀(j:Nat) (u:Value),r[j]?=some u->w.cell? ⟨b,o+i*k+j,none⟩=some u:=by let⟨rows,h1,h2⟩:=h;let⟨r,c,l⟩:=h2.at_ hi;let⟨b,o,cap,hv,c1,c2,f,d,hc⟩:=h1.at_ (i:=i) ((g_l c));rw [h2.len] at hv c1;exact ⟨b,o,cap,r,hv,c1,c2,f,d,l,fun j u g=>hc i r j u c g⟩
def LA.cells {R:RR α k} {o:Nat} {L:List α} (h:LA R w S (S_ (some ⟨b,o,none⟩) n cap) L) {a:α} (hi:L[i]?=some a):b<w/\S b/\∃r,R.p w S a r/\
  ∀(j:Nat) (u:Value),r[j]?=some u->w.cell? ⟨b,o+i*k+j,none⟩=some u:=by let⟨b',o',cap',r,hv,c1,c2,hb,hS,hp,hc⟩:=h.at_ hi;injection hv with e1 e2 e3;injection e1 with e1;injection e1 with e4 e5;subst e4 e5;exact ⟨hb,hS,r,hp,hc⟩
def LW {α:Type} {k:Nat} (R:RR α k) (w:World) (S:Nat->Prop) (g:Nat) (L:List α):Prop:=¬S g/\∃rows,WR k w g rows/\bm_ (R.p w S) L rows
def LW.kept {R:RR α k} {L:List α} (h:LW R w S g L) (hk:r_ S w w') (hg:w'.heap[g]?=w.heap[g]?):LW R w' S g L:=by let⟨h0,rows,h1,h2⟩:=h;exact ⟨h0,rows,h1.block hg hk.1,h2.imp fun a r h=>R.st _ _ _ _ _ hk h⟩
def LW.lt {R:RR α k} {L:List α} (h:LW R w S g L):g<w:=by let⟨_,rows,h1,_⟩:=h;exact h1.2.1
def LW.step {R:RR α k} {L:List α} (h:LW R w S g L) (hb:s_ w w'):LW R w' S g L:=h.kept (r_.of_below hb) (hb.block g h.lt)
def LW.alloc {R:RR α k} {L:List α} (h:LW R w S g L) (o:Obj):LW R (w.alloc o) S g L:=h.step (B_.alloc (lR_ _) _)
def LW.la {R:RR α k} {L:List α} (h:LW R w S g L) (hg:S' g) (hS:∀b,b<w.heap.size->S b->S' b) (h1:L.length<=cap) (h2:cap<=maxLen):LA R w S' (S_ (some ⟨g,0,none⟩) L.length cap) L:=by let⟨_,rows,w1,w2⟩:=h;refine ⟨rows,?_,w2.imp fun a r h=>R.wk _ _ _ _ _ hS h⟩;rw [<-w2.len] at h1 ⊢;exact w1.rw hg h1 h2
def LW.at_ {R:RR α k} {L:List α} (h:LW R w S g L) {a:α} (hi:L[i]?=some a):∃r,R.p w S a r/\∀(j:Nat) (u:Value),r[j]?=some u->w.cell? ⟨g,i*k+j,none⟩=some u:=by let⟨_,rows,h1,h2⟩:=h;let⟨r,hr,hp⟩:=h2.at_ hi;exact ⟨r,hp,fun j u hj=>h1.2.2.2 i r j u hr hj⟩
def LW.setPart {R:RR α k} {L:List α} (h:LW R w S g L) {p:Nat} {a a':α} (hi:L[i]?=some a) (hp:p+vs.length<=k) (h1:∀u ∈ vs,u.oneCell'=true)
  (hr:∀r,R.p w S a r->R.p w S a' (r.take p ++ vs ++ r.drop (p+vs.length))):LW R (w.setCells g (i*k+p) vs) S g (L.set i a'):=by let⟨h0,rows,w1,w2⟩:=h;let⟨r,c,d⟩:=w2.at_ hi;have b:r_ S w (w.setCells g (i*k+p) vs):=r_.of_setCells w g _ vs h0;refine ⟨h0,_,w1.setPart c hp rfl h1,(bm_.imp (fun a r h=>R.st _ _ _ _ _ b h) w2).set i (R.st _ _ _ _ _ b (hr r d))⟩
def LW.set {R:RR α k} {L:List α} (h:LW R w S g L) {a:α} (hi:i<L.length) (hr:R.p w S a vs):LW R (w.setCells g (i*k) vs) S g (L.set i a):=by let⟨h0,rows,w1,w2⟩:=h;have b:r_ S w (w.setCells g (i*k) vs):=r_.of_setCells w g _ vs h0;let⟨s1,s2⟩:=R.sh _ _ _ _ hr;exact ⟨h0,_,w1.setRow (by rw [w2.len];exact hi) s1 s2,(bm_.imp (fun a r h=>R.st _ _ _ _ _ b h) w2).set i (R.st _ _ _ _ _ b hr)⟩
def LW.there {R:RR α k} {L:List α} (h:LW R w S g L) {p:Nat} (hi:i<L.length) (hp:p+n<=k):w.there g (i*k+p) n:=by let⟨_,rows,w1,w2⟩:=h;exact w1.there_ (by rw [w2.len];exact hi) hp
def LO {α:Type} {k:Nat} (R:RR α k) (e:TypeId) (w:World) (base:Nat) (S:Nat->Prop) (v:Value) (L:List α):Prop:=∃rows,w.ownsRow base e k v L.length rows.flatten/\bm_ (R.p w (fun b=>S b/\v.ownBlock≠some b)) L rows
def LO.kept {R:RR α k} {L:List α} (h:LO R e w base S v L) {r:Option Nat} (hg:w.grownBy w' r) (h1:r=none\/∃b,r=some b/\¬S b/\v.ownBlock≠some b):LO R e w' base S v L:=by let⟨rows,w1,w2⟩:=h;refine ⟨rows,w1.kept (row:=r) hg ?_,w2.imp fun a x h=>R.st _ _ _ _ _ ⟨hg.size,fun z c d=>hg.block z d fun e=>?_⟩ h⟩;{rcases h1 with rfl | ⟨b,rfl,_,h3⟩;{cases hv:v.ownBlock with|none=>exact .inl rfl|some b=>exact .inr A_};exact .inr (by simpa using h3)};rcases h1 with rfl | ⟨b,rfl,h2,h3⟩;{cases e};injection e with e;exact h2 (e ▸ c.1)
def LO.step {R:RR α k} {L:List α} (h:LO R e w base S v L) (hb:s_ w w'):LO R e w' base S v L:=h.kept (ae_ hb none) (.inl rfl)
def LO.alloc {R:RR α k} {L:List α} (h:LO R e w base S v L) (o:Obj):LO R e (w.alloc o) base S v L:=h.step (B_.alloc (lR_ _) _)
def LO.nil (R:RR α k) (e:TypeId) (w:World) (base:Nat) (S:Nat->Prop):LO R e w base S (S_ none 0 0) []:=⟨[],World.ownsRow_nil _ _ _ _,trivial⟩
def bm_.shp {R:RR α k}:∀{L:List α} {rows:List (List Value)},bm_ (R.p w S) L rows->Shp k rows
 | [],[],_=>Shp.nil
 | a :: L,r :: rows,h=>fun x hx=>by
  rcases List.mem_cons.1 hx with rfl | hx
  ·exact R.sh _ _ _ _ h.1
  ·exact bm_.shp h.2 x hx
 | [],_ :: _,h=>h.elim
 | _ :: _,[],h=>h.elim
def LO.la {R:RR α k} {L:List α} (h:LO R e w base S v L) (hS:∀b,b<w.heap.size->S b->S' b) (hb:∀b,base<=b->S' b):LA R w S' v L:=by let⟨rows,w1,w2⟩:=h;rw [<-w2.len] at w1;exact ⟨rows,RW.of_own w1 w2.shp (fun b hv=>hb b (w1.lt b hv).1),w2.imp fun a r h=>R.wk _ _ _ _ _ (fun b hb h=>hS b hb h.1) h⟩
def LO.lw {R:RR α k} {L:List α} (h:LO R e w base S v L) (h0:0<L.length):∃g cap,v = S_ (some ⟨g,0,none⟩) L.length cap/\L.length<=cap/\cap<=maxLen/\base<=g/\LW R w (fun b=>S b/\b≠g) g L:=by let⟨rows,w1,w2⟩:=h;have f:=w2.len;rw [<-f] at w1 h0 ⊢;let⟨g,cap,hv,c1,c2,d,c⟩:=WR.of_own w1 w2.shp h0;refine ⟨g,cap,hv,c1,c2,d,fun h=>h.2 rfl,rows,c,w2.imp fun a r h=>R.wk _ _ _ _ _ (fun b _ h=>⟨h.1,fun e=>h.2 ?_⟩) h⟩;rw [hv,e];rfl
def LO.own {R:RR α k} {L:List α} (h:LO R e w base S v L) (hb:v.ownBlock=some b):base<=b/\b<w:=by let⟨rows,w1,_⟩:=h;exact w1.lt b hb
def h1_ (P:Program) (t e:TypeId) (k:Nat):Prop:=∃i z bytes,P.underlying t=some (.slice e)/\P.info? e=some i/\i.zero=some z/\i.size=k/\i.bytes=bytes/\z.cells.size=k/\0<k/\bytes<=1000
def bf_ (R:RR α k) (he:h1_ P t e k)
  (hg:o.guard=none) (s x:Operand) (hop:o.op=Op.call {callee:=Callee.builtin Builtin.append,args:=#[s,x],argTypes:=#[t,t]})
  (hs:a.eval s = S_ none 0 0) (v:Value) (S:Nat->Prop) (L:List α) (hx:a.eval x=v) (hR:LA R w S v L) (hn:L.length<=1000000)
  (hK:∀v' w',LO R e w' (w) S v' L->w.grownBy w' none->wpList P ops Q rest (a.put o.dst v') w'):wpList P ops Q (o :: rest) a w:=by let⟨i,z,d,h1,h2,h3,y,u,A,B,q⟩:=he;let⟨rows,C,g⟩:=hR;refine hf_ hg s x t hop e i z d h1 h2 h3 y u A B hs hx C q (by rw [g.len];exact hn) fun v' w' c f=>hK v' w' ⟨rows,by rw [<-g.len];exact c,?_⟩ f;have n:r_ S w w':=⟨f.size,fun z _ j=>f.block z j A_⟩;have l:∀b,v'.ownBlock=some b->w.heap.size<=b:=fun b m=>(c.lt b m).1;refine g.imp fun a r h=>R.wk _ (fun b=>S b/\b<w.heap.size) _ _ _ (fun b _ h=>⟨h.1,fun e=>by have:=l b e;omega⟩) (R.st w w' _ _ _ ⟨n.1,fun z p j=>n.2 z p.1 j⟩ (R.wk _ _ _ _ _ (fun b m h=>⟨h,m⟩) h))
def Q_ {R:RR α k} (he:h1_ P t e k)
  (hg:o.guard=none) (s x:Operand) (hop:o.op=Op.call {callee:=Callee.builtin Builtin.append,args:=#[s,x],argTypes:=#[t,t]})
  (S:Nat->Prop) {L:List α} (hs:a.eval s=v) (hown:LO R e w base S v L) (hbase:base<=w) (hn:L.length<=1000000)
  (cs:Array Value) (hx:a.eval x = S_ (some ⟨g,0,none⟩) 1 1) {tg:TypeId} (hblk:w.heap[g]?=some (.cells cs tg (0,0))) (y:α) (hy:R.p w (fun b=>S b/\v.ownBlock≠some b) y cs.toList)
  (hK:∀v' w',LO R e w' base S v' (L ++ [y])->w.grownBy w' v.ownBlock->(∀b,v'.ownBlock=some b->v.ownBlock=some b\/b=w.heap.size)->wpList P ops Q rest (a.put o.dst v') w'):wpList P ops Q (o :: rest) a w:=by let⟨i,z,c,h1,h2,h3,C,q,D,E,A⟩:=he;let⟨rows,G,u⟩:=hown;let⟨s1,s2⟩:=R.sh _ _ _ _ hy;have l:(L.length+1)*c<=1000001*1000:=Nat.mul_le_mul O_ A;refine wpList_append_lies w hg s x t hop base e i z k c h1 h2 h3 C q D E v L.length rows.flatten hs G ⟨g,0,none⟩ 1 1 cs.toList hx (by rw [s1];omega) (World.news_of_block hblk) s2 O_ (by unfold maxLen;omega) O_ hbase (w) rfl fun g' cap w' j f d F=>hK _ _ ⟨rows ++ [cs.toList],?_,?_⟩ f ?_;{rw [aL_,List.flatten_append,List.flatten_cons,List.flatten_nil,List.append_nil];exact j};{have m:r_ (fun b=>(S b/\v.ownBlock≠some b)/\b<w.heap.size) w w':=⟨f.size,fun z n B=>f.block z B fun e=>n.1.2 e.symm⟩;have up:∀a r,R.p w (fun b=>S b/\v.ownBlock≠some b) a r->R.p w' (fun b=>S b/\(Value.slice (some ⟨g',0,none⟩) (L.length+1) cap).ownBlock≠some b) a r:=fun a r h=>R.wk _ _ _ _ _ (fun b _ h=>⟨h.1.1,fun e=>by simp only[Value.ownBlock,Option.some.injEq] at e;subst e;rcases d with d | d;{exact h.1.2 d};exact absurd h.2 O_⟩) (R.st _ _ _ _ _ m (R.wk _ _ _ _ _ (fun b l h=>⟨h,l⟩) h));exact (u.imp up).snoc (up _ _ hy)};intro b l;simp only[Value.ownBlock,Option.some.injEq] at l;subst l;exact d
def oZ_ (t:TypeId){ty:TypeId}(e:TypeId) (i:TypeInfo) (ht:P.underlying t=some (.slice e)) (hi:P.info? e=some i) {A:Addr} (B:Option Addr)(c:Nat) (hnc:n<=cap) (w:World) :
  (Builtin.append_ #[t,t] ty #[S_ (some A) n cap,S_ B 0 c]).run P w = .ok (S_ (some A) n cap) w:=by cases B <;> simp [Builtin.append_,hnc,storeCells,run_underlying ht,sizeOf,typeInfo,hi,Builtin.lenOf,Builtin.firstCells,loadCells,loadCellsFrom]
def bV_ (R:RR α k) (he:h1_ P t e k)
  (hg:o.guard=none) (s x:Operand) (hop:o.op=Op.call {callee:=Callee.builtin Builtin.append,args:=#[s,x],argTypes:=#[t,t]})
  (v:Value) (base:Nat) (S:Nat->Prop) (L:List α) (hs:a.eval s=v) (hown:LO R e w base S v L) (hbase:base<=w) (hn:L.length<=1000000)
  (u:Value) (M:List α) (hx:a.eval x=u) (hM:LA R w (fun b=>S b/\v.ownBlock≠some b) u M) (hm:M.length<=1000000)
  (hK:∀v' w',LO R e w' base S v' (L ++ M)->w.grownBy w' v.ownBlock->(∀b,v'.ownBlock=some b->v.ownBlock=some b\/b=w.heap.size)->wpList P ops Q rest (a.put o.dst v') w'):wpList P ops Q (o :: rest) a w:=by let⟨i,z,f,h1,h2,h3,h4,V,X,h7,W⟩:=he;let⟨rows,F,N⟩:=hown;let⟨mr,⟨A,cap,hv,Y,a1,m,hc⟩,O⟩:=hM;have q:=O.len;by_cases h0:M=[];{subst h0;refine wpList_plain hg fun K I=>?_;have G:mr.length=0:=(by simpa using q);have hL:LO R e w base S v (L ++ []):=(by rw [List.append_nil];exact ⟨rows,F,N⟩);have C:=I _ _ (hK v w hL (World.grownBy.refl _ _) (fun b B=> .inl B));have D:(Builtin.append_ #[t,t] o.type #[v,S_ A 0 cap]).run P w = .ok v w:=(by rcases F.2 with ⟨q1,q2⟩ | ⟨g,c,cur,q1,q2,q3,q4,q5,q6,q7⟩;{rw [q1];exact lM_ t _ e i h1 h2 A cap w};rw [q1];exact oZ_ t e i h1 h2 A cap q4 w);unfold Oper.wp execOp;simp only[hop,resolve,invoke,builtin,Sem.run_bind,Sem.run_pure,Result.andThen_ok,List.map_toArray,List.map_cons,List.map_nil,hs,hx,hv,G,D];exact C};have l:0<mr.length:=(by rw [q];exact List.length_pos_iff.2 h0);rcases hc with hc | ⟨b,o',e1,hb',hS,hc⟩;{subst hc;simp at l};subst e1;have B:(L.length+mr.length)*f<=2000000*1000:=Nat.mul_le_mul O_ W;refine wpList_append_lies w hg s x t hop base e i z k f h1 h2 h3 h4 V X h7 v L.length rows.flatten hs F ⟨b,o',none⟩ mr.length cap mr.flatten (hx.trans hv) (eu_ mr m.len) (fun j u hj=>?_) m.one l (by unfold maxLen;omega) O_ hbase (w) rfl fun g' cap w' n y d a0=>hK _ _ ⟨rows ++ mr,?_,?_⟩ y ?_;{obtain ⟨i',r,Z,E,H,rfl⟩:=jP_ mr m.len j u hj;rw [Addr.add_mid,<-Nat.add_assoc];exact hc i' r Z u E H};{rw [aL_,List.flatten_append,<-q];exact n};{have J:r_ (fun b=>(S b/\v.ownBlock≠some b)/\b<w.heap.size) w w':=⟨y.size,fun z hz U=>y.block z U fun e=>hz.1.2 e.symm⟩;have up:∀a r,R.p w (fun b=>S b/\v.ownBlock≠some b) a r->R.p w' (fun b=>S b/\(Value.slice (some ⟨g',0,none⟩) (L.length+mr.length) cap).ownBlock≠some b) a r:=fun a r h=>R.wk _ _ _ _ _ (fun b _ h=>⟨h.1.1,fun e=>by simp only[Value.ownBlock,Option.some.injEq] at e;subst e;rcases d with d | d;{exact h.1.2 d};exact absurd h.2 O_⟩) (R.st _ _ _ _ _ J (R.wk _ _ _ _ _ (fun b B h=>⟨h,B⟩) h));exact (N.imp up).app (O.imp up)};intro b B;simp only[Value.ownBlock,Option.some.injEq] at B;subst B;exact d
def LO.fresh {R:RR α k} {rows:List (List Value)} {L:List α} (hg:w.heap[g]?=some (.cells rows.flatten.toArray e (0,0))) (hb:base<=g) (h:bm_ (R.p w (fun b=>S b/\g≠b)) L rows) (hn:L.length<=maxLen):LO R e w base S (S_ (some ⟨g,0,none⟩) L.length L.length) L:=by refine ⟨rows,⟨?_,.inr ⟨g,L.length,_,rfl,hb,hg,lR_ _,hn,?_,?_⟩⟩,h.imp fun a r h=>R.wk _ _ _ _ _ (fun b _ h=>⟨h.1,fun e=>h.2 (by simpa [Value.ownBlock] using e)⟩) h⟩;{rw [eu_ rows h.shp.len,h.len]};{rw [List.size_toArray,eu_ rows h.shp.len,h.len]};rw [List.toList_toArray,tL_ (by rw [eu_ rows h.shp.len,h.len];exact lR_ _)]
def bm_.take {p:α->List Value->Prop}:∀{l:List α} {rows:List (List Value)},bm_ p l rows->∀(n:Nat),bm_ p (l.take n) (rows.take n)
 | [],[],_,n=>by simp [bm_]
 | x :: l,r :: rows,h,0=>trivial
 | x :: l,r :: rows,h,n+1=>⟨h.1,bm_.take h.2 n⟩
 | [],_ :: _,h,_=>h.elim
 | _ :: _,[],h,_=>h.elim
def LA.take {R:RR α k} {A:Option Addr} {L:List α} (h:LA R w S (S_ A m cap) L) (hn:n<=L.length):LA R w S (S_ A n cap) (L.take n):=by let⟨rows,⟨A',cap',e,c1,c2,d,hc⟩,h2⟩:=h;injection e with e1 e2 e3;subst e1 e3;have g:=h2.len;refine ⟨rows.take n,⟨A,cap,by rw [List.length_take,Nat.min_eq_left O_],by rw [List.length_take];omega,c2,d.sub fun r c=>List.mem_of_mem_take c,?_⟩,h2.take n⟩;rcases hc with hc | ⟨b,o,e1,hb,hS,hc⟩;{exact .inl (by rw [hc];simp)};refine .inr ⟨b,o,e1,hb,hS,fun i r j u a f=>?_⟩;rw [List.getElem?_take] at a;split at a;{exact hc i r j u a f};cases a
def LA.drop {R:RR α k} {o:Nat} {L:List α} (h:LA R w S (S_ (some ⟨b,o,none⟩) m cap) L) (hn:n<=L.length) (A:Option Addr) (hA:n<L.length->A=some ⟨b,o+n*k,none⟩):LA R w S (S_ A (L.length - n) (cap - n)) (L.drop n):=by let⟨rows,⟨A',cap',e,c1,c2,g,hc⟩,h2⟩:=h;injection e with e1 e2 e3;subst e1 e3;have a:=h2.len;refine ⟨rows.drop n,⟨A,cap - n,by rw [List.length_drop,a],by rw [List.length_drop];omega,O_,g.sub fun r f=>List.mem_of_mem_drop f,?_⟩,h2.drop n⟩;by_cases c:n<L.length;{rcases hc with hc | ⟨b',o',e1,hb,hS,hc⟩;{rw [hc] at a;simp at a;omega};injection e1 with e1;injection e1 with e4 e5;subst e4 e5;refine .inr ⟨b,o+n*k,hA c,hb,hS,fun i r j u d l=>?_⟩;rw [List.getElem?_drop] at d;have:=hc (n+i) r j u d l;rw [Nat.add_mul] at this;rw [show o+n*k+i*k+j=o+(n*k+i*k)+j by omega];exact this};exact .inl (List.drop_eq_nil_of_le O_)
def Z_:RR Int 1:=RR.flat (fun x=>[I_ x]) (fun a=>⟨rfl,fun u hu=>by simp at hu;subst hu;rfl⟩)
def IL (w:World) (S:Nat->Prop) (v:Value) (l:List Int):Prop:=LA Z_ w S v l
def bp_:h1_ prog 22 3 1:=by let⟨i,h1,h2,h3,h4⟩:=info_parts k7_;exact ⟨i,_,8,underlying22,h1,h2,h3,h4,rfl,O_,O_⟩
def IL.cell (h:LA Z_ w S v l) (hi:l[i]?=some x):∃b o cap,v = S_ (some ⟨b,o,none⟩) l.length cap/\l.length<=cap/\cap<=maxLen/\b<w.heap.size/\S b/\w.cell? ⟨b,o+i,none⟩=some (I_ x):=by let⟨b,o,cap,r,hv,c1,c2,hb,hS,hp,hc⟩:=h.at_ hi;have hp:r=[I_ x]:=hp;subst hp;exact ⟨b,o,cap,hv,c1,c2,hb,hS,by have:=hc 0 _ rfl;rw [Nat.mul_one] at this;exact this⟩
def LA.old {R:RR α k} {L:List α} (h:LA R w S v L):LA R w (fun b=>S b/\b<w.heap.size) v L:=h.weak fun b hb h=>⟨h,hb⟩
def LA.weakN {R:RR α k} {L:List α} {o:Obj} {c:Nat} (_:LA R (w.alloc o) S v L) (h:LA R w S v L):LA R (w.alloc o) (fun b=>(S b/\b<w.heap.size)/\(Value.slice (some ⟨w,n,none⟩) m c).ownBlock≠some b) v L:=
 (h.old.alloc o).weak fun b _ h=>⟨h,fun e=>by simp [Value.ownBlock] at e;omega⟩
def LO.base_le {R:RR α k} {base':Nat} {L:List α} (h:LO R e w base S v L) (hb:base'<=base):LO R e w base' S v L:=by let⟨rows,⟨r1,r2⟩,r3⟩:=h;refine ⟨rows,⟨r1,?_⟩,r3⟩;rcases r2 with r2 | ⟨g,cap,cur,q1,q2,q3⟩;{exact .inl r2};exact .inr ⟨g,cap,cur,q1,lT_ hb q2,q3⟩
def LW.slot {R:RR α k} {L:List α} (h:LW R w S g L) {p:Nat} (hi:i<L.length) (hp:p<k):(∃u,w.cell? ⟨g,i*k+p,none⟩=some u)/\w.frozen? ⟨g,i*k+p,none⟩=false:=by have:=h.there (i:=i) (p:=p) (n:=1) hi O_ 0 O_;rw [Nat.add_zero] at this;exact ⟨Option.isSome_iff_exists.1 this.1,this.2⟩
def LW.setOne {R:RR α k} {L:List α} (h:LW R w S g L) {p:Nat} {a a':α} (hi:L[i]?=some a) (hp:p<k) (h1:v.oneCell'=true)
  (hr:∀r,R.p w S a r->R.p w S a' (r.take p ++ [v] ++ r.drop (p+1))):LW R (w.setCell ⟨g,i*k+p,none⟩ v) S g (L.set i a'):=
 h.setPart (vs:=[v]) hi (by simp;omega) (fun u hu=>by simp at hu;subst hu;exact h1) hr
end
section
def eg_ (v:Value) (w:World) (e:Ending) (w':World):Prop:=e = .returned v/\w=w'
def atL (l:List Int) (n:Int):Int:=if n ∈ l then (l.idxOf n:Int) else -1
def oy_ {n:Int} (hi:l[k]?=some n) (hn:n ∉ l.take k):atL l n=k:=by have b:n ∈ l:=mG_ hi;unfold atL;rw [if_pos b];have a:=g_l hi;have e:l=l.take k ++ n :: l.drop (k+1):=(by conv=>lhs;rw [<-List.take_append_drop k l,List.drop_eq_getElem_cons a,(List.getElem?_eq_some_iff.1 hi).2]);rw [e,List.idxOf_append,if_neg hn];simp [List.idxOf_cons];omega
def o3_ {n:Int} (hn:n ∉ l.take l.length):atL l n=-1:=by rw [List.take_length] at hn;unfold atL;rw [if_neg hn]
def iP_ {n:Int} (hi:l[k]?=some x) (hn:n ∉ l.take k) (hx:x≠n):n ∉ l.take (k+1):=by rw [List.take_add_one,hi,Option.toList_some,List.mem_append,mS_];rintro (h | h);{exact hn h};exact hx h.symm
def oH_ (n:Int) (h:LA Z_ w S v l):C_ 161 #[v,I_ n] w (eg_ (I_ (atL l n)) w):=by obtain ⟨A,cap,rfl,hc,m⟩:=h.form;have H:=H_ h;clear h;unfold maxLen at m;go_enter func161,ntmps161;go_wp2;go_loop [5] (fun i=>∃k:Nat,i = I_ k/\k<=l.length/\n ∉ l.take k) (fun i=>l.length - (intOf i).toNat);(case atStart=>exact ⟨0,rfl,O_,A_⟩);obtain ⟨k,rfl,q,g⟩:=hrel;have c:=H_ g;clear g;by_cases f:k<l.length;{obtain ⟨x,d⟩:∃x,l[k]?=some x:=⟨_,gE_ f⟩;let⟨b,o,cap',hv,_,_,p,_,c0⟩:=IL.cell H.out d;injection hv with e1 e2 e3;subst e1 e3;have j:=H_ d;clear d e2;by_cases a:x=n;{subst a;go_wp2;go_ret;exact ⟨jS_ (oy_ j c).symm,rfl⟩};go_wp2;go_round;(case rel=>exact ⟨k+1,by go_num,O_,iP_ j.out c.out a⟩);exact MS_};obtain rfl:k=l.length:=O_;go_wp2;go_ret;exact ⟨jS_ (o3_ c).symm,rfl⟩
def a4_ (l:List Int) (n:Int):List Int:=l.filter (fun x=>x != n)
def oE_ {n:Int} (h:l[k]?=some x):a4_ (l.take (k+1)) n=a4_ (l.take k) n ++ if x != n then [x] else []:=by unfold a4_;rw [List.take_add_one,h,Option.toList_some,List.filter_append,List.filter_cons,List.filter_nil]
def pw_ (l:List Int) (n:Int):(a4_ l n).length<=l.length:=List.length_filter_le _ _
def eT_ (l:List Int) (S:Nat->Prop) (w:World) (e:Ending) (w':World):Prop:=∃v,e = .returned v/\LA Z_ w' S v l/\s_ w w'
def ep_ (n:Int) (S:Nat->Prop) (h:LA Z_ w S v l) (hl:l.length<=1000) (hS:∀b,w.heap.size<=b->S b):C_ 221 #[v,I_ n] w (eT_ (a4_ l n) S w):=by obtain ⟨A,cap,rfl,hc,z⟩:=h.form;have H:=H_ h;clear h;unfold maxLen at z;go_enter func221,ntmps221;go_wp2;go_loopw [5,6] (fun u i wx=>∃k:Nat,i = I_ k/\k<=l.length/\LO Z_ 3 wx (w) S u (a4_ (l.take k) n)/\s_ w wx) (fun _ i _=>l.length - (intOf i).toNat);{exact ⟨0,rfl,O_,LO.nil _ _ _ _ _,bR_ _ _⟩};obtain ⟨k,rfl,B,s,g⟩:=hrel;have j:=H_ s;have d:=H_ g;clear s g;by_cases r:k<l.length;{obtain ⟨x,q⟩:∃x,l[k]?=some x:=⟨_,gE_ r⟩;let⟨b,o,cap',hv,_,_,g,_,c0⟩:=IL.cell (H.step d.out) q;injection hv with e1 e2 e3;subst e1 e3;have y:=H_ (oE_ (n:=n) q);have m:=pw_ (l.take k) n;rw [List.length_take] at m;clear q e2;by_cases f:x=n;{subst f;have c:=H_ (show a4_ (l.take (k+1)) x=a4_ (l.take k) x by rw [y.out];simp);go_wp2;go_roundw;{exact ⟨k+1,by go_num,O_,by rw [c.out];exact j,d.out⟩};exact MS_};have c:=H_ (show a4_ (l.take (k+1)) n=a4_ (l.take k) n ++ [x] by rw [y.out];simp [f]);go_wp2_with (at_builtin;(refine Q_ bp_ rfl (.tmp 19) (.tmp 24) rfl S rfl (j.alloc _) (by have:=d.size;simp;omega) O_ #[I_ x] rfl (m_ _ _ _ rfl) x rfl ?_);intro v4 w4 a p t);go_roundw;{exact ⟨k+1,by go_num,O_,by rw [c.out];exact a,(b_ d.out _).grown p (b_ d.out _).size (fun b g=>(j.own g).1)⟩};exact MS_};obtain rfl:k=l.length:=O_;rw [List.take_length] at j;go_wp2;go_ret;exact ⟨_,rfl,j.la (fun _ _ h=>h) hS,d.out⟩
def jO_ (n:Int) (S:Nat->Prop) (h:LA Z_ w S v l) (hl:l.length<=1000) (hS:∀b,w.heap.size<=b->S b):C_ 190 #[v,I_ n] w (eT_ (n :: l) S w):=by have H:=H_ (h.alloc (.cells #[I_ n] 3));have j:=H_ (LO.fresh (R:=Z_) (e:=3) (base:=w.heap.size) (S:=fun b=>S b/\b<w.heap.size) (rows:=[[I_ n]]) (L:=[n]) (i_ w (.cells #[I_ n] 3)) (lR_ _) ⟨rfl,trivial⟩ (by unfold maxLen;simp));have d:=H_ (b_ (bR_ (w) w) (.cells #[I_ n] 3));have g:=H_ h;clear h;go_enter func190,ntmps190;go_wp2_with (at_builtin;refine bV_ Z_ bp_ rfl (.tmp 6) (.tmp 7) rfl _ (w) (fun b=>S b/\b<w.heap.size) [n] rfl j.out A_ A_ _ l rfl (H.weakN g.out) O_ ?_;intro v4 w4 a c f);go_ret;exact ⟨_,rfl,a.la (fun _ _ h=>h.1) hS,d.grown c d.size (fun b i=>Nat.le_of_eq (oI_ i))⟩
end
section
section
variable {P:Program} {ops:Array Oper} {C:Bool->World->Prop} {kp:Nat->Bool} {G:Nat->Value->World->Prop} {s:Nat} {pl:Nat->Bool}
def tx_ (P:Program) (ops:Array Oper) (C:Bool->World->Prop) (kp:Nat->Bool) (G:Nat->Value->World->Prop) (s:Nat) (pl:Nat->Bool) (i:Nat) (o:Oper) (a:Act):Prop:=
 ∀b w,(b=true->i≠s/\pl i=false)->C b w->(∀j,Region.waitsFor .any ops i j=true->(b=true->kp j=true)->G j (cv_ ops a j) w)->∀K:Act->World->Prop,(∀v w',C (b||i == s) w'->(∀j u,(i=s->j<s)->(i=s\/b=true->kp j=true)->G j u w->G j u w')->G i v w'->K (a.put o.dst v) w')->Oper.wp P o a w K cN_
def cd_ (P:Program) (ops:Array Oper) (C:Bool->World->Prop) (kp:Nat->Bool) (G:Nat->Value->World->Prop) (s:Nat) (pl:Nat->Bool) (T:Act->Prop):Nat->List Oper->Act->Prop
 | _,[],a=>T a
 | i,o :: l,a=>tx_ P ops C kp G s pl i o a/\∀v,cd_ P ops C kp G s pl T (i+1) l (a.put o.dst v)
def GB (kp:Nat->Bool) (G:Nat->Value->World->Prop) (s:Nat):Bool->Nat->Value->World->Prop
 | false,j,v,w=>¬(j=s\/(s<j/\kp j=true))/\G j v w
 | true,j,v,w=>kp j=true->G j v w
theorem fJ_ {T':Act->Prop} (hT:∀a,T a->T' a) (hkp:∀j,j<ops.size->s<j->kp j=true->Region.waitsFor .any ops j s=true):∀(l:List Oper) (i:Nat) (a:Act),(∀k,l[k]?=ops[i+k]?)->cd_ P ops C kp G s pl T i l a->
  bG_ (Γ:=Bool) P ops (fun g d w=>g=d s/\C g w) (GB kp G s) s pl T' i l a
 | [],_,a,_,h=>hT a h
 | o :: l,i,a,hl,h=>by
  have hi:i<ops.size:=(Array.getElem?_eq_some_iff.1 ((hl 0).symm.trans rfl)).1;refine ⟨fun g d w hn hp ⟨eg,hC⟩ hd K hK=>?_,fun v=>fJ_ hT hkp l (i+1) _ (fun k=>by have:=hl (k+1);rw [show i+1+k=i+(k+1) by omega];simpa using this) (h.2 v)⟩;have n:(s == i)=(i == s):=jp_ s i
  cases g with
  | false=>
   refine h.1 false w (fun p=>by cases p) hC (fun j f _=>(hd j f).2) K fun v w' h1 h2 h3=>hK (false||i == s) v w' ⟨by show _=(d s||s == i);rw [<-eg,n],h1⟩ ?_ ?_
   ·intro j u c
    by_cases e:i=s
    ·rw [show (false||i == s)=true by simp [e]];intro b;have f:j<s:=by
      rcases Nat.lt_trichotomy j s with h | h | h
      ·exact h
      ·exact absurd (.inl h) c.1
      ·exact absurd (.inr ⟨h,b⟩) c.1
     exact h2 j u (fun _=>f) (fun _=>b) c.2
    ·rw [show (false||i == s)=false by simp [e]];exact ⟨c.1,h2 j u (fun h=>absurd h e) (fun h=>by rcases h with h | h;exact absurd h e;cases h) c.2⟩
   ·by_cases e:i=s
    ·rw [show (false||i == s)=true by simp [e]];exact fun _=>h3
    ·rw [show (false||i == s)=false by simp [e]];refine ⟨fun h=>?_,h3⟩
     rcases h with h | h
     ·exact e h
     ·exact (hd s (hkp i hi h.1 h.2)).1 (.inl rfl)
  | true=>
   have m:i≠s:=fun e=>by subst e;rw [hn] at eg;cases eg
   refine h.1 true w (fun _=>⟨m,hp eg.symm⟩) hC (fun j f b=>hd j f (b rfl)) K fun v w' h1 h2 h3=>hK true v w' ⟨by show _=(d s||s == i);rw [<-eg];rfl,by simpa using h1⟩ (fun j u c b=>h2 j u (fun h=>absurd h m) (fun _=>b) (c b)) (fun _=>h3)
def it_ {l:List Oper} (m s:Nat) (pl:Nat->Bool) (C:Bool->World->Prop) (kp:Nat->Bool) (G:Nat->Value->World->Prop)
  (hm:P.follows .mixedOrders=true) (hB:iw_ l.toArray m s pl=true) (hs:a.tmps.size=m) (hC:C false {w with drawn:=w.drawn+1}) (hkp:(List.range l.toArray.size).all (fun j=>!decide (s<j)||!kp j||Region.waitsFor .any l.toArray j s)=true) (hs0:∀o,l.toArray[s]?=some o->o.dst=none->∀w,G s undef w)
  (h:cd_ P l.toArray C kp G s pl (fun a'=>∀w',C true w'->(∀j,j<l.toArray.size->kp j=true->G j (cv_ l.toArray a' j) w')->wpList P l.toArray Q [] a' w') 0 l a):(Code.region id l.toArray true).wp P Q a w:=by let⟨b,p⟩:=f2_ hB;have f:s<l.toArray.size:=(by have:=b;simp only[fk_,Bool.and_eq_true,decide_eq_true_eq] at this;exact this.1.2);refine au_ (Γ:=Bool) m s pl (fun g d w=>g=d s/\C g w) (GB kp G s) false hm b hs ⟨rfl,hC⟩ (fun i o q c g v w t=>?_) (fJ_ (fun a' hT g d w' c ⟨eg,hC⟩ hG=>?_) (fun j n h1 h2=>?_) l 0 a (fun k=>by simp) h);{obtain rfl:=p i o q c;cases g with|false=>exact absurd (.inl rfl) t.1|true=>exact fun _=>hs0 o q c w};{have:=List.all_eq_true.1 hkp j (List.mem_range.2 n);simpa [h1,h2] using this};rw [c s f] at eg;subst eg;exact hT w' hC (fun j n r=>hG j n r)
def cJ_ {l:List Oper} (hp:pl i=true) (his:(i == s)=false)
  (h1:∀w,C false w->(∀j,Region.waitsFor .any ops i j=true->G j (cv_ ops a j) w)->∀K:Act->World->Prop,(∀v w',C false w'->(∀j u,G j u w->G j u w')->G i v w'->K (a.put o.dst v) w')->Oper.wp P o a w K cN_)
  (h2:∀v,cd_ P ops C kp G s pl T (i+1) l (a.put o.dst v)):cd_ P ops C kp G s pl T i (o :: l) a:=by refine ⟨fun b w m k d K g=>?_,h2⟩;cases b with|true=>rw [(m rfl).2] at hp;cases hp|false=>exact h1 w k (fun j c=>d j c (fun h=>by cases h)) K fun v w' h f n=>g v w' (by rw [his];exact h) (fun j u _ _=>f j u) n
def iT_ {l:List Oper}
  (h1:∀w,C false w->(∀j,Region.waitsFor .any ops s j=true->G j (cv_ ops a j) w)->∀K:Act->World->Prop,(∀v w',C true w'->(∀j u,j<s->kp j=true->G j u w->G j u w')->G s v w'->K (a.put o.dst v) w')->Oper.wp P o a w K cN_)
  (h2:∀v,cd_ P ops C kp G s pl T (s+1) l (a.put o.dst v)):cd_ P ops C kp G s pl T s (o :: l) a:=by refine ⟨fun b w k i d K g=>?_,h2⟩;cases b with|true=>exact absurd rfl (k rfl).1|false=>exact h1 w i (fun j c=>d j c (fun h=>by cases h)) K fun v w' h f m=>g v w' (by simpa using h) (fun j u h1 c=>f j u (h1 rfl) (c (.inl rfl))) m
def j5_ {l:List Oper} (his:(i == s)=false)
  (h1:∀w,(∀j,Region.waitsFor .any ops i j=true->kp j=true->G j (cv_ ops a j) w)->∀K:Act->World->Prop,(∀v,G i v w->K (a.put o.dst v) w)->Oper.wp P o a w K cN_)
  (h2:∀v,cd_ P ops C kp G s pl T (i+1) l (a.put o.dst v)):cd_ P ops C kp G s pl T i (o :: l) a:=
 ⟨fun b w hb hC hG K hK=>h1 w (fun j hj hk=>hG j hj (fun _=>hk)) K fun v hv=>hK v w (by rw [his,Bool.or_false];exact hC) (fun _ _ _ _ h=>h) hv,h2⟩
def jU_ (h:T a):cd_ P ops C kp G s pl T i [] a:=h
end
def ko_ {W:World} {l:List Oper} (m s:Nat) (pl kp:Nat->Bool) (D:World->Prop) (ls:List SP)
  (hm:P.follows .mixedOrders=true) (hB:iw_ l.toArray m s pl=true) (hs:a.tmps.size=m) (hkp:(List.range l.toArray.size).all (fun j=>!decide (s<j)||!kp j||Region.waitsFor .any l.toArray j s)=true)
  (hs0:(l.toArray[s]?).any (fun o=>o.dst.isSome)=true\/∀w,GS ls s undef w)
  (h:cd_ P l.toArray (CB W D) kp (GS ls) s pl (fun a'=>∀w',D w'->(∀j,j<l.toArray.size->kp j=true->GS ls j (cv_ l.toArray a' j) w')->wpList P l.toArray Q [] a' w') 0 l a):(Code.region id l.toArray true).wp P Q a W:=
 it_ m s pl (CB W D) kp (GS ls) hm hB hs (B_.drew) hkp (fun o ho hd w=>by
  rcases hs0 with h | h
  ·rw [ho] at h;simp [hd] at h
  ·exact h w) h
end
section
structure Lr where
 act:List Int
 ina:List Int
 ref:List Int
def LrA (w:World) (S:Nat->Prop) (v1 v2 v3:Value) (a:Lr):Prop:=LA Z_ w S v1 a.act/\LA Z_ w S v2 a.ina/\LA Z_ w S v3 a.ref
def LrA.kept {a:Lr} (h:LrA w S v1 v2 v3 a) (hk:r_ S w w'):LrA w' S v1 v2 v3 a:=⟨h.1.kept hk,h.2.1.kept hk,h.2.2.kept hk⟩
def LrA.step {a:Lr} (h:LrA w S v1 v2 v3 a) (hb:s_ w w'):LrA w' S v1 v2 v3 a:=h.kept (r_.of_below hb)
def LrA.weak {a:Lr} (h:LrA w S v1 v2 v3 a) (hS:∀b,b<w.heap.size->S b->S' b):LrA w S' v1 v2 v3 a:=⟨h.1.weak hS,h.2.1.weak hS,h.2.2.weak hS⟩
def LA.oneCell {R:RR α k} {L:List α} (h:LA R w S v L):v.oneCell'=true:=by obtain ⟨A,cap,rfl,_⟩:=h.form;rfl
def LrR:RR Lr 3 where
 p w S a r:=∃v1 v2 v3,r=[v1,v2,v3]/\LrA w S v1 v2 v3 a
 st w w' S a r hk h:=by obtain ⟨v1,v2,v3,e,h⟩:=h;exact ⟨v1,v2,v3,e,h.kept hk⟩
 wk w S S' a r hS h:=by obtain ⟨v1,v2,v3,e,h⟩:=h;exact ⟨v1,v2,v3,e,h.weak hS⟩
 sh w S a r h:=by
  obtain ⟨v1,v2,v3,rfl,h1,h2,h3⟩:=h;refine ⟨rfl,fun u hu=>?_⟩;simp only[mC_,List.not_mem_nil,or_false] at hu
  rcases hu with rfl | rfl | rfl
  ·exact h1.oneCell
  ·exact h2.oneCell
  ·exact h3.oneCell
structure cD_ (a:Lr):Prop where
 rng:∀x ∈ a.act ++ a.ina,1<=x/\x<=64
 dup:(a.act ++ a.ina).Nodup
 sub:∀x ∈ a.ref,x ∈ a.act ++ a.ina
 asc:a.ref.Pairwise (·<·)
theorem ig_:∀(n:Nat) (l:List Int),l.Nodup->(∀x ∈ l,1<=x/\x<=(n:Int))->l.length<=n
 | 0,l,_,h=>by
  cases l with
  | nil=>simp
  | cons x l=>have:=h x (List.mem_cons_self ..);omega
 | n+1,l,hd,h=>by
  have h1:=ig_ n (l.erase ((n+1:Nat):Int)) (hd.erase _) (fun x c=>by
   have b:=(List.Nodup.mem_erase_iff hd).1 c;have:=h x b.2;have d:=b.1;omega)
  have h2:=List.length_erase_le (a:=((n+1:Nat):Int)) (l:=l);have h3:l.length<=(l.erase ((n+1:Nat):Int)).length+1:=by
   by_cases b:((n+1:Nat):Int) ∈ l
   ·rw [List.length_erase_of_mem b];omega
   ·rw [List.erase_of_not_mem b];omega
  omega
def jB_ (h:l.Pairwise (·<·)):l.Nodup:=h.imp fun {a b} hab=>by omega
def cD_.lens {a:Lr} (h:cD_ a):a.act.length<=64/\a.ina.length<=64/\a.ref.length<=64:=by have h1:=ig_ 64 _ h.dup h.rng;rw [aL_] at h1;have h2:=ig_ 64 _ (jB_ h.asc) (fun x hx=>h.rng x (h.sub x hx));exact ⟨O_,O_,h2⟩
def rj_ (hd:l.Nodup) (hx:l[k]?=some x):atL (l.take k) x=-1:=by unfold atL;rw [if_neg];intro f;let⟨i,d,b⟩:=List.getElem_of_mem f;rw [List.length_take] at d;rw [List.getElem_take] at b;let⟨c,a⟩:=List.getElem?_eq_some_iff.1 hx;have:=(List.getElem_inj hd).1 (b.trans a.symm);omega
def gu_ (h:x ∈ l):0<=atL l x:=by unfold atL;rw [if_pos h];omega
def gT_ (h:x ∉ l):atL l x=-1:=by unfold atL;rw [if_neg h]
def c4_ (a:Lr) (f:Int):Bool:=decide (f ∈ a.act ++ a.ina)
def SP.la {α:Type} {k:Nat} (R:RR α k) (S:Nat->Prop) (L:List α):SP:=⟨fun v w=>LA R w S v L,fun _ _ _ hb h=>h.step hb⟩
def SP.lo {α:Type} {k:Nat} (R:RR α k) (e:TypeId) (base:Nat) (S:Nat->Prop) (L:List α):SP:=⟨fun v w=>LO R e w base S v L/\base<=w,fun _ _ _ hb h=>⟨h.1.step hb,lT_ h.2 hb.size⟩⟩
def pF_ {a:Lr} (f:Int) (h:LrA w S v1 v2 v3 a):C_ 189 #[.agg #[v1,v2,v3],I_ f] w (aO_ (c4_ a f) w):=by let⟨h1,h2,h3⟩:=h;have a1:=fun w' (hb:s_ w w')=>oH_ f (h1.step hb);have a2:=fun w' (hb:s_ w w')=>oH_ f (h2.step hb);have k:=H_ (i_ w (.cells #[v1,v2,v3] 119));have b:=H_ (b_ (bR_ (w) w) (.cells #[v1,v2,v3] 119));clear h1 h2 h3;by_cases c:f ∈ a.act;{have d:=gu_ c;have i:=H_ (show c4_ a f=true by simp [c4_,c]);clear c;generalize atL a.act f=z at a1 d;go_enter func189,ntmps189;go_wp2_with (go_at_call 161;(with_reducible refine CM (a1 _ b.out) ?_);rintro e w' ⟨rfl,rfl⟩);go_ret;exact ⟨by rw [i.out];rfl,b.out⟩};by_cases g:f ∈ a.ina;{have d:=gT_ c;have j:=gu_ g;have i:=H_ (show c4_ a f=true by simp [c4_,g]);rw [d] at a1;clear c g d;generalize atL a.ina f=z at a2 j;go_enter func189,ntmps189;go_wp2_with (first | (go_at_call 161;(with_reducible refine CM (a1 _ b.out) ?_);rintro e w' ⟨rfl,rfl⟩) | (go_at_call 161;(with_reducible refine CM (a2 _ b.out) ?_);rintro e w' ⟨rfl,rfl⟩));go_ret;exact ⟨by rw [i.out];rfl,b.out⟩};have d:=gT_ c;have j:=gT_ g;have i:=H_ (show c4_ a f=false by simp [c4_,c,g]);rw [d] at a1;rw [j] at a2;clear c g d j;go_enter func189,ntmps189;go_wp2_with (first | (go_at_call 161;(with_reducible refine CM (a1 _ b.out) ?_);rintro e w' ⟨rfl,rfl⟩) | (go_at_call 161;(with_reducible refine CM (a2 _ b.out) ?_);rintro e w' ⟨rfl,rfl⟩));go_ret;exact ⟨by rw [i.out];rfl,b.out⟩
def gf_ {a:Lr} (h:LrA w S v1 v2 v3 a) (ok:cD_ a):C_ 105 #[.agg #[v1,v2,v3]] w (aO_ true w):=by let⟨l1,l2,l3⟩:=ok.lens;have V:=H_ ok;have HL:=H_ h;have HX:=H_ (i_ w (.cells #[v1,v2,v3] 119));have H:=H_ (b_ (bR_ (w) w) (.cells #[v1,v2,v3] 119));clear h ok;go_enter func105,ntmps105;go_upto_region 1 with fail;generalize w.alloc (.cells #[v1,v2,v3] 119)=W at HX H;go_cut [3] (fun s3 wx=>LA Z_ wx Any s3 (a.act ++ a.ina)/\At_ wx (w) #[v1,v2,v3] 119/\s_ w wx);{let⟨x0,x1,x2⟩:=cs3 HX.out;have d:=l_ HX;refine ko_ 74 5 (fun i=>decide (i<=4)) (fun i=>decide (5<=i)) (fun wx=>s_ W wx) [SP.eq (P_ (w)),SP.eq v1,SP.lo Z_ 3 (W) (fun b=>S b/\b<W.heap.size) a.act,SP.eq (.pointer (some ⟨w,1,none⟩)),SP.eq v2,SP.la Z_ Any (a.act ++ a.ina),SP.la Z_ Any (a.act ++ a.ina)] p_ p_ rfl p_ (.inl p_) ?_;refine cJ_ rfl rfl (fun x s t K l=>?_) (fun v0=>?_);{go_simp;exact l _ _ s (fun _ _ h=>h) rfl};simp only[ly];refine cJ_ rfl rfl (fun x s t K l=>?_) (fun u1=>?_);{obtain rfl:v0=_:=t 0 p_;have c:s_ W x:=s;have y0:=(c.cell (p:=⟨w,_,none⟩) d).trans x0;go_simp;exact l _ _ s (fun _ _ h=>h) rfl};simp only[ly];refine cJ_ rfl rfl (fun x s t K l=>?_) (fun u2=>?_);{obtain rfl:u1=_:=t 1 p_;have c:s_ W x:=s;have N:=c.size;have Z:=(((HL.out.1.step H.out).old).kept (w':=x) ⟨N,fun z U _=>c.block z U.2⟩);refine ap_ (ops:=#[]) rfl (bf_ Z_ bp_ rfl _ _ rfl rfl _ _ a.act rfl Z O_ fun v' w' v hg=>?_);have F:=(bR_ (x) x).grown hg (lR_ _) (fun b F=>by cases F);exact l _ _ (h_ c F) (fun j u h=>GS.keep F j u h) ⟨v.base_le N,by have:=F.size;omega⟩};simp only[ly];refine cJ_ rfl rfl (fun x s t K l=>?_) (fun u3=>?_);{go_simp;exact l _ _ s (fun _ _ h=>h) rfl};simp only[ly];refine cJ_ rfl rfl (fun x s t K l=>?_) (fun u4=>?_);{obtain rfl:u3=_:=t 3 p_;have c:s_ W x:=s;have y0:=(c.cell (p:=⟨w,_,none⟩) d).trans x1;go_simp;exact l _ _ s (fun _ _ h=>h) rfl};simp only[ly];refine iT_ (fun x s t K l=>?_) (fun u5=>?_);{obtain rfl:u4=_:=t 4 p_;let⟨g,a4⟩:=t 2 p_;have c:s_ W x:=s;have O:=(((HL.out.2.1.step H.out).old).kept (w':=x) ⟨c.size,fun z U _=>c.block z U.2⟩);refine ap_ (ops:=#[]) rfl (bV_ Z_ bp_ rfl _ _ rfl _ _ _ a.act rfl g a4 O_ _ a.ina rfl (O.weak fun b F h=>⟨h,fun e=>by have:=(g.own e).1;have:=h.2;omega⟩) O_ fun v' w' v hg f=>?_);exact l _ _ (c.grown hg c.size (fun b F=>(g.own F).1)) (fun j u h1 h2=>by simp at h2;omega) (v.la (fun _ _ _=>trivial) (fun _ _=>trivial))};simp only[ly];refine j5_ rfl (fun x t K l=>?_) (fun u6=>?_);{have h5:=t 5 p_ rfl;go_simp;exact l _ h5};simp only[ly];refine jU_ ?_;intro x hD hG;have h6:=hG 6 DE_ rfl;clear hG;go_wp2;go_meet;exact ⟨h6,(hD.block _ d).trans HX,h_ H.out hD⟩};clear HX H;let⟨J,hX,hB⟩:=hcut;obtain ⟨A,cap,rfl,a2,a5⟩:=J.form;have C:=H_ J;have H:=H_ hB;let⟨x0,x1,x2⟩:=cs3 hX;have I:=l_ hX;have M:(a.act ++ a.ina).length<=128:=(by rw [aL_];omega);have X:=H_ V.rng;have P:=H_ V.dup;have Q:=H_ V.sub;have a3:=H_ V.asc;have R:=H_ (HL.out.2.2.step H.out);let⟨all,G⟩:=nm_ (a.act ++ a.ina);rw [<-G] at X P Q C M a2 ⊢;clear G J hX hB HL V;unfold maxLen at a5;go_wp2;go_loopw [4] (fun i wx=>∃(k:Nat),i = I_ k/\k<=all.length/\s_ wc wx) (fun i _=>all.length - (intOf i).toNat);{exact ⟨0,rfl,O_,bR_ _ _⟩};obtain ⟨k,rfl,hk,D⟩:=hrel;have r:=H_ D;by_cases d:k<all.length;{obtain ⟨x,E⟩:∃x,all[k]?=some x:=⟨_,gE_ d⟩;let⟨b,o,cap',hv,_,_,F,_,c0⟩:=IL.cell (C.step r.out) E;injection hv with e1 e2 e3;subst e1 e3;have hr:=X x (mG_ E);have f:=fun n=>oH_ x ((((C.step r.out).step (below_drewN B_ n)).take hk));rw [rj_ P.out E] at f;have d1:decide (x<1)=false:=dF O_;have d2:decide (64<x)=false:=dF O_;have k1:k<=cap:=O_;clear E e2 D;go_upto_region 5 with fail;go_quiet ((go_at_call 161;exact Calls.quiet_of_eq (f _)));go_wp2;go_roundw;{exact ⟨k+1,by go_num,O_,below_drewN r.out _⟩};exact MS_};obtain rfl:k=all.length:=O_;have B:=H_ (R.step r.out);have Y:=H_ (C.step r.out);let⟨A3,a0,a1,q1,q2⟩:=B.form;subst a1;have y2:wr.cell? ⟨w,2,none⟩=some (S_ A3 a.ref.length a0):=(D.cell (p:=⟨w,2,none⟩) I).trans x2;have Y2:=H_ y2;have a6:=H_ (lL_ I D.size);clear D x0 x1 x2 R C I;unfold maxLen at q2;go_wp2;go_loopw [5] (fun i wx=>∃(k:Nat),i = I_ k/\k<=a.ref.length/\s_ wr wx) (fun i _=>a.ref.length - (intOf i).toNat);{exact ⟨0,rfl,O_,bR_ _ _⟩};obtain ⟨k,rfl,hk,L⟩:=hrel;have q:=H_ L;have y2:=(L.cell (p:=⟨w,2,none⟩) a6).trans Y2;clear L;by_cases d:k<a.ref.length;{obtain ⟨x,E⟩:∃x,a.ref[k]?=some x:=⟨_,gE_ d⟩;let⟨b,o,cap',hv,_,_,F,_,c0⟩:=IL.cell (B.step q.out) E;injection hv with e1 e2 e3;subst e1 e3;have f:=fun n=>oH_ x ((Y.step q.out).step (below_drewN B_ n));have U:=gu_ (Q x (mG_ E));generalize atL all x=z at f U;have d1:decide (z<0)=false:=dF O_;cases k with|zero=>rw [Nat.add_zero] at c0;clear E e2;go_upto_region 10 with fail;go_quiet ((go_at_call 161;exact Calls.quiet_of_eq (f _)));go_wp2;go_roundw;{exact ⟨1,rfl,O_,below_drewN q.out _⟩};exact MS_|succ m=>obtain ⟨y,hy⟩:∃y,a.ref[m]?=some y:=⟨_,gE_ O_⟩;have hc:=IL.cell (B.step q.out) hy;let⟨b',o',cap',hv,_,_,_,_,c1⟩:=hc;injection hv with e1 _ _;injection e1 with e1;injection e1 with e4 e5;subst e4 e5;have a7:y<x:=(by have:=List.pairwise_iff_getElem.1 a3.out m (m+1) O_ d O_;rw [<-(List.getElem?_eq_some_iff.1 hy).2,<-(List.getElem?_eq_some_iff.1 E).2];exact this);have d2:decide (x<=y)=false:=dF O_;have w1:i64.wrap ((m:Int)+1 - 1)=(m:Int):=(by rw [w64 O_];omega);have g0:(0:Int)<(m:Int)+1:=O_;clear E hy e2;go_upto_region 10 with fail;go_quiet ((go_at_call 161;exact Calls.quiet_of_eq (f _)));go_wp2;go_roundw;{exact ⟨m+2,by go_num,O_,below_drewN q.out _⟩};exact MS_};obtain rfl:k=a.ref.length:=O_;go_wp2;go_ret;exact ⟨rfl,h_ (h_ H.out r.out) q.out⟩
end
end Go.Proofs.YtehfhnbpnaiogaaGreatDoor
