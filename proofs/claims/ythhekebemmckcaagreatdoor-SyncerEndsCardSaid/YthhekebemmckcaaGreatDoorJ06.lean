/-
  Lemmas and contracts for the laws of synchronisations (layer 43), part 6; several texts joined by a program.
-/
import Derived.Test.YthhekebemmckcaaGreatDoorJ01
import Derived.Test.YthhekebemmckcaaGreatDoorJ05
import Derived.Deep.MidRow
import Derived.Outline
namespace Go.Proofs.YthhekebemmckcaaGreatDoor
set_option linter.unusedVariables false
set_option linter.unusedSimpArgs false
set_option maxRecDepth 100000
set_option maxHeartbeats 16000000
open Go.RowKit
section
theorem heap_setCells (g:Nat):∀(vs:List Value) (o:Nat) (w:World) (k:Nat),k≠g→(w.setCells g o vs).heap[k]?=w.heap[k]?
 | [],_,_,_,_=>rfl
 | v :: vs,o,w,k,hk=>by
  rw [World.setCells,heap_setCells g vs (o+1) _ k hk]
  exact Below.heap_setCell w ⟨g,o,none⟩ v k hk
theorem setCells_same (g:Nat):∀(vs:List Value) (o:Nat) (w:World),(w.setCells g o vs).os=w.os∧(w.setCells g o vs).tape=w.tape∧(w.setCells g o vs).output=w.output∧(w.setCells g o vs).heap.size=w.heap.size
 | [],_,_=>⟨rfl,rfl,rfl,rfl⟩
 | v :: vs,o,w=>by
  rw [World.setCells]
  obtain ⟨h1,h2,h3,h4⟩:=setCells_same g vs (o+1) (w.setCell ⟨g,o,none⟩ v)
  exact ⟨h1.trans rfl,h2.trans rfl,h3.trans rfl,h4.trans (by simp [World.setCell])⟩
theorem bl_setCells {B g:Nat} {w0 w:World} (hb:Below B w0 w) (hBg:B≤g) (o:Nat) (vs:List Value):Below B w0 (w.setCells g o vs):=by
 obtain ⟨h1,h2,h3,h4⟩:=setCells_same g vs o w
 exact hb.trans ⟨h1,h2,h3,by omega,fun k hk=>heap_setCells g vs o w k (by omega)⟩
theorem cano_kl (h:Nat) (c:Cn):(cano h c).kids.length≤4:=by
 cases h with
 | zero=>simp [cano,T.kids]
 | succ h=>rw [cano_succ];split <;> simp [T.nil,T.kids,kidsC_len]
theorem cano_ml (h:Nat) (c:Cn):(cano h c).kids.length≤maxLen:=Nat.le_trans (cano_kl h c) (by unfold maxLen;omega)
def RetT (t:T) (S:Nat→Prop) (w:World) (e:Ending) (w':World):Prop:=∃A cap,e = .returned (ndV A t.kids.length cap t.val t.marks)∧t.kids.length≤cap∧NK w' S A t.kids∧Below w.heap.size w w'
def upd (c:Cn) (i:Nat) (x:Int × Int):Cn:=fun j=>if j=i then x else c j
inductive NL (w:World) (S:Nat→Prop):List T→List Value→Prop
 | nil:NL w S [] []
 | cons (k:T) (ks:List T) (A:Option Addr) (cap:Nat) (xs:List Value) (h1:k.kids.length≤maxLen) (h2:k.kids.length≤cap) (hk:NK w S A k.kids) (h:NL w S ks xs):NL w S (k :: ks) (.slice A k.kids.length cap :: .int .i64 k.val :: .int .i64 k.marks :: xs)
theorem NL.kept {w w':World} {S S':Nat→Prop} {ks:List T} {xs:List Value} (h:NL w S ks xs) (hs:w.heap.size≤w'.heap.size) (hb:∀b,S b→b<w.heap.size→w'.heap[b]?=w.heap[b]?) (hS:∀b,b<w.heap.size→S b→S' b):NL w' S' ks xs:=by
 induction h with
 | nil=>exact .nil
 | cons k ks A cap xs h1 h2 hk h ih=>exact .cons k ks A cap xs h1 h2 ((hk.weak (S':=fun b=>S' b∧S b) fun b h1 h2=>⟨hS b h1 h2,h2⟩).kept hs (fun b h1 h2=>hb b h1.2 h2) |>.weak fun b _ h=>h.1) ih
theorem NL.step {w w':World} {S:Nat→Prop} {ks:List T} {xs:List Value} (h:NL w S ks xs) (hb:Below w.heap.size w w'):NL w' S ks xs:=h.kept hb.size (fun b _ hlt=>hb.block b hlt) fun _ _ h=>h
theorem NL.snoc {w:World} {S:Nat→Prop} {ks:List T} {xs:List Value} (h:NL w S ks xs) (k:T) (A:Option Addr) (cap:Nat) (h1:k.kids.length≤maxLen) (h2:k.kids.length≤cap) (hk:NK w S A k.kids):NL w S (ks ++ [k]) (xs ++ [.slice A k.kids.length cap,.int .i64 k.val,.int .i64 k.marks]):=by
 induction h with
 | nil=>exact .cons k [] A cap [] h1 h2 hk .nil
 | cons k' ks A' cap' xs h1' h2' hk' h ih=>exact .cons k' _ A' cap' _ h1' h2' hk' ih
theorem NL.len {w:World} {S:Nat→Prop} {ks:List T} {xs:List Value} (h:NL w S ks xs):xs.length=ks.length*3:=by
 induction h with
 | nil=>rfl
 | cons k ks A cap xs h1 h2 hk h ih=>simp [ih];omega
theorem NL.get {w:World} {S:Nat→Prop} {ks:List T} {xs:List Value} (h:NL w S ks xs):∀{i:Nat} {k:T},ks[i]?=some k→∃A cap,xs[i*3]?=some (.slice A k.kids.length cap)∧xs[i*3+1]?=some (.int .i64 k.val)∧xs[i*3+2]?=some (.int .i64 k.marks)∧k.kids.length≤maxLen∧k.kids.length≤cap∧NK w S A k.kids:=by
 induction h with
 | nil=>intro i k hi;simp at hi
 | cons k' ks A cap xs h1 h2 hk h ih=>
  intro i k hi
  cases i with
  | zero=>
   simp at hi
   subst hi
   exact ⟨A,cap,by simp,by simp,by simp,h1,h2,hk⟩
  | succ i=>
   obtain ⟨A',cap',e0,e1,e2,r⟩:=ih (i:=i) (k:=k) (by simpa using hi)
   rw [show (i+1)*3=i*3+3 from by omega,show i*3+3+1=i*3+1+3 from by omega,show i*3+3+2=i*3+2+3 from by omega]
   exact ⟨A',cap',by simpa using e0,by simpa using e1,by simpa using e2,r⟩
def NO (w:World) (base:Nat) (S:Nat→Prop) (u:Value) (ks:List T) (xs:List Value):Prop:=w.ownsRow base 70 3 u ks.length xs∧NL w (fun b=>S b∧u.ownBlock≠some b) ks xs
theorem NO.step {w w':World} {base:Nat} {S:Nat→Prop} {u:Value} {ks:List T} {xs:List Value} (h:NO w base S u ks xs) (hb:Below w.heap.size w w'):NO w' base S u ks xs:=⟨own_step h.1 hb,h.2.step hb⟩
theorem NO.nil (w:World) (base:Nat) (S:Nat→Prop):NO w base S (.slice none 0 0) [] []:=⟨World.ownsRow_nil _ _ _ _,.nil⟩
theorem NO.alloc {w:World} {base:Nat} {S:Nat→Prop} {u:Value} {ks:List T} {xs:List Value} (h:NO w base S u ks xs) (o:Obj):NO (w.alloc o) base S u ks xs:=h.step (B_.alloc (Nat.le_refl _) _)
theorem NO.set {w:World} {base:Nat} {S:Nat→Prop} {u:Value} {ks:List T} {xs:List Value} (h:NO w base S u ks xs) (p:Addr) (v:Value) (h1:¬S p.block) (h2:p.block<base):NO (w.setCell p v) base S u ks xs:=
 ⟨ownsRow_setCell_other h.1 (fun e=>by have:=(h.1.lt _ e).1;omega) v,h.2.kept (by simp [World.setCell]) (fun b hb _=>Below.heap_setCell w p v b (fun e=>h1 (e ▸ hb.1))) fun _ _ h=>h⟩
theorem NO.snoc {w w':World} {base:Nat} {S:Nat→Prop} {u:Value} {ks:List T} {xs:List Value} (h:NO w base S u ks xs) {g n cap':Nat} (k:T) (A:Option Addr) (cap:Nat) (h1:k.kids.length≤maxLen) (h2:k.kids.length≤cap)
  (hk:NK w (fun b=>S b∧u.ownBlock≠some b) A k.kids) (hown:w'.ownsRow base 70 3 (.slice (some ⟨g,0,none⟩) n cap') (ks.length+1) (xs ++ [.slice A k.kids.length cap,.int .i64 k.val,.int .i64 k.marks]))
  (hg:w.grownBy w' u.ownBlock) (hat:u.ownBlock=some g∨g=w.heap.size):NO w' base S (.slice (some ⟨g,0,none⟩) n cap') (ks ++ [k]) (xs ++ [.slice A k.kids.length cap,.int .i64 k.val,.int .i64 k.marks]):=by
 refine ⟨by rw [List.length_append];exact hown,(h.2.snoc k A cap h1 h2 hk).kept hg.size (fun b hb hlt=>hg.block b hlt fun e=>hb.2 e.symm) fun b hlt hb=>⟨hb.1,fun e=>?_⟩⟩
 simp only [Value.ownBlock,Option.some.injEq] at e
 subst e
 rcases hat with hat | hat
 ·exact hb.2 hat
 ·omega
theorem NO.nk {w:World} {base:Nat} {S S':Nat→Prop} {u:Value} {ks:List T} {xs:List Value} (h:NO w base S u ks xs) (hS:∀b,S b→S' b) (hS':∀b,base≤b→S' b):∃A cap,u = .slice A ks.length cap∧ks.length≤cap∧NK w S' A ks:=by
 obtain ⟨hown,hnl⟩:=h
 have hlen:=hnl.len
 rcases hown.2 with ⟨h1,h2⟩ | ⟨g,cap,cur,h1,h2,h3,h4,h5,h6,h7⟩
 ·refine ⟨none,0,by rw [h1,h2],by omega,?_⟩
  rw [List.length_eq_zero_iff.1 h2]
  exact .nil _
 ·refine ⟨_,cap,h1,h4,?_⟩
  have ch:∀i:Nat,∃x:Option Addr × Nat,∀k:T,ks[i]?=some k→(xs[i*3]?=some (.slice x.1 k.kids.length x.2)∧xs[i*3+1]?=some (.int .i64 k.val)∧xs[i*3+2]?=some (.int .i64 k.marks)∧k.kids.length≤maxLen∧k.kids.length≤x.2∧NK w (fun b=>S b∧u.ownBlock≠some b) x.1 k.kids):=fun i=>by
   cases hk:ks[i]? with
   | none=>exact ⟨(none,0),fun k h=>by cases h⟩
   | some k=>
    obtain ⟨A,cap,e⟩:=hnl.get hk
    exact ⟨(A,cap),fun k' h=>by injection h with h;subst h;exact e⟩
  have hx:∀j,j<xs.length→w.cell? ⟨g,j,none⟩=xs[j]?:=fun j hj=>by
   rw [←h7,List.getElem?_take,if_pos (by omega)]
   simp [World.cell?,h3]
  refine .mk g 0 ks (fun i=>(Classical.choose (ch i)).1) (fun i=>(Classical.choose (ch i)).2) (hS' g h2) (bk_lt h3) (fun (i:Nat) (k:T) hi=>?_) (fun (i:Nat) (k:T) hi=>?_) (fun (i:Nat) (k:T) hi=>?_)
  all_goals
   have hil:i<ks.length:=(g_l hi)
   obtain ⟨e0,e1,e2,e3,e4,e5⟩:=Classical.choose_spec (ch i) k hi
  ·rw [Nat.zero_add]
   exact ⟨(hx _ (by omega)).trans e0,(hx _ (by omega)).trans e1,(hx _ (by omega)).trans e2⟩
  ·exact ⟨e3,e4⟩
  ·exact e5.weak fun b _ hb=>hS b hb.1
theorem node_info:(Tryz.prog.info? 70).map (fun i=>(i.zero,i.size,i.bytes))=some (some (.agg #[.slice none 0 0,.int .i64 0,.int .i64 0]),3,40):=by kernel_rfl
end
section
theorem tree_size:(Tryz.prog.info? 72).map (·.size)=some 4:=by kernel_rfl
theorem tree_one (h:Int) (A:Option Addr) (n cap:Nat) (v m:Int):(#[Value.int .i64 h,Value.slice A n cap,.int .i64 v,.int .i64 m]:Array Value).all (·.oneCell')=true:=by simp [Value.oneCell']
theorem tree_res {fn:Func} {p:Tmp} (h:fn.results=#[.cell p 72]) (tmps:Array Value) (w:World) (g:Nat) (t:TypeId) (a b c d:Value) (fr:Nat × Nat)
  (hp:tmps.getD p undef = .pointer (some ⟨g,0,none⟩)) (hg:w.heap[g]?=some (.cells #[a,b,c,d] t fr)):(results fn tmps).run Tryz.prog w = .ok (.agg #[a,b,c,d]) w:=
 results_cell_row h tmps w g t _ fr _ hp hg Tryz.underlying72 rfl tree_size
def RetTr (c:Cn) (S:Nat→Prop) (w:World) (e:Ending) (w':World):Prop:=∃(h:Nat) (A:Option Addr) (cap:Nat),e = .returned (trV h A (cano h c).kids.length cap (cano h c).val (cano h c).marks)∧TreeOk h c∧(cano h c).kids.length≤cap∧NK w' S A (cano h c).kids∧Below w.heap.size w w'
end
section
abbrev En:=Int × Int × Int
def ens:List En→List Value
 | []=>[]
 | (i,v,m) :: l=> .int .i64 i :: .int .i64 v :: .int .i64 m :: ens l
theorem ens_app (l l':List En):ens (l ++ l')=ens l ++ ens l':=by
 induction l with
 | nil=>rfl
 | cons a l ih=>obtain ⟨x,y,z⟩:=a;simp [ens,ih]
theorem ens_get:∀(l:List En) (i:Nat) (d s c:Int),l[i]?=some (d,s,c)→(ens l)[i*3]?=some (.int .i64 d)∧(ens l)[i*3+1]?=some (.int .i64 s)∧(ens l)[i*3+2]?=some (.int .i64 c)
 | [],i,d,s,c,h=>by simp at h
 | (x,y,z) :: l,0,d,s,c,h=>by simp at h;obtain ⟨rfl,rfl,rfl⟩:=h;simp [ens]
 | (x,y,z) :: l,i+1,d,s,c,h=>by
  have h1:=ens_get l i d s c (by simpa using h)
  rw [show (i+1)*3=i*3+3 from by omega,show i*3+3+1=i*3+1+3 from by omega,show i*3+3+2=i*3+2+3 from by omega]
  simpa [ens] using h1
def EA (w:World) (S:Nat→Prop) (v:Value) (l:List En):Prop:=
 ∃A cap,v = .slice A l.length cap∧l.length≤cap∧cap≤maxLen∧(l=[]∨∃b o,A=some ⟨b,o,none⟩∧b<w.heap.size∧S b∧∀i d s c,l[i]?=some (d,s,c)→
  w.cell? ⟨b,o+i*3,none⟩=some (.int .i64 d)∧w.cell? ⟨b,o+i*3+1,none⟩=some (.int .i64 s)∧w.cell? ⟨b,o+i*3+2,none⟩=some (.int .i64 c))
theorem EA.kept {w w':World} {S:Nat→Prop} {v:Value} {l:List En} (h:EA w S v l) (hs:w.heap.size≤w'.heap.size) (hb:∀b,S b→b<w.heap.size→w'.heap[b]?=w.heap[b]?):EA w' S v l:=by
 obtain ⟨A,cap,e,hc,hm,h⟩:=h
 refine ⟨A,cap,e,hc,hm,?_⟩
 rcases h with h | ⟨b,o,h1,h2,h0,h3⟩
 ·exact .inl h
 ·refine .inr ⟨b,o,h1,by omega,h0,fun i d s c hi=>?_⟩
  obtain ⟨c0,c1,c2⟩:=h3 i d s c hi
  exact ⟨(World.cell?_of_block (a:=⟨b,_,none⟩) (hb b h0 h2)).trans c0,(World.cell?_of_block (a:=⟨b,_,none⟩) (hb b h0 h2)).trans c1,(World.cell?_of_block (a:=⟨b,_,none⟩) (hb b h0 h2)).trans c2⟩
theorem EA.step {w w':World} {S:Nat→Prop} {v:Value} {l:List En} (h:EA w S v l) (hb:Below w.heap.size w w'):EA w' S v l:=h.kept hb.size fun b _ hlt=>hb.block b hlt
theorem EA.weak {w:World} {S S':Nat→Prop} {v:Value} {l:List En} (h:EA w S v l) (hs:∀b,b<w.heap.size→S b→S' b):EA w S' v l:=by
 obtain ⟨A,cap,e,hc,hm,h⟩:=h
 refine ⟨A,cap,e,hc,hm,?_⟩
 rcases h with h | ⟨b,o,h1,h2,h0,h3⟩
 ·exact .inl h
 ·exact .inr ⟨b,o,h1,h2,hs b h2 h0,h3⟩
theorem EA.of_own {w:World} {base:Nat} {v:Value} {l:List En} {t:TypeId} {S:Nat→Prop} (h:w.ownsRow base t 3 v l.length (ens l)) (hS:∀b,v.ownBlock=some b→S b):EA w S v l:=by
 rcases h.2 with ⟨h1,h2⟩ | ⟨g,cap,cur,h1,h2,h3,h4,h5,h6,h7⟩
 ·exact ⟨none,0,by rw [h1,h2],by omega,by unfold maxLen;omega,.inl (List.eq_nil_of_length_eq_zero h2)⟩
 ·refine ⟨_,cap,h1,h4,h5,.inr ⟨g,0,rfl,bk_lt h3,hS g (by rw [h1];rfl),fun i d s c hi=>?_⟩⟩
  have hil:i<l.length:=(g_l hi)
  obtain ⟨x0,x1,x2⟩:=ens_get l i d s c hi
  have hx:∀j,j<l.length*3→w.cell? ⟨g,j,none⟩=(ens l)[j]?:=fun j hj=>by
   rw [←h7,List.getElem?_take,if_pos hj]
   simp [World.cell?,h3]
  rw [Nat.zero_add]
  exact ⟨(hx _ (by omega)).trans x0,(hx _ (by omega)).trans x1,(hx _ (by omega)).trans x2⟩
theorem EA.at_ {w:World} {S:Nat→Prop} {v:Value} {l:List En} (h:EA w S v l) {i:Nat} (hi:i<l.length):∃b o cap d s c,v = .slice (some ⟨b,o,none⟩) l.length cap∧l.length≤cap∧cap≤maxLen∧b<w.heap.size∧l[i]?=some (d,s,c)∧
  w.cell? ⟨b,o+i*3,none⟩=some (.int .i64 d)∧w.cell? ⟨b,o+i*3+1,none⟩=some (.int .i64 s)∧w.cell? ⟨b,o+i*3+2,none⟩=some (.int .i64 c):=by
 obtain ⟨A,cap,e,hc,hm,h⟩:=h
 rcases h with h | ⟨b,o,h1,h2,h0,h3⟩
 ·subst h;simp at hi
 ·subst h1
  have he:l[i]?=some l[i]:=List.getElem?_eq_getElem hi
  obtain ⟨c0,c1,c2⟩:=h3 i _ _ _ he
  exact ⟨b,o,cap,_,_,_,e,hc,hm,h2,he,c0,c1,c2⟩
theorem entry_info:(Tryz.prog.info? 137).map (fun i=>(i.zero,i.size,i.bytes))=some (some (.agg #[.int .i64 0,.int .i64 0,.int .i64 0]),3,24):=by kernel_rfl
def ents (base n:Nat) (c:Cn):List En:=(List.range n).filterMap fun j=>if c j=(0,0) then none else some (((base+j:Nat):Int),(c j).1,(c j).2)
theorem ents_add (base a b:Nat) (c:Cn):ents base (a+b) c=ents base a c ++ ents (base+a) b (sh c a):=by
 unfold ents
 rw [List.range_add,List.filterMap_append,List.filterMap_map]
 congr 1
 refine congrArg (fun f=>List.filterMap f (List.range b)) (funext fun j=>?_)
 simp only [Function.comp,sh,Nat.add_assoc]
theorem ents_zero (base:Nat) (c:Cn):ents base 0 c=[]:=rfl
theorem ents_none {base n:Nat} {c:Cn} (h:noneB n c=true):ents base n c=[]:=by
 unfold ents
 rw [List.filterMap_eq_nil_iff]
 intro j hj
 rw [if_pos (noneB_true.1 h j (List.mem_range.1 hj))]
theorem ents_len (base n:Nat) (c:Cn):(ents base n c).length≤n:=by
 unfold ents
 have:=List.length_filterMap_le (fun j=>if c j=(0,0) then none else some (((base+j:Nat):Int),(c j).1,(c j).2)) (List.range n)
 simpa using this
theorem ents_one {base:Nat} {c:Cn} (h:noneB 1 c=false):ents base 1 c=[((base:Int),(c 0).1,(c 0).2)]:=by
 obtain ⟨i,hi,hne⟩:=noneB_false.1 h
 obtain rfl:i=0:=by omega
 unfold ents
 simp [hne]
theorem entK_succ (base p k:Nat) (c:Cn):ents base ((k+1)*p) c=ents base (k*p) c ++ ents (base+k*p) p (sh c (k*p)):=by
 rw [Nat.add_mul,Nat.one_mul,ents_add]
structure LS (W:World) (v:Value) (B:Nat) (L:List En) (vk:Value) (wx:World):Prop where
 own:wx.ownsRow B 137 3 vk L.length (ens L)
 gr:W.grownBy wx v.ownBlock
 ob:vk.ownBlock=v.ownBlock∨∀g,vk.ownBlock=some g→W.heap.size≤g
theorem LS.refl {W:World} {v:Value} {B:Nat} {L:List En} (h:W.ownsRow B 137 3 v L.length (ens L)):LS W v B L v W:=⟨h,⟨rfl,rfl,rfl,Nat.le_refl _,fun _ _ _=>rfl⟩,.inl rfl⟩
theorem LS.trans {W wx wy:World} {v vk vl:Value} {B:Nat} {L L':List En} (h:LS W v B L vk wx) (h':LS wx vk B L' vl wy):LS W v B L' vl wy:=by
 refine ⟨h'.own,⟨h'.gr.os.trans h.gr.os,h'.gr.tape.trans h.gr.tape,h'.gr.output.trans h.gr.output,Nat.le_trans h.gr.size h'.gr.size,fun k hk hn=>(h'.gr.block k (Nat.lt_of_lt_of_le hk h.gr.size) fun e=>?_).trans (h.gr.block k hk hn)⟩,?_⟩
 ·rcases h.ob with h1 | h1
  ·exact hn (by rw [e];exact h1)
  ·have:=h1 k e.symm;omega
 ·rcases h'.ob with h1 | h1
  ·rw [h1];exact h.ob
  ·exact .inr fun g hg=>Nat.le_trans h.gr.size (h1 g hg)
theorem LS.step {W wx wy:World} {v vk:Value} {B:Nat} {L:List En} (h:LS W v B L vk wx) (hb:Below wx.heap.size wx wy):LS W v B L vk wy:=
 h.trans ⟨own_step h.own hb,⟨hb.os,hb.tape,hb.output,hb.size,fun k hk _=>hb.block k hk⟩,.inl rfl⟩
theorem LS.nk {W wx:World} {v vk:Value} {B:Nat} {L:List En} (h:LS W v B L vk wx) {A:Option Addr} {ks:List T} (hk:NK W (fun z=>v.ownBlock≠some z) A ks):NK wx (fun z=>vk.ownBlock≠some z) A ks:=by
 have h1:=(hk.weak (S':=fun z=>v.ownBlock≠some z∧vk.ownBlock≠some z) fun b hlt hb=>⟨hb,fun e=>by
  rcases h.ob with h1 | h1
  ·exact hb (h1 ▸ e)
  ·have:=h1 b e;omega⟩).kept h.gr.size (fun b hb hlt=>h.gr.block b hlt fun e=>hb.1 e.symm)
 exact h1.weak fun b _ hb=>hb.2
theorem LS.bk {W wx:World} {v vk:Value} {B:Nat} {L:List En} (h:LS W v B L vk wx) {g:Nat} {o:Obj} (hg:W.heap[g]?=some o) (hn:v.ownBlock≠some g):wx.heap[g]?=some o:=(h.gr.block g (bk_lt hg) fun e=>hn e.symm).trans hg
theorem LS.ne {W wx:World} {v vk:Value} {B:Nat} {L:List En} (h:LS W v B L vk wx) {g:Nat} (hg:g<W.heap.size) (hn:v.ownBlock≠some g):vk.ownBlock≠some g:=fun e=>by
 rcases h.ob with h1 | h1
 ·exact hn (h1 ▸ e)
 ·have:=h1 g e;omega
theorem LS.snoc {W wx wy:World} {v vk:Value} {B g n cap:Nat} {L:List En} {i x m:Int} (h:LS W v B L vk wx) (hown:wy.ownsRow B 137 3 (.slice (some ⟨g,0,none⟩) n cap) (L.length+1) (ens L ++ [.int .i64 i,.int .i64 x,.int .i64 m])) (hg:wx.grownBy wy vk.ownBlock) (hat:vk.ownBlock=some g∨g=wx.heap.size) :
  LS W v B (L ++ [(i,x,m)]) (.slice (some ⟨g,0,none⟩) n cap) wy:=
 h.trans ⟨by rw [ens_app];simpa [ens] using hown,hg,by
  rcases hat with hat | hat
  ·exact .inl hat.symm
  ·exact .inr fun g' hg'=>by simp only [Value.ownBlock,Option.some.injEq] at hg';omega⟩
def RetL (B:Nat) (L:List En) (v:Value) (w:World) (e:Ending) (w':World):Prop:=∃v',e = .returned v'∧LS w v B L v' w'
end
section
theorem res2 {P:Program} {fn:Func} {p q:Tmp} {ty:TypeId} (h:fn.results=#[.cell p ty,.tmp q]) (tmps:Array Value) (w:World) (g:Nat) (t:TypeId) (cs:Array Value) (fr:Nat × Nat) (d:TypeDesc) (u:Value)
  (hp:tmps.getD p undef = .pointer (some ⟨g,0,none⟩)) (hq:tmps.getD q undef=u) (hg:w.heap[g]?=some (.cells cs t fr))
  (hu:P.underlying ty=some d) (hd:(match d with | .struct _ | .array _ _=>true | _=>false)=true) (hi:(P.info? ty).map (·.size)=some cs.size) :
  (results fn tmps).run P w = .ok (.tuple #[.agg cs,u]) w:=by
 have hp':tmps[p]?.getD undef = .pointer (some ⟨g,0,none⟩):=by simpa using hp
 have hq':tmps[q]?.getD undef=u:=by simpa using hq
 simp [results,h,hp',hq',asAddr,run_loadVar_row w g t ty cs fr d hg hu hd hi]
theorem tree2_res {fn:Func} {p q:Tmp} (h:fn.results=#[.cell p 72,.tmp q]) (tmps:Array Value) (w:World) (g:Nat) (t:TypeId) (a b c d:Value) (fr:Nat × Nat) (u:Value)
  (hp:tmps.getD p undef = .pointer (some ⟨g,0,none⟩)) (hq:tmps.getD q undef=u) (hg:w.heap[g]?=some (.cells #[a,b,c,d] t fr)):(results fn tmps).run Tryz.prog w = .ok (.tuple #[.agg #[a,b,c,d],u]) w:=
 res2 h tmps w g t _ fr _ u hp hq hg Tryz.underlying72 rfl tree_size
def RetTE (c:Cn) (err:Int) (S:Nat→Prop) (w:World) (e:Ending) (w':World):Prop:=∃(h:Nat) (A:Option Addr) (cap:Nat),e = .returned (.tuple #[trV h A (cano h c).kids.length cap (cano h c).val (cano h c).marks,.int .i64 err])∧TreeOk h c∧(cano h c).kids.length≤cap∧NK w' S A (cano h c).kids∧Below w.heap.size w w'
theorem RetTE.err {err:Int} {S:Nat→Prop} {w w':World} (h:Below w.heap.size w w'):RetTE zeroC err S w (.returned (.tuple #[trV 0 none 0 0 0 0,.int .i64 err])) w':=
 ⟨0,none,0,by rfl,TreeOk.zero,Nat.zero_le _,.nil _,h⟩
def inB (i:Int):Bool:=decide (0≤i∧i≤255)
theorem inB_t {i:Int} (h:inB i=true):0≤i∧i≤255:=by simpa [inB] using h
theorem inside_b (i:Int) (w:World):Calls Tryz.prog 103 #[.int .i64 i] w fun e w'=>e = .returned (.bool (inB i))∧w=w':=inside_w i w
def setR (c:Cn) (i v:Int):Cn × Int:=if inB i then (upd c i.toNat (v,0),0) else (zeroC,2)
def frR (c:Cn) (i m:Int):(Int × Int) × Int:=if inB i then (if oneB m then (if (c i.toNat).1≤0 then ((0,0),4) else (c i.toNat,0)) else ((0,0),1)) else ((0,0),2)
abbrev notI (a b:Int):Int:=bits .andNot .i64 a b
def markR (c:Cn) (i m:Int):Cn × Int:=if (frR c i m).2=0 then (upd c i.toNat ((c i.toNat).1,orI (c i.toNat).2 m),0) else (zeroC,(frR c i m).2)
def unmarkR (c:Cn) (i m:Int):Cn × Int:=if (frR c i m).2=0 then (upd c i.toNat ((c i.toNat).1,notI (c i.toNat).2 m),0) else (zeroC,(frR c i m).2)
def getR (c:Cn) (i:Int):Int:=if inB i then (c i.toNat).1 else 0
theorem fr_ok {c:Cn} {i m:Int} (h:(frR c i m).2=0):inB i=true∧oneB m=true∧0<(c i.toNat).1∧frR c i m=(c i.toNat,0):=by
 unfold frR at h ⊢
 cases h1:inB i with
 | false=>rw [h1] at h;simp at h
 | true=>
  rw [h1] at h
  cases h2:oneB m with
  | false=>rw [h2] at h;simp at h
  | true=>
   rw [h2] at h
   by_cases h3:(c i.toNat).1≤0
   ·simp [h3] at h
   ·simp [h3];omega
end
section
theorem fld_w (A:Option Addr) (cap:Nat) (v m:Int) (w:World):(Instr.field 70 (ndV A 0 cap v m) 1).run Tryz.prog w = .ok (.int .i64 v) w:=by kernel_rfl
theorem get_w (h:Nat) (c:Cn) (A:Option Addr) (cap:Nat) (S:Nat→Prop) (i:Int) (w:World) (hl:leafy c) (ht:TreeOk h c) (hcap:(cano h c).kids.length≤cap) (hk:NK w S A (cano h c).kids) :
  Calls Tryz.prog 59 #[trV h A (cano h c).kids.length cap (cano h c).val (cano h c).marks,.int .i64 i] w (RetI (getR c i) w):=by
 have hfi:=fun (j:Nat) w' (hj:j<256) (hb:Below w.heap.size w w')=>find_w h c A cap S j w' hj ht hcap (hk.step hb)
 obtain ⟨n,hn⟩:∃n,(cano h c).kids.length=n:=⟨_,rfl⟩
 obtain ⟨v,hv⟩:∃v,(cano h c).val=v:=⟨_,rfl⟩
 obtain ⟨mm,hm⟩:∃m,(cano h c).marks=m:=⟨_,rfl⟩
 have hva:=fun w' (hb:Below w.heap.size w w')=>valid_w h (cano h c) A cap S w' (cano_ml _ _) hcap (hk.step hb)
 rw [valid_of hl ht] at hva
 rw [hn,hv,hm] at hva ⊢
 have HX:=H_ (heap_alloc_at w (.cells #[.int .i64 (h:Int),.slice A n cap,.int .i64 v,.int .i64 mm] 72))
 have HW:=H_ (bl_alloc (Below.refl w.heap.size w) (.cells #[.int .i64 (h:Int),.slice A n cap,.int .i64 v,.int .i64 mm] 72))
 rw [hn,hv,hm] at hfi
 clear hn hv hm hk hl ht
 have hin:=fun w=>inside_b i w
 cases hib:inB i with
 | true=>
  rw [hib] at hin
  obtain ⟨j,rfl⟩:=Int.eq_ofNat_of_zero_le (inB_t hib).1
  have hj:=(inB_t hib).2
  have hfj:=fun w' hb=>hfi j w' (by omega) hb
  have HS:=H_ (show getR c j=(c j).1 by unfold getR;rw [hib,Int.toNat_natCast];rfl)
  clear hfi hib
  generalize c j=y at hfj HS
  have hfld:=fun A' cap' w=>fld_w A' cap' y.1 y.2 w
  go_enter Tryz.func59,Tryz.ntmps59
  go_wp2_with (first
   | (go_at_call 102;(with_reducible refine CM (hva _ (by (repeat (with_reducible first | assumption | exact Below.refl _ _ | refine bl_alloc ?_ _ | apply Below.drew | refine below_drewN ?_ _ | (apply bl_step2;assumption) | (refine Below.setCell ?_ (Nat.le_refl _) _) | (refine Below.setCell ?_ (by first | omega | (simp;done) | (go_simp;done)) _))))) ?_);rintro e w1 ⟨rfl,hb1⟩;have HX1:=bkh HX hb1;have HW1:=blh HW hb1;obtain ⟨x0,x1,x2,x3⟩:=cs4 HX1.out)
   | (go_at_call 103;(with_reducible refine CM (hin _) ?_);rintro e w2 ⟨rfl,rfl⟩)
   | (go_at_call 104;(with_reducible refine CM (hfj _ HW1.out) ?_);rintro e w2 ⟨A',cap',rfl,hb2⟩))
  go_ret
  exact ⟨by rw [HS.out];rfl,bl_step HW1.out hb2⟩
 | false=>
  rw [hib] at hin
  have HS:=H_ (show getR c i=0 by unfold getR;rw [hib];rfl)
  clear hfi hib
  go_enter Tryz.func59,Tryz.ntmps59
  go_wp2_with (first | (go_at_call 102;(with_reducible refine CM (hva _ (by (repeat (with_reducible first | assumption | exact Below.refl _ _ | refine bl_alloc ?_ _ | apply Below.drew | refine below_drewN ?_ _ | (apply bl_step2;assumption) | (refine Below.setCell ?_ (Nat.le_refl _) _) | (refine Below.setCell ?_ (by first | omega | (simp;done) | (go_simp;done)) _))))) ?_);rintro e w1 ⟨rfl,hb1⟩;have HX1:=bkh HX hb1;have HW1:=blh HW hb1;obtain ⟨x0,x1,x2,x3⟩:=cs4 HX1.out) | (go_at_call 103;(with_reducible refine CM (hin _) ?_);rintro e w2 ⟨rfl,rfl⟩))
  go_ret
  exact ⟨by rw [HS.out];rfl,HW1.out⟩
section
variable (hI:Int) (t:T) (A:Option Addr) (cap:Nat) (S:Nat→Prop) (w:World) (hm:t.kids.length≤maxLen) (hcap:t.kids.length≤cap) (hk:NK w S A t.kids) (hbad:validT hI t=false)
include hm hcap hk hbad
end
end
section
theorem own_le {w:World} {B sz n:Nat} {t:TypeId} {v:Value} {xs:List Value} (h:w.ownsRow B t sz v n xs):∀g,v.ownBlock=some g→g<w.heap.size:=fun g hg=>(h.lt g hg).2
end
section
theorem rlist_w:∀(h:Nat) (c:Cn) (A:Option Addr) (cap:Nat) (v:Value) (B:Nat) (L:List En) (base:Nat) (w:World),h≤4→base+4 ^ h≤256→L.length+4 ^ h≤1000→(cano h c).kids.length≤cap→B≤w.heap.size→NK w (fun z=>v.ownBlock≠some z) A (cano h c).kids→w.ownsRow B 137 3 v L.length (ens L)→
  Calls Tryz.prog 128 #[v,ndV A (cano h c).kids.length cap (cano h c).val (cano h c).marks,.int .i64 h,.int .i64 base] w (RetL B (L ++ ents base (4 ^ h) c) v w):=by
 intro h
 induction h with
 | zero=>
  intro c A cap v B L base w hh hbase hlen hcap hB hk hown
  obtain ⟨i0,hi,hz0,hz1,hz2⟩:=info_parts entry_info
  have em:=fun w=>rEmpty_w A 0 cap (c 0).1 (c 0).2 w
  rw [show emI 0 (c 0).1 (c 0).2=(cano 0 c).emB from rfl,emB_cano,show 4 ^ 0=1 from rfl] at em
  rw [show (cano 0 c).kids.length=0 from rfl,show (cano 0 c).val=(c 0).1 from rfl,show (cano 0 c).marks=(c 0).2 from rfl,show 4 ^ 0=1 from rfl]
  have hlt:=own_le hown
  have HS:=H_ (LS.refl hown)
  have HX:=H_ (heap_alloc_at w (.cells #[.slice A 0 cap,.int .i64 (c 0).1,.int .i64 (c 0).2] 70))
  have HB1:=H_ (bl_alloc (Below.refl w.heap.size w) (.cells #[.slice A 0 cap,.int .i64 (c 0).1,.int .i64 (c 0).2] 70))
  cases hn:noneB 1 c with
  | true=>
   rw [hn] at em
   have HE:=H_ (ents_none (base:=base) hn)
   clear hn hown hlt
   generalize (c 0).1=y at *
   generalize (c 0).2=mm at *
   go_enter Tryz.func128,Tryz.ntmps128
   go_wp2_with (go_at_call 158;(with_reducible refine CM (em _) ?_);rintro e w1 ⟨rfl,hb1⟩;have HX1:=bkh HX hb1;obtain ⟨x0,x1,x2⟩:=cs3 HX1.out)
   go_ret
   rw [HE.out,List.append_nil]
   exact ⟨v,rfl,(HS.out.step HB1.out).step hb1⟩
  | false=>
   rw [hn] at em
   have HE:=H_ (ents_one (base:=base) hn)
   clear hn hown hlt
   generalize (c 0).1=y at *
   generalize (c 0).2=mm at *
   go_enter Tryz.func128,Tryz.ntmps128
   go_wp2_with (first
    | (go_at_call 158;(with_reducible refine CM (em _) ?_);rintro e w1 ⟨rfl,hb1⟩;have HX1:=bkh HX hb1;have HS1:=H_ ((HS.out.step HB1.out).step hb1);obtain ⟨x0,x1,x2⟩:=cs3 HX1.out;have hsz:=HS1.out.gr.size)
    | (at_builtin;go_loud (refine wpList_append_lies _ rfl (.tmp 15) (.tmp 22) 133 rfl B 137 i0 _ 3 24 Tryz.underlying133 hi hz0 hz1 hz2 rfl (by omega) v L.length (ens L) rfl ((own_step HS1.out.own (bl_alloc B_ _))) ⟨_,0,none⟩ 1 1 [.int .i64 (base:Int),.int .i64 y,.int .i64 mm] rfl rfl (World.news_of_block (heap_at_new _ _ _ (by first | rfl | simp))) (by simp [Value.oneCell']) (by omega) (by unfold maxLen;omega) (by omega) (by simp;omega) _ rfl ?_);intro gg cap4 w4 hown4 hg4 hat4 hlt4))
   go_ret
   rw [HE.out]
   exact ⟨_,rfl,(HS1.out.step (bl_alloc B_ _)).snoc hown4 hg4 hat4⟩
 | succ h ih=>
  intro c A cap v B L base w hh hbase hlen hcap hB hk hown
  obtain ⟨n,hn⟩:∃n,(cano (h+1) c).kids.length=n:=⟨_,rfl⟩
  obtain ⟨y,hy⟩:∃v,(cano (h+1) c).val=v:=⟨_,rfl⟩
  obtain ⟨mm,hm⟩:∃m,(cano (h+1) c).marks=m:=⟨_,rfl⟩
  have hp4:4 ^ h≤64:=show 4 ^ h≤4 ^ 3 from Nat.pow_le_pow_right (by omega) (by omega)
  have hp1:1≤4 ^ h:=Nat.pow_pos (by omega)
  have HPW:=H_ (show 4 ^ (h+1)=4*4 ^ h by rw [Nat.pow_succ];omega)
  rw [hn] at hcap
  have HKK:=H_ (show noneB (4 ^ (h+1)) c=false→(cano (h+1) c).kids=kidsC h c from fun hn=>by rw [cano_succ,hn];rfl)
  have HK0:=H_ (show noneB (4 ^ (h+1)) c=true→n=0∧ents base (4 ^ (h+1)) c=[] from fun he=>⟨by rw [←hn,cano_none he];rfl,ents_none he⟩)
  have HES:=H_ (fun k=>entK_succ base (4 ^ h) k c)
  have hlt:=own_le hown
  have HS0:=H_ (LS.refl (own_step hown (bl_alloc (Below.refl w.heap.size w) (.cells #[.slice A n cap,.int .i64 y,.int .i64 mm] 70))))
  have HW0:=H_ (LS.refl hown |>.step (bl_alloc (Below.refl w.heap.size w) (.cells #[.slice A n cap,.int .i64 y,.int .i64 mm] 70)))
  have HX:=H_ (heap_alloc_at w (.cells #[.slice A n cap,.int .i64 y,.int .i64 mm] 70))
  have HNK:=H_ (hk.alloc (.cells #[.slice A n cap,.int .i64 y,.int .i64 mm] 70))
  have Hn:=H_ hn
  have em:=fun w=>rEmpty_w A n cap y mm w
  rw [show emI n y mm=noneB (4 ^ (h+1)) c by rw [←hn,←hy,←hm];exact emB_cano (h+1) c] at em
  rw [HPW.out] at em
  have hpw:=fun w=>power_w h w (by omega)
  rw [hn,hy,hm,HPW.out,show ((h+1:Nat):Int)=(h:Int)+1 by omega]
  rw [HPW.out] at hbase hlen HKK HK0
  obtain ⟨b,hb⟩:∃b,b=w.heap.size:=⟨_,rfl⟩
  have HBe:=H_ hb
  have hne:v.ownBlock≠some b:=fun e=>by have:=hlt b e;omega
  rw [←hb] at HX
  have HNE:=H_ hne
  have hlb:b<(w.alloc (.cells #[.slice A n cap,.int .i64 y,.int .i64 mm] 70)).heap.size:=by simp;omega
  generalize hW0:w.alloc (.cells #[.slice A n cap,.int .i64 y,.int .i64 mm] 70)=W0 at HS0 HW0 HX HNK hlb
  have HW0e:=H_ hW0
  have q4:((h:Int)+1 == 0)=false:=beq_eq_false_iff_ne.2 (by omega)
  have q5:=w64 (x:=(h:Int)) (by omega)
  generalize hp:4 ^ h=p at *
  have Hp:=H_ hp
  clear hp
  clear hn hy hm hk hown hne hW0 hb hlt
  cases he:noneB (4*p) c with
  | true=>
   obtain ⟨rfl,hE⟩:=HK0.out he
   rw [he] at em
   have HE:=H_ hE
   clear he hE
   go_enter Tryz.func128,Tryz.ntmps128
   go_wp2_with (go_at_call 158;(with_reducible refine CM (em _) ?_);rintro e w1 ⟨rfl,hb1⟩)
   go_ret
   rw [HE.out,List.append_nil]
   exact ⟨v,rfl,HW0.out.step (by rw [←HW0e.out];exact hb1)⟩
  | false=>
   rw [he] at em
   have hkk:=HKK.out he
   have h4:n=4:=by rw [←Hn.out,hkk,kidsC_len]
   subst h4
   rw [hkk] at HNK
   clear he hkk
   go_enter Tryz.func128,Tryz.ntmps128
   go_upto_region 5 with (go_at_call 158;(with_reducible refine CM (em _) ?_);rintro e w1 ⟨rfl,hb1⟩;have HB1:=H_ hb1)
   go_cut [5,9] (fun s5 s9 wx=>s5 = .pointer (some ⟨b,0,none⟩)∧s9 = .int .i64 0∧Below W0.heap.size W0 wx)
   case first=>
    go_wp2
    go_meet
    case rel=>exact ⟨by rw [HBe.out],rfl,by rw [←HW0e.out];exact HB1.out⟩
   case rest=>
    obtain ⟨rfl,rfl,hb1⟩:=hcut
    have HX1:=bkh HX hb1
    have HS1:=H_ (HS0.out.step hb1)
    have hlb1:=Nat.lt_of_lt_of_le hlb hb1.size
    clear q4 HX HS0
    go_wp2
    go_loopw [0,9] (fun s0 s9 wx=>∃(k:Nat),k≤4∧s9 = .int .i64 k∧wx.heap[b]?=some (.cells #[.slice A 4 cap,.int .i64 y,.int .i64 mm] 70 (0,0))∧LS W0 v B (L ++ ents base (k*p) c) s0 wx) (fun _ s9 _=>4 - (intOf s9).toNat)
    case atStart=>exact ⟨0,by omega,rfl,HX1.out,by rw [Nat.zero_mul,ents_zero,List.append_nil];exact HS1.out⟩
    case round=>
     obtain ⟨k,hk4,rfl,hX,hS⟩:=hrel
     have HX:=H_ hX
     clear hX
     have HS:=H_ hS
     have hnk:=hS.nk HNK.out
     clear hS
     by_cases hlt:k<4
     ·obtain ⟨b',o,t,A',cap',rfl,hnb,hbl,hi',hNC,hkm,hkc,hkk2⟩:=hnk.at_ (i:=k) (by rw [kidsC_len];exact hlt)
      rw [kidsC_at hlt,Hp.out] at hi'
      injection hi' with hi'
      subst hi'
      have hent:=ents_len base (k*p) c
      have hkp:k*p+p≤4*p:=by
       have:=Nat.mul_le_mul_right p (show k+1≤4 by omega)
       rw [Nat.add_mul,Nat.one_mul] at this
       exact this
      have HESK:=H_ (HES.out k)
      have HSK:=HS.out
      obtain ⟨q,hq⟩:∃q,k*p=q:=⟨_,rfl⟩
      have hmul:IntKind.i64.wrap ((k:Int)*(p:Int))=(q:Int):=by
       rw [←Int.natCast_mul,hq]
       exact w64 (by omega)
      have hmul2:(k:Int)*(p:Int)=(q:Int):=by rw [←Int.natCast_mul,hq]
      rw [hq] at HESK HSK hent hkp hNC hkm hkc hkk2
      obtain ⟨Lk,hLk⟩:∃Lk,L ++ ents base q c=Lk:=⟨_,rfl⟩
      have hl2:Lk.length+p≤1000:=by rw [←hLk,List.length_append];omega
      have HNE2:=H_ (show L ++ ents base ((k+1)*p) c=Lk ++ ents (base+q) p (sh c q) by rw [HESK.out,←List.append_assoc,hLk])
      rw [hLk] at HSK
      have HS2:=H_ HSK
      have hbq:base+q+p≤256:=by omega
      have hsz:=HSK.gr.size
      have hih:=fun w' (hw:B≤w'.heap.size) hnk hown=>ih (sh c q) A' cap' u0 B Lk (base+q) w' (by omega) hbq hl2 hkc hw hnk hown
      rw [show (((base+q:Nat)):Int)=(base:Int)+(q:Int) by omega] at hih
      have k0:(0:Int)≤(k:Int):=by omega
      have k1:(k:Int)<4:=by omega
      have k2:(k:Int)<(cap:Int):=by omega
      have b0:(0:Int)≤(base:Int)+(q:Int):=by omega
      have b1:(base:Int)+(q:Int)≤256:=by omega
      obtain ⟨c0,c1,c2⟩:=hNC
      have HKK2:=H_ hkk2
      clear hq hLk HSK hnk hkk2 hkm hkc hent hkp HS HESK
      generalize (cano h (sh c q)).kids.length=kn at *
      generalize (cano h (sh c q)).val=kv at *
      generalize (cano h (sh c q)).marks=km at *
      obtain ⟨x0,x1,x2⟩:=cs3 HX.out
      have lX:=bk_lt HX.out
      have wq:=w64 (x:=(q:Int)) (by omega)
      have wbq:=w64 (x:=(base:Int)+(q:Int)) (by omega)
      have hneb:=HS2.out.ne hlb HNE.out
      go_upto_region 8 with fail
      obtain ⟨W,hWe⟩:∃W:World,W=wr:=⟨_,rfl⟩
      subst hWe
      refine wp_region_sp 15 45 [SP.eq u0,SP.eq (.pointer (some ⟨b,0,none⟩)),SP.eq (.slice (some ⟨b',o,none⟩) 4 cap),SP.eq (.int .i64 k),SP.eq (.pointer (some ⟨b',o+k*3,none⟩)),SP.eq (ndV A' kn cap' kv km),SP.eq (.int .i64 ((h:Int)+1)),SP.eq (.int .i64 (h:Int)),SP.eq (.int .i64 base),SP.eq (.int .i64 k),SP.eq (.int .i64 ((h:Int)+1)),SP.eq (.int .i64 (h:Int)),SP.eq (.int .i64 p),SP.eq (.int .i64 q),SP.eq (.int .i64 ((base:Int)+(q:Int)))] (by kernel_rfl) (by kernel_rfl) rfl ?_
      simp only [List.take_succ_cons,List.take_zero,List.drop_succ_cons,List.drop_zero]
      refine rC (fun x hC hd K hK=>?_) (fun v0=>?_)
      ·go_simp
       exact hK _ _ hC B_ rfl
      simp only [ly]
      refine rC (fun x hC hd K hK=>?_) (fun v1=>?_)
      ·go_simp
       exact hK _ _ hC B_ rfl
      simp only [ly]
      refine rC (fun x hC hd K hK=>?_) (fun v2=>?_)
      ·obtain rfl:v1=_:=hd 1 (by kernel_rfl)
       have y0:=(hC.cell (p:=⟨b,_,none⟩) lX).trans x0
       go_simp
       exact hK _ _ hC B_ rfl
      simp only [ly]
      refine rC (fun x hC hd K hK=>?_) (fun v3=>?_)
      ·go_simp
       exact hK _ _ hC B_ rfl
      simp only [ly]
      refine rC (fun x hC hd K hK=>?_) (fun v4=>?_)
      ·obtain rfl:v2=_:=hd 2 (by kernel_rfl)
       obtain rfl:v3=_:=hd 3 (by kernel_rfl)
       go_simp
       exact hK _ _ hC B_ rfl
      simp only [ly]
      refine rC (fun x hC hd K hK=>?_) (fun v5=>?_)
      ·obtain rfl:v4=_:=hd 4 (by kernel_rfl)
       have y0:=(hC.cell (p:=⟨b',_,none⟩) hbl).trans c0
       have y1:=(hC.cell (p:=⟨b',_,none⟩) hbl).trans c1
       have y2:=(hC.cell (p:=⟨b',_,none⟩) hbl).trans c2
       go_simp
       exact hK _ _ hC B_ rfl
      simp only [ly]
      refine rC (fun x hC hd K hK=>?_) (fun v6=>?_)
      ·go_simp
       exact hK _ _ hC B_ rfl
      simp only [ly]
      refine rC (fun x hC hd K hK=>?_) (fun v7=>?_)
      ·obtain rfl:v6=_:=hd 6 (by kernel_rfl)
       go_simp
       exact hK _ _ hC B_ rfl
      simp only [ly]
      refine rC (fun x hC hd K hK=>?_) (fun v8=>?_)
      ·go_simp
       exact hK _ _ hC B_ rfl
      simp only [ly]
      refine rC (fun x hC hd K hK=>?_) (fun v9=>?_)
      ·go_simp
       exact hK _ _ hC B_ rfl
      simp only [ly]
      refine rC (fun x hC hd K hK=>?_) (fun v10=>?_)
      ·go_simp
       exact hK _ _ hC B_ rfl
      simp only [ly]
      refine rC (fun x hC hd K hK=>?_) (fun v11=>?_)
      ·obtain rfl:v10=_:=hd 10 (by kernel_rfl)
       go_simp
       exact hK _ _ hC B_ rfl
      simp only [ly]
      refine rC (fun x hC hd K hK=>?_) (fun v12=>?_)
      ·obtain rfl:v11=_:=hd 11 (by kernel_rfl)
       go_simp
       go_at_call 159
       refine (hpw x).mono ?_
       rintro e w1 ⟨rfl,rfl⟩
       exact hK _ _ hC B_ rfl
      simp only [ly]
      refine rC (fun x hC hd K hK=>?_) (fun v13=>?_)
      ·obtain rfl:v9=_:=hd 9 (by kernel_rfl)
       obtain rfl:v12=_:=hd 12 (by kernel_rfl)
       go_simp
       exact hK _ _ hC B_ rfl
      simp only [ly]
      refine rC (fun x hC hd K hK=>?_) (fun v14=>?_)
      ·obtain rfl:v8=_:=hd 8 (by kernel_rfl)
       obtain rfl:v13=_:=hd 13 (by kernel_rfl)
       go_simp
       exact hK _ _ hC B_ rfl
      simp only [ly]
      refine relWalk_nil ?_
      intro x hC hG
      have e0:v0=u0:=hG 0 (by omega)
      subst e0
      obtain rfl:v5=_:=hG 5 (by omega)
      obtain rfl:v7=_:=hG 7 (by omega)
      obtain rfl:v14=_:=hG 14 (by omega)
      have HS3:=H_ (HS2.out.step hC)
      have HKK3:=H_ (HKK2.out.step hC)
      have HX3:=bkh HX hC
      have hsz3:=hC.size
      clear hG hC HX HS2 HKK2 x0 x1 x2 c0 c1 c2
      go_wp2_with (go_at_call 128;(with_reducible refine CM (hih _ (by have:=HBe.out;omega) HKK3.out HS3.out.own) ?_);rintro e w1 ⟨v1,rfl,hS1⟩)
      go_roundw
      case rel=>exact ⟨k+1,by omega,by go_num,hS1.bk HX3.out hneb,by rw [HNE2.out];exact HS3.out.trans hS1⟩
      case measure=>simp [intOf];omega
     ·obtain rfl:k=4:=by omega
      go_wp2
      go_ret
      exact ⟨_,rfl,HW0.out.trans HS.out⟩
end
section
theorem ents_last (base:Nat) (c:Cn):∀n:Nat,(noneB n c=true∧ents base n c=[])∨∃l' j,ents base n c=l' ++ [(((base+j:Nat):Int),(c j).1,(c j).2)]∧j<n∧c j≠(0,0)∧∀i,j<i→i<n→c i=(0,0)
 | 0=> .inl ⟨noneB_true.2 fun i hi=>by omega,rfl⟩
 | n+1=>by
  have hadd:=ents_add base n 1 c
  by_cases hc:c n=(0,0)
  ·have h1:ents (base+n) 1 (sh c n)=[]:=ents_none (noneB_true.2 fun i hi=>by
    obtain rfl:i=0:=by omega
    show c (n+0)=_
    rw [Nat.add_zero]
    exact hc)
   rw [h1,List.append_nil] at hadd
   rcases ents_last base c n with ⟨h2,h3⟩ | ⟨l',j,h2,h3,h4,h5⟩
   ·refine .inl ⟨noneB_true.2 fun i hi=>?_,by rw [hadd,h3]⟩
    rcases Nat.lt_or_ge i n with h | h
    ·exact noneB_true.1 h2 i h
    ·obtain rfl:i=n:=by omega
     exact hc
   ·refine .inr ⟨l',j,by rw [hadd,h2],by omega,h4,fun i hi hn=>?_⟩
    rcases Nat.lt_or_ge i n with h | h
    ·exact h5 i hi h
    ·obtain rfl:i=n:=by omega
     exact hc
  ·have h1:ents (base+n) 1 (sh c n)=[(((base+n:Nat):Int),(c n).1,(c n).2)]:=ents_one (noneB_false.2 ⟨0,by omega,hc⟩)
   rw [h1] at hadd
   exact .inr ⟨_,n,hadd,by omega,hc,fun i hi hn=>by omega⟩
theorem hf_eq {h j:Nat} (h4:h≤4) (hj:j<4 ^ h):hf j=h↔(h=0∨4 ^ (h - 1)≤j):=by
 unfold hf
 match h,h4 with
 | 0,_=>simp at hj;simp [hj]
 | 1,_=>simp at hj ⊢;(repeat' split) <;> omega
 | 2,_=>simp at hj ⊢;(repeat' split) <;> omega
 | 3,_=>simp at hj ⊢;(repeat' split) <;> omega
 | 4,_=>simp at hj ⊢;(repeat' split) <;> omega
 | h+5,h4=>omega
theorem valid_list {h:Nat} {c:Cn} (h4:h≤4) (hl:leafy c) (hz:∀i,4 ^ h≤i→c i=(0,0)) :
  (ents 0 (4 ^ h) c=[]∧validT h (cano h c)=decide (h=0))∨∃(l':List En) (j:Nat) (x y:Int),ents 0 (4 ^ h) c=l' ++ [((j:Int),x,y)]∧j<256∧validT h (cano h c)=decide (h=hf j):=by
 have hp:4 ^ h≤256:=show 4 ^ h≤4 ^ 4 from Nat.pow_le_pow_right (by omega) h4
 have hv:validT h (cano h c)=(decide (h=0)||highT (cano h c)):=by
  unfold validT
  rw [decide_eq_true (show 0≤(h:Int)∧(h:Int)≤4 by omega),Int.toNat_natCast,right_cano h hl]
  simp
 rw [hv]
 rcases ents_last 0 c (4 ^ h) with ⟨h1,h2⟩ | ⟨l',j,h2,h3,h4',h5⟩
 ·refine .inl ⟨h2,?_⟩
  rw [cano_none h1]
  simp [highT,T.nil,T.kids,someK]
 ·refine .inr ⟨l',j,_,_,by rw [h2,Nat.zero_add],by omega,?_⟩
  rw [Bool.eq_iff_iff,Bool.or_eq_true,decide_eq_true_eq,decide_eq_true_eq,eq_comm (b:=hf j),hf_eq h4 h3]
  rcases h with _ | h
  ·simp
  ·rw [high_cano]
   constructor
   ·rintro (h0 | ⟨i,g1,g2,g3⟩)
    ·omega
    ·refine .inr ?_
     apply Classical.byContradiction
     intro hlt
     exact g3 (h5 i (by simp at hlt;omega) g2)
   ·rintro (h0 | h0)
    ·omega
    ·exact .inr ⟨j,by simpa using h0,h3,h4'⟩
def RetE (l:List En) (w:World) (e:Ending) (w':World):Prop:=∃v,e = .returned v∧w'.ownsRow w.heap.size 137 3 v l.length (ens l)∧Below w.heap.size w w'
theorem RetE.of {l:List En} {w wx w':World} {v:Value} (hw:Below w.heap.size w wx) (h:LS wx (.slice none 0 0) w.heap.size l v w'):RetE l w (.returned v) w':=
 ⟨v,rfl,h.own,hw.trans ((show Below wx.heap.size wx w' from ⟨h.gr.os,h.gr.tape,h.gr.output,h.gr.size,fun k hk=>h.gr.block k hk (by simp [Value.ownBlock])⟩).mono hw.size)⟩
end
end Go.Proofs.YthhekebemmckcaaGreatDoor
