/-
  Lemmas and contracts for the laws of this seat, part 6; several texts joined by a program.
-/
import Derived.Test.YtehfhnbpnaiogaaGreatDoorD05
import Derived.Test.YtehfhnbpnaiogaaGreatDoorD00
namespace Go.Proofs.YtehfhnbpnaiogaaGreatDoor
set_option linter.unusedVariables false
set_option linter.unusedSimpArgs false
set_option maxRecDepth 100000
set_option maxHeartbeats 16000000
open Go.RowKit Go.Proofs.Tryz IntKind
variable {A:Option Addr} {S:Nat->Prop} {a:Lr} {cap g i k:Nat} {l:List Int} {n x:Int} {v v1 v2 v3:Value} {w:World} {α:Type}
section
def dX:List Int->Int->List Int
 | [],n=>[n]
 | x :: l,n=>if n<x then n :: x :: l else x :: dX l n
theorem zP:∀{l:List Int},(∃y ∈ l,n<y)->∀x,dX (l ++ [x]) n=dX l n ++ [x]
 | [],h,_=>by obtain ⟨y,hy,_⟩:=h;simp at hy
 | a :: l,h,x=>by
  simp only[List.cons_append,dX]
  split
  ·rfl
  ·next hn=>
   rw [zP (l:=l) (by
    obtain ⟨y,hy,hl⟩:=h
    rcases List.mem_cons.1 hy with rfl | hy
    ·exact absurd hl hn
    ·exact ⟨y,hy,hl⟩) x]
   rfl
theorem bJ_:∀{l:List Int},(∀y ∈ l,¬n<y)->dX l n=l ++ [n]
 | [],_=>rfl
 | a :: l,h=>by
  simp only[dX,List.cons_append];rw [if_neg (h a (List.mem_cons_self ..)),bJ_ fun y hy=>h y (List.mem_cons_of_mem _ hy)]
theorem bI_ (hx:n<x):∀{l:List Int},(∀y ∈ l,¬n<y)->dX (l ++ [x]) n=l ++ [n,x]
 | [],_=>by simp [dX,hx]
 | a :: l,h=>by
  simp only[dX,List.cons_append];rw [if_neg (h a (List.mem_cons_self ..)),bI_ hx fun y hy=>h y (List.mem_cons_of_mem _ hy)]
theorem mD:∀{l:List Int},x ∈ dX l n↔x=n\/x ∈ l
 | []=>by simp [dX]
 | a :: l=>by
  simp only[dX]
  split
  ·simp
  ·simp only[qL,mD (l:=l)]
   constructor
   ·rintro (h | h | h) <;> simp [h]
   ·rintro (h | h | h) <;> simp [h]
theorem tY:∀{l:List Int},l.Pairwise (·<·)->n ∉ l->(dX l n).Pairwise (·<·)
 | [],_,_=>by simp [dX]
 | a :: l,h,hn=>by
  rw [List.pairwise_cons] at h;simp only[dX]
  split
  ·next hlt=>
   rw [List.pairwise_cons,List.pairwise_cons];exact ⟨fun y hy=>by rcases List.mem_cons.1 hy with rfl | hy;exact hlt;have:=h.1 y hy;omega,h⟩
  ·next hge=>
   rw [List.pairwise_cons];refine ⟨fun y hy=>?_,tY h.2 fun hm=>hn (List.mem_cons_of_mem _ hm)⟩
   rcases mD.1 hy with rfl | hy
   ·have:a≠y:=fun e=>hn (e ▸ List.mem_cons_self ..);omega
   ·exact h.1 y hy
theorem zQ (n:Int):∀(l:List Int),(dX l n).length=l.length+1
 | []=>rfl
 | a :: l=>by
  simp only[dX]
  split
  ·rfl
  ·simp [zQ n l]
def jG (l:List Int) (n:Int) (k:Nat) (d:Bool):List Int:=if d then dX (l.take k) n else l.take k
def kG (l:List Int) (n:Int) (k:Nat) (d:Bool):Prop:=if d then ∃y ∈ l.take k,n<y else ∀y ∈ l.take k,¬n<y
theorem kG.zero (l:List Int) (n:Int):kG l n 0 false:=fun y hy=>by simp at hy
theorem kG.t (h:kG l n k true) (hx:l[k]?=some x):kG l n (k+1) true/\jG l n (k+1) true=jG l n k true ++ [x]:=by
 have e:l.take (k+1)=l.take k ++ [x]:=by rw [List.take_add_one,hx];rfl
 obtain ⟨y,a,hl⟩:=h;refine ⟨⟨y,by rw [e];exact List.mem_append_left _ a,hl⟩,?_⟩
 show dX (l.take (k+1)) n=dX (l.take k) n ++ [x]
 rw [e,zP ⟨y,a,hl⟩]
theorem kG.now (h:kG l n k false) (hx:l[k]?=some x) (hl:n<x):kG l n (k+1) true/\jG l n (k+1) true=(jG l n k false ++ [n]) ++ [x]:=by
 have e:l.take (k+1)=l.take k ++ [x]:=by rw [List.take_add_one,hx];rfl
 refine ⟨⟨x,by rw [e];simp,hl⟩,?_⟩
 show dX (l.take (k+1)) n=(l.take k ++ [n]) ++ [x]
 rw [e,bI_ hl h];simp
theorem kG.f (h:kG l n k false) (hx:l[k]?=some x) (hl:¬n<x):kG l n (k+1) false/\jG l n (k+1) false=jG l n k false ++ [x]:=by
 have e:l.take (k+1)=l.take k ++ [x]:=by rw [List.take_add_one,hx];rfl
 refine ⟨fun y a=>?_,e⟩;rw [e] at a
 rcases List.mem_append.1 a with a | a
 ·exact h y a
 ·simp at a;subst a;exact hl
theorem kG.endT:jG l n l.length true=dX l n:=by show dX (l.take l.length) n=_;rw [List.take_length]
theorem kG.endF (h:kG l n l.length false):jG l n l.length false ++ [n]=dX l n:=by
 show l.take l.length ++ [n]=_
 have h':∀y ∈ l.take l.length,¬n<y:=h;rw [List.take_length] at h' ⊢;exact (bJ_ h').symm
theorem zO (l:List Int) (n:Int) (k:Nat) (d:Bool):(jG l n k d).length<=l.length+1:=by
 unfold jG
 split
 ·rw [zQ,List.length_take];omega
 ·rw [List.length_take];omega
theorem ef_ (n:Int) (S:Nat->Prop) (h:LA Y_ w S v l) (hl:l.length<=1000) (hS:∀b,w.heap.size<=b->S b):C_ 220 #[v,I_ n] w (pC (dX l n) S w):=by
 obtain ⟨A,cap,rfl,hc,P⟩:=h.form;have H:=H_ h;clear h;unfold maxLen at P;go_enter func220,ntmps220;go_wp2
 go_loopw [5,6,7] (fun u N i wx=>∃(k:Nat) (d:Bool),i = I_ k/\N = .bool d/\k<=l.length/\kG l n k d/\LO Y_ 3 wx (w) S u (jG l n k d)/\s_ w wx) (fun _ _ i _=>l.length - (intOf i).toNat)
 case atStart=>exact ⟨0,false,rfl,rfl,O_,kG.zero _ _,LO.nil _ _ _ _ _,aP _ _⟩
 case round=>
  obtain ⟨k,d,rfl,rfl,R,L,M,m⟩:=hrel;obtain ⟨r,j,E⟩:=eI M m L;have O:=zO l n k d;clear M m L
  by_cases I:k<l.length
  ·obtain ⟨x,F⟩:∃x,l[k]?=some x:=⟨_,cY I⟩;obtain ⟨b,o,cap',hv,_,_,m,_,c0⟩:=IL.cell (H.step j.out) F;injection hv with e1 e2 e3
   subst e1 e3;have y:=H_ F;have J:=j.size;have C:=(H.cells F).1;clear F e2
   cases d with
   | true=>
    have q:=H_ (E.t y)
    go_wp2_with (at_builtin;(refine M_ cV rfl (.tmp 28) (.tmp 33) rfl S rfl (r.alloc _) (by simp;omega) O_ #[I_ x] rfl (l_ _ _ _ rfl) x rfl ?_);intro v4 w4 a c g)
    go_roundw
    case rel=>exact ⟨k+1,true,by go_num,rfl,O_,q.out.1,by rw [q.out.2];exact a,(a_ j.out _).grown c (a_ j.out _).size (fun b m=>(r.own m).1)⟩
    case measure=>exact bV
   | false=>
    by_cases D:n<x
    ·have q:=H_ (E.now y D)
     go_wp2_with (first
      | ((at_builtin;(refine M_ cV rfl (.tmp 24) (.tmp 26) rfl S rfl (r.alloc _) (by simp;omega) O_ #[I_ n] rfl (l_ _ _ _ rfl) n rfl ?_);intro v4 w4 a c g);have B:=H_ a;have s:=H_ ((a_ j.out _).grown c (a_ j.out _).size (fun b m=>(r.own m).1));have s4:=s.size;have Q:=(s.cell (p:=⟨b,o+k,none⟩) C).trans ((j.cell (p:=⟨b,o+k,none⟩) C).symm.trans c0);clear c0 a c g)
      | (at_builtin;(refine M_ cV rfl (.tmp 28) (.tmp 33) rfl S rfl (B.alloc _) (by simp;omega) (by simp;omega) #[I_ x] rfl (l_ _ _ _ rfl) x rfl ?_);intro v5 w5 z G K))
     go_roundw
     case rel=>exact ⟨k+1,true,by go_num,rfl,O_,q.out.1,by rw [q.out.2];exact z,(a_ s.out _).grown G (a_ s.out _).size (fun b m=>(B.own m).1)⟩
     case measure=>exact bV
    ·have q:=H_ (E.f y D)
     go_wp2_with (at_builtin;(refine M_ cV rfl (.tmp 28) (.tmp 33) rfl S rfl (r.alloc _) (by simp;omega) O_ #[I_ x] rfl (l_ _ _ _ rfl) x rfl ?_);intro v4 w4 a c g)
     go_roundw
     case rel=>exact ⟨k+1,false,by go_num,rfl,O_,q.out.1,by rw [q.out.2];exact a,(a_ j.out _).grown c (a_ j.out _).size (fun b m=>(r.own m).1)⟩
     case measure=>exact bV
  ·obtain rfl:k=l.length:=O_
   have J:=j.size
   cases d with
   | true=>
    rw [kG.endT] at r;go_wp2;go_ret;exact ⟨_,rfl,r.la (fun _ _ h=>h) hS,j.out⟩
   | false=>
    have q:=H_ (E.endF)
    go_wp2_with (at_builtin;(refine M_ cV rfl (.tmp 37) (.tmp 39) rfl S rfl (r.alloc _) (by simp;omega) O_ #[I_ n] rfl (l_ _ _ _ rfl) n rfl ?_);intro v4 w4 a c g)
    go_ret;rw [q.out] at a
    exact ⟨_,rfl,a.la (fun _ _ h=>h) hS,(a_ j.out _).grown c (a_ j.out _).size (fun b m=>(r.own m).1)⟩
theorem dD:(prog.info? 119).map (·.size)=some 3:=by kernel_rfl
theorem rF {B C:Option Addr} {a b c d e f:Nat}:(#[Value.slice A a b,S_ B c d,S_ C e f]:Array Value).all (·.oneCell')=true:=by simp [Value.oneCell']
theorem fY {fn:Func} {p q:Tmp} (h:fn.results=#[.cell p 119,.tmp q]) {tmps:Array Value} {t:TypeId} {a b c:Value} {fr:Nat × Nat} {u:Value}
  (hp:tmps.getD p undef = P_ g) (hq:tmps.getD q undef=u) (hg:w.heap[g]?=some (.cells #[a,b,c] t fr)):(results fn tmps).run prog w = .ok (.tuple #[.agg #[a,b,c],u]) w:=
 c0_ h tmps t fr u hp hq hg underlying119 rfl dD
def dq_ (a:Lr) (err:Int) (S:Nat->Prop) (w:World) (e:Ending) (w':World):Prop:=∃v1 v2 v3,e = .returned (.tuple #[.agg #[v1,v2,v3],I_ err])/\tB w' S v1 v2 v3 a/\s_ w w'
theorem aT {B:Nat} {w0:World} (hb:Below B w0 w) (p:Addr) (v:Value) (h:B<=p.block):Below B w0 (w.setCell p v):=hb.setCell h v
def oC (a:Lr) (f:Int) (act:Bool):Lr:=if gK a f then a else if act then {a with act:=f :: a.act} else {a with ina:=f :: a.ina}
theorem iQ_ (f:Int) (act:Bool) (h:tB w S v1 v2 v3 a) (ok:fH a) (hf:1<=f/\f<=64) (hS:∀b,w.heap.size<=b->S b) :
  C_ 135 #[.agg #[v1,v2,v3],I_ f,.bool act] w (dq_ (oC a f act) (if gK a f then 5 else 0) S w):=by
 obtain ⟨l1,l2,l3⟩:=ok.lens;obtain ⟨J,c1,rfl,Y,Z⟩:=h.1.form;obtain ⟨K,c2,rfl,p3,p4⟩:=h.2.1.form;obtain ⟨A,B,rfl,p5,p6⟩:=h.2.2.form;have G:=fun w' (v:s_ w w')=>oM (h.step v) ok;have y:=fun w' (v:s_ w w')=>d8_ f (h.step v);have P:=H_ (m_ (i_ w (.cells #[S_ J a.act.length c1,S_ K a.ina.length c2,S_ A a.ref.length B] 119)) (.cells #[S_ none 0 0,S_ none 0 0,S_ none 0 0] 119));have N:=H_ (l_ (w.alloc (.cells #[S_ J a.act.length c1,S_ K a.ina.length c2,S_ A a.ref.length B] 119)) (.cells #[S_ none 0 0,S_ none 0 0,S_ none 0 0] 119) (w+1) A_);have L:=H_ (a_ (a_ (aP (w) w) (.cells #[S_ J a.act.length c1,S_ K a.ina.length c2,S_ A a.ref.length B] 119)) (.cells #[S_ none 0 0,S_ none 0 0,S_ none 0 0] 119));have H:=H_ h;have U:=H_ hS;have q1:decide (f<1)=false:=dF O_;have q2:decide (64<f)=false:=dF O_;clear Y Z p3 p4 p5 p6 h hS hf ok
 cases q:gK a f with
 | true=>
  have M:=H_ (show oC a f act=a by unfold oC;rw [q];rfl);rw [q] at y;clear q;go_enter func135,ntmps135
  go_wp2_with (first | (go_at_call 105;(with_reducible refine CM (G _ L.out) ?_);rintro e w1 ⟨rfl,l⟩;obtain ⟨k,s,i⟩:=bC P N L l;clear l;obtain ⟨x0,p,r⟩:=cR k.out) | (go_at_call 189;(with_reducible refine CM (y _ i.out) ?_);rintro e w2 ⟨rfl,m⟩;clear x0 p r;obtain ⟨n,d,j⟩:=bC k s i m;clear m;obtain ⟨x0,p,r⟩:=cR n.out) | (refine cZ rfl 119 (.tmp 6) (.tmp 30) rfl rfl (w+1) #[S_ J a.act.length c1,S_ K a.ina.length c2,S_ A a.ref.length B] rfl rfl 119 _ (d.out) dD rfl (rF) ?_))
  show bodyPost prog f135 _ _ _ _
  refine bodyPost_ret (fY rfl rfl rfl (setRow_heap _ _ _ _ _ _ d)) rfl ?_;rw [M.out];exact ⟨_,_,_,rfl,H.step (d_ j.out O_ _),d_ j.out O_ _⟩
 | false=>
  rw [q] at y;have Q:=fun w' (v:s_ w w') (hz:w.heap.size+2<=w'.heap.size)=>xJ f (fun z=>S z/\z≠w.heap.size/\z≠w.heap.size+1) ((H.out.1.weak (fun b v h=>⟨h,O_,O_⟩)).step v) O_ (fun b F=>⟨U.out b (eF v.size F),O_,O_⟩);have R:=fun w' (v:s_ w w') (hz:w.heap.size+2<=w'.heap.size)=>xJ f (fun z=>S z/\z≠w.heap.size/\z≠w.heap.size+1) ((H.out.2.1.weak (fun b v h=>⟨h,O_,O_⟩)).step v) O_ (fun b F=>⟨U.out b (eF v.size F),O_,O_⟩);have M:=H_ (show oC a f act=if act then {a with act:=f :: a.act} else {a with ina:=f :: a.ina} by unfold oC;rw [q];rfl)
  clear q
  cases act with
  | true=>
   go_enter func135,ntmps135
   go_wp2_with (first
    | (go_at_call 105;(with_reducible refine CM (G _ L.out) ?_);rintro e w1 ⟨rfl,l⟩;obtain ⟨k,s,i⟩:=bC P N L l;clear l;obtain ⟨x0,p,r⟩:=cR k.out)
    | (go_at_call 189;(with_reducible refine CM (y _ i.out) ?_);rintro e w2 ⟨rfl,m⟩;clear x0 p r;obtain ⟨n,d,j⟩:=bC k s i m;clear m;obtain ⟨x0,p,r⟩:=cR n.out)
    | (go_at_call 190;(with_reducible refine CM (Q _ j.out (by have:=n_ d.out;omega)) ?_);rintro e w3 ⟨u,rfl,I,x⟩;obtain ⟨C,E,rfl,_,_⟩:=I.form;clear x0 p r;obtain ⟨c,t,D⟩:=bC n d j x;have O:=H_ I;clear x I;obtain ⟨x0,p,r⟩:=cR c.out;have V:=t_ c 0;have W:=t_ c 1;have X:=t_ c 2)
    | (refine cZ rfl 119 (.tmp 6) (.tmp 38) rfl rfl (w+1) #[S_ C (f :: a.act).length E,S_ K a.ina.length c2,S_ A a.ref.length B] rfl rfl 119 _ (aQ t.out _ _ A_) dD rfl (rF) ?_))
   show bodyPost prog f135 _ _ _ _
   refine bodyPost_ret (fY rfl rfl rfl (setRow_heap _ _ _ _ _ _ (aQ t.out _ _ A_))) rfl ?_;rw [M.out];have o:=d_ (g:=w.heap.size+1) (aT D.out ⟨w,0,none⟩ (S_ C (f :: a.act).length E) (bE _)) O_ #[S_ C (f :: a.act).length E,S_ K a.ina.length c2,S_ A a.ref.length B];exact ⟨_,_,_,rfl,⟨((O.kept (r_.of_setCell w3 ⟨w,0,none⟩ _ (fun h=>h.2.1 rfl))).kept (r_.of_setRow _ _ _ (fun h=>h.2.2 rfl))).weak (fun _ _ h=>h.1),H.out.2.1.step o,H.out.2.2.step o⟩,o⟩
  | false=>
   go_enter func135,ntmps135
   go_wp2_with (first
    | (go_at_call 105;(with_reducible refine CM (G _ L.out) ?_);rintro e w1 ⟨rfl,l⟩;obtain ⟨k,s,i⟩:=bC P N L l;clear l;obtain ⟨x0,p,r⟩:=cR k.out)
    | (go_at_call 189;(with_reducible refine CM (y _ i.out) ?_);rintro e w2 ⟨rfl,m⟩;clear x0 p r;obtain ⟨n,d,j⟩:=bC k s i m;clear m;obtain ⟨x0,p,r⟩:=cR n.out)
    | (go_at_call 190;(with_reducible refine CM (R _ j.out (by have:=n_ d.out;omega)) ?_);rintro e w3 ⟨u,rfl,I,x⟩;obtain ⟨C,E,rfl,_,_⟩:=I.form;clear x0 p r;obtain ⟨c,t,D⟩:=bC n d j x;have O:=H_ I;clear x I;obtain ⟨x0,p,r⟩:=cR c.out;have V:=t_ c 0;have W:=t_ c 1;have X:=t_ c 2)
    | (refine cZ rfl 119 (.tmp 6) (.tmp 38) rfl rfl (w+1) #[S_ J a.act.length c1,S_ C (f :: a.ina).length E,S_ A a.ref.length B] rfl rfl 119 _ (aQ t.out _ _ A_) dD rfl (rF) ?_))
   show bodyPost prog f135 _ _ _ _
   refine bodyPost_ret (fY rfl rfl rfl (setRow_heap _ _ _ _ _ _ (aQ t.out _ _ A_))) rfl ?_;rw [M.out];have o:=d_ (g:=w.heap.size+1) (aT D.out ⟨w,1,none⟩ (S_ C (f :: a.ina).length E) (bE _)) O_ #[S_ J a.act.length c1,S_ C (f :: a.ina).length E,S_ A a.ref.length B];exact ⟨_,_,_,rfl,⟨H.out.1.step o,((O.kept (r_.of_setCell w3 ⟨w,1,none⟩ _ (fun h=>h.2.1 rfl))).kept (r_.of_setRow _ _ _ (fun h=>h.2.2 rfl))).weak (fun _ _ h=>h.1),H.out.2.2.step o⟩,o⟩
end
section
def oS (a:Lr) (f:Int):Lr:=if gK a f then ⟨bU a.act f,bU a.ina f,bU a.ref f⟩ else a
theorem eS_ (f:Int) (h:tB w S v1 v2 v3 a) (ok:fH a) (hf:1<=f/\f<=64) (hS:∀b,w.heap.size<=b->S b) :
  C_ 199 #[.agg #[v1,v2,v3],I_ f] w (dq_ (oS a f) (if gK a f then 0 else 4) S w):=by
 obtain ⟨l1,l2,l3⟩:=ok.lens;obtain ⟨D,c1,rfl,p1,p2⟩:=h.1.form;obtain ⟨E,c2,rfl,p3,p4⟩:=h.2.1.form;obtain ⟨F,I,rfl,p5,p6⟩:=h.2.2.form;have J:=fun w' (c:s_ w w')=>oM (h.step c) ok;have t:=fun w' (c:s_ w w')=>d8_ f (h.step c);have HX:=H_ (m_ (i_ w (.cells #[S_ D a.act.length c1,S_ E a.ina.length c2,S_ F a.ref.length I] 119)) (.cells #[S_ none 0 0,S_ none 0 0,S_ none 0 0] 119));have HR:=H_ (l_ (w.alloc (.cells #[S_ D a.act.length c1,S_ E a.ina.length c2,S_ F a.ref.length I] 119)) (.cells #[S_ none 0 0,S_ none 0 0,S_ none 0 0] 119) (w+1) A_);have M:=H_ (a_ (a_ (aP (w) w) (.cells #[S_ D a.act.length c1,S_ E a.ina.length c2,S_ F a.ref.length I] 119)) (.cells #[S_ none 0 0,S_ none 0 0,S_ none 0 0] 119));have H:=H_ h;have Q:=H_ hS;have q1:decide (f<1)=false:=dF O_;have q2:decide (64<f)=false:=dF O_;clear p1 p2 p3 p4 p5 p6 h hS hf ok
 cases q:gK a f with
 | false=>
  have P:=H_ (show oS a f=a by unfold oS;rw [q];rfl);rw [q] at t;clear q;go_enter func199,ntmps199
  go_wp2_with (first
   | (go_at_call 105;(with_reducible refine CM (J _ M.out) ?_);rintro e w1 ⟨rfl,o⟩;obtain ⟨l,y,k⟩:=bC HX HR M o;clear o;obtain ⟨x0,B,C⟩:=cR l.out)
   | (go_at_call 189;(with_reducible refine CM (t _ k.out) ?_);rintro e w2 ⟨rfl,r⟩;clear x0 B C;obtain ⟨s,g,i⟩:=bC l y k r;clear r;obtain ⟨x0,B,C⟩:=cR s.out)
   | (refine cZ rfl 119 (.tmp 4) (.tmp 24) rfl rfl (w+1) #[S_ D a.act.length c1,S_ E a.ina.length c2,S_ F a.ref.length I] rfl rfl 119 _ (g) dD rfl (rF) ?_))
  show bodyPost prog f199 _ _ _ _
  refine bodyPost_ret (fY rfl rfl rfl (setRow_heap _ _ _ _ _ _ g)) rfl ?_;rw [P.out];exact ⟨_,_,_,rfl,H.step (d_ i.out O_ _),d_ i.out O_ _⟩
 | true=>
  have P:=H_ (show oS a f=⟨bU a.act f,bU a.ina f,bU a.ref f⟩ by unfold oS;rw [q];rfl);rw [q] at t;have o1:=fun w' (c:s_ w w') (hz:w.heap.size+2<=w'.heap.size)=>kP f (fun z=>S z/\z≠w.heap.size/\z≠w.heap.size+1) ((H.out.1.weak (fun b c h=>⟨h,O_,O_⟩)).step c) O_ (fun b n=>⟨Q.out b (eF c.size n),O_,O_⟩);have o2:=fun w' (c:s_ w w') (hz:w.heap.size+2<=w'.heap.size)=>kP f (fun z=>S z/\z≠w.heap.size/\z≠w.heap.size+1) ((H.out.2.1.weak (fun b c h=>⟨h,O_,O_⟩)).step c) O_ (fun b n=>⟨Q.out b (eF c.size n),O_,O_⟩);have o3:=fun w' (c:s_ w w') (hz:w.heap.size+2<=w'.heap.size)=>kP f (fun z=>S z/\z≠w.heap.size/\z≠w.heap.size+1) ((H.out.2.2.weak (fun b c h=>⟨h,O_,O_⟩)).step c) O_ (fun b n=>⟨Q.out b (eF c.size n),O_,O_⟩);clear q;go_enter func199,ntmps199
  go_upto_region 7 with (first
   | (go_at_call 105;(with_reducible refine CM (J _ M.out) ?_);rintro e w1 ⟨rfl,o⟩;obtain ⟨l,y,k⟩:=bC HX HR M o;clear o;obtain ⟨x0,B,C⟩:=cR l.out)
   | (go_at_call 189;(with_reducible refine CM (t _ k.out) ?_);rintro e w2 ⟨rfl,r⟩;clear x0 B C;obtain ⟨s,g,i⟩:=bC l y k r;clear r;obtain ⟨x0,B,C⟩:=cR s.out))
  have v:=n_ s;refine aD 12 38 [SP.eq (P_ (w)),SP.eq (S_ D a.act.length c1),SP.eq (I_ f),SP.la Y_ (fun z=>S z/\z≠w.heap.size/\z≠w.heap.size+1) (bU a.act f),SP.eq (.pointer (some ⟨w,1,none⟩)),SP.eq (S_ E a.ina.length c2),SP.eq (I_ f),SP.la Y_ (fun z=>S z/\z≠w.heap.size/\z≠w.heap.size+1) (bU a.ina f),SP.eq (.pointer (some ⟨w,2,none⟩)),SP.eq (S_ F a.ref.length I),SP.eq (I_ f),SP.la Y_ (fun z=>S z/\z≠w.heap.size/\z≠w.heap.size+1) (bU a.ref f)] q_ q_ rfl ?_;simp only[vG];refine qC fun v0=>?_;simp only[ly];refine f_ (fun x d j K m=>?_) (fun v1=>?_)
  ·obtain rfl:v0=_:=j 0 q_;have u0:=(d.cell (p:=⟨w,_,none⟩) v).trans x0;go_simp;exact m _ _ d B_ rfl
  simp only[ly];refine qC fun v2=>?_;simp only[ly];refine f_ (fun x d j K m=>?_) (fun v3=>?_)
  ·obtain rfl:v1=_:=j 1 q_;obtain rfl:v2=_:=j 2 q_;go_simp
   go_at_call 221
   refine (o1 x (e_ i d) (by have:=d.size;have:=n_ g;omega)).mono ?_;rintro e w9 ⟨u,rfl,L,c⟩;exact m _ _ (e_ d c) c L
  simp only[ly];refine qC fun v4=>?_;simp only[ly];refine f_ (fun x d j K m=>?_) (fun v5=>?_)
  ·obtain rfl:v4=_:=j 4 q_;have u0:=(d.cell (p:=⟨w,_,none⟩) v).trans B;go_simp;exact m _ _ d B_ rfl
  simp only[ly];refine qC fun v6=>?_;simp only[ly];refine f_ (fun x d j K m=>?_) (fun v7=>?_)
  ·obtain rfl:v5=_:=j 5 q_;obtain rfl:v6=_:=j 6 q_;go_simp
   go_at_call 221
   refine (o2 x (e_ i d) (by have:=d.size;have:=n_ g;omega)).mono ?_;rintro e w9 ⟨u,rfl,L,c⟩;exact m _ _ (e_ d c) c L
  simp only[ly];refine qC fun v8=>?_;simp only[ly];refine f_ (fun x d j K m=>?_) (fun v9=>?_)
  ·obtain rfl:v8=_:=j 8 q_;have u0:=(d.cell (p:=⟨w,_,none⟩) v).trans C;go_simp;exact m _ _ d B_ rfl
  simp only[ly];refine qC fun v10=>?_;simp only[ly];refine f_ (fun x d j K m=>?_) (fun v11=>?_)
  ·obtain rfl:v9=_:=j 9 q_;obtain rfl:v10=_:=j 10 q_;go_simp
   go_at_call 221
   refine (o3 x (e_ i d) (by have:=d.size;have:=n_ g;omega)).mono ?_;rintro e w9 ⟨u,rfl,L,c⟩;exact m _ _ (e_ d c) c L
  simp only[ly];refine aK ?_;intro w3 d N;have U:=N 3 O_;have V:=N 7 O_;have A:=N 11 O_;obtain ⟨X,d1,e1,_⟩:=LA.form U;obtain ⟨Y,d2,e2,_⟩:=LA.form V;obtain ⟨Z,d3,e3,_⟩:=LA.form A;obtain rfl:v3=_:=e1;obtain rfl:v7=_:=e2;obtain rfl:v11=_:=e3;obtain ⟨G3,G7,O⟩:=eI U V A;obtain ⟨G,R⟩:=jN g i d;clear U V A N d x0 B C v
  go_wp2_with (refine cZ rfl 119 (.tmp 4) (.tmp 37) rfl rfl (w+1) #[S_ X (bU a.act f).length d1,S_ Y (bU a.ina f).length d2,S_ Z (bU a.ref f).length d3] rfl rfl 119 _ (G) dD rfl (rF) ?_)
  show bodyPost prog f199 _ _ _ _
  refine bodyPost_ret (fY rfl rfl rfl (setRow_heap _ _ _ _ _ _ G)) rfl ?_;rw [P.out];have W:=r_.of_setRow (S:=fun z=>S z/\z≠w.heap.size/\z≠w.heap.size+1) w3 (w+1) #[S_ X (bU a.act f).length d1,S_ Y (bU a.ina f).length d2,S_ Z (bU a.ref f).length d3] (fun h=>h.2.2 rfl);exact ⟨_,_,_,rfl,⟨(LA.kept G3.out W).weak (fun _ _ h=>h.1),(LA.kept G7.out W).weak (fun _ _ h=>h.1),(LA.kept O.out W).weak (fun _ _ h=>h.1)⟩,d_ R.out O_ _⟩
def fA (a:Lr) (f:Int):Lr:=if gK a f then (if f ∈ a.ref then (if f ∈ a.ina then ⟨f :: a.act,bU a.ina f,bU a.ref f⟩ else a) else {a with ref:=dX a.ref f}) else a
theorem gy_ (f:Int) (h:tB w S v1 v2 v3 a) (ok:fH a) (hf:1<=f/\f<=64) (hS:∀b,w.heap.size<=b->S b) :
  C_ 197 #[.agg #[v1,v2,v3],I_ f] w (dq_ (fA a f) (if gK a f then 0 else 4) S w):=by
 obtain ⟨l1,l2,l3⟩:=ok.lens;obtain ⟨J,c1,rfl,p1,p2⟩:=h.1.form;obtain ⟨L,c2,rfl,p3,p4⟩:=h.2.1.form;obtain ⟨A3,c3,rfl,p5,p6⟩:=h.2.2.form;have F:=fun w' (d:s_ w w')=>oM (h.step d) ok;have C:=fun w' (d:s_ w w')=>d8_ f (h.step d);have HX:=H_ (m_ (i_ w (.cells #[S_ J a.act.length c1,S_ L a.ina.length c2,S_ A3 a.ref.length c3] 119)) (.cells #[S_ none 0 0,S_ none 0 0,S_ none 0 0] 119));have HR:=H_ (l_ (w.alloc (.cells #[S_ J a.act.length c1,S_ L a.ina.length c2,S_ A3 a.ref.length c3] 119)) (.cells #[S_ none 0 0,S_ none 0 0,S_ none 0 0] 119) (w+1) A_);have M:=H_ (a_ (a_ (aP (w) w) (.cells #[S_ J a.act.length c1,S_ L a.ina.length c2,S_ A3 a.ref.length c3] 119)) (.cells #[S_ none 0 0,S_ none 0 0,S_ none 0 0] 119));have H:=H_ h;have HS:=H_ hS;have q1:decide (f<1)=false:=dF O_;have q2:decide (64<f)=false:=dF O_;clear p1 p2 p3 p4 p5 p6 h hS hf ok
 cases q:gK a f with
 | false=>
  have R:=H_ (show fA a f=a by unfold fA;rw [q];rfl);rw [q] at C;clear q;go_enter func197,ntmps197
  go_wp2_with (first
   | (go_at_call 105;(with_reducible refine CM (F _ M.out) ?_);rintro e w1 ⟨rfl,m⟩;obtain ⟨k,t,j⟩:=bC HX HR M m;clear m;obtain ⟨x0,r,s⟩:=cR k.out)
   | (go_at_call 189;(with_reducible refine CM (C _ j.out) ?_);rintro e w2 ⟨rfl,n⟩;clear x0 r s;obtain ⟨o,i,c⟩:=bC k t j n;clear n;obtain ⟨x0,r,s⟩:=cR o.out)
   | (refine cZ rfl 119 (.tmp 4) (.tmp 24) rfl rfl (w+1) #[S_ J a.act.length c1,S_ L a.ina.length c2,S_ A3 a.ref.length c3] rfl rfl 119 _ (i) dD rfl (rF) ?_))
  show bodyPost prog f197 _ _ _ _
  refine bodyPost_ret (fY rfl rfl rfl (setRow_heap _ _ _ _ _ _ i)) rfl ?_;rw [R.out];exact ⟨_,_,_,rfl,H.step (d_ c.out O_ _),d_ c.out O_ _⟩
 | true=>
  rw [q] at C;have a3:=fun w' (d:s_ w w')=>ci_ f (H.out.2.2.step d)
  by_cases N:f ∈ a.ref
  ·have p3:=pF N;generalize atL a.ref f=z at a3 p3;have a2:=fun w' (d:s_ w w')=>ci_ f (H.out.2.1.step d)
   by_cases hi:f ∈ a.ina
   ·have R:=H_ (show fA a f=⟨f :: a.act,bU a.ina f,bU a.ref f⟩ by unfold fA;rw [if_pos q,if_pos N,if_pos hi]);have p2:=pF hi;generalize atL a.ina f=y at a2 p2;have o1:=fun w' (d:s_ w w') (hz:w.heap.size+2<=w'.heap.size)=>xJ f (fun z=>S z/\z≠w.heap.size/\z≠w.heap.size+1) ((H.out.1.weak (fun b d h=>⟨h,O_,O_⟩)).step d) O_ (fun b A=>⟨HS.out b (eF d.size A),O_,O_⟩);have o2:=fun w' (d:s_ w w') (hz:w.heap.size+2<=w'.heap.size)=>kP f (fun z=>S z/\z≠w.heap.size/\z≠w.heap.size+1) ((H.out.2.1.weak (fun b d h=>⟨h,O_,O_⟩)).step d) O_ (fun b A=>⟨HS.out b (eF d.size A),O_,O_⟩);have o3:=fun w' (d:s_ w w') (hz:w.heap.size+2<=w'.heap.size)=>kP f (fun z=>S z/\z≠w.heap.size/\z≠w.heap.size+1) ((H.out.2.2.weak (fun b d h=>⟨h,O_,O_⟩)).step d) O_ (fun b A=>⟨HS.out b (eF d.size A),O_,O_⟩);clear q N hi;go_enter func197,ntmps197
    go_upto_region 10 with (first
     | (go_at_call 105;(with_reducible refine CM (F _ M.out) ?_);rintro e w1 ⟨rfl,m⟩;obtain ⟨k,t,j⟩:=bC HX HR M m;clear m;obtain ⟨x0,r,s⟩:=cR k.out)
     | (go_at_call 189;(with_reducible refine CM (C _ j.out) ?_);rintro e w2 ⟨rfl,n⟩;clear x0 r s;obtain ⟨o,i,c⟩:=bC k t j n;clear n;obtain ⟨x0,r,s⟩:=cR o.out)
     | (go_at_call 161;(with_reducible refine CM (a3 _ c.out) ?_);rintro e w' ⟨rfl,rfl⟩)
     | (go_at_call 161;(with_reducible refine CM (a2 _ c.out) ?_);rintro e w' ⟨rfl,rfl⟩))
    have G:=n_ o;refine aD 12 56 [SP.eq (P_ (w)),SP.eq (S_ J a.act.length c1),SP.eq (I_ f),SP.la Y_ (fun z=>S z/\z≠w.heap.size/\z≠w.heap.size+1) (f :: a.act),SP.eq (.pointer (some ⟨w,1,none⟩)),SP.eq (S_ L a.ina.length c2),SP.eq (I_ f),SP.la Y_ (fun z=>S z/\z≠w.heap.size/\z≠w.heap.size+1) (bU a.ina f),SP.eq (.pointer (some ⟨w,2,none⟩)),SP.eq (S_ A3 a.ref.length c3),SP.eq (I_ f),SP.la Y_ (fun z=>S z/\z≠w.heap.size/\z≠w.heap.size+1) (bU a.ref f)] q_ q_ rfl ?_;simp only[vG];refine qC fun v0=>?_;simp only[ly];refine f_ (fun x l B K D=>?_) (fun v1=>?_)
    ·obtain rfl:v0=_:=B 0 q_;have u0:=(l.cell (p:=⟨w,_,none⟩) G).trans x0;go_simp;exact D _ _ l B_ rfl
    simp only[ly];refine qC fun v2=>?_;simp only[ly];refine f_ (fun x l B K D=>?_) (fun v3=>?_)
    ·obtain rfl:v1=_:=B 1 q_;obtain rfl:v2=_:=B 2 q_;go_simp
     go_at_call 190
     refine (o1 x (e_ c l) (by have:=l.size;have:=n_ i;omega)).mono ?_;rintro e w9 ⟨u,rfl,I,d⟩;exact D _ _ (e_ l d) d I
    simp only[ly];refine qC fun v4=>?_;simp only[ly];refine f_ (fun x l B K D=>?_) (fun v5=>?_)
    ·obtain rfl:v4=_:=B 4 q_;have u0:=(l.cell (p:=⟨w,_,none⟩) G).trans r;go_simp;exact D _ _ l B_ rfl
    simp only[ly];refine qC fun v6=>?_;simp only[ly];refine f_ (fun x l B K D=>?_) (fun v7=>?_)
    ·obtain rfl:v5=_:=B 5 q_;obtain rfl:v6=_:=B 6 q_;go_simp
     go_at_call 221
     refine (o2 x (e_ c l) (by have:=l.size;have:=n_ i;omega)).mono ?_;rintro e w9 ⟨u,rfl,I,d⟩;exact D _ _ (e_ l d) d I
    simp only[ly];refine qC fun v8=>?_;simp only[ly];refine f_ (fun x l B K D=>?_) (fun v9=>?_)
    ·obtain rfl:v8=_:=B 8 q_;have u0:=(l.cell (p:=⟨w,_,none⟩) G).trans s;go_simp;exact D _ _ l B_ rfl
    simp only[ly];refine qC fun v10=>?_;simp only[ly];refine f_ (fun x l B K D=>?_) (fun v11=>?_)
    ·obtain rfl:v9=_:=B 9 q_;obtain rfl:v10=_:=B 10 q_;go_simp
     go_at_call 221
     refine (o3 x (e_ c l) (by have:=l.size;have:=n_ i;omega)).mono ?_;rintro e w9 ⟨u,rfl,I,d⟩;exact D _ _ (e_ l d) d I
    simp only[ly];refine aK ?_;intro w3 l hG;have g3:=hG 3 O_;have g7:=hG 7 O_;have Y:=hG 11 O_;obtain ⟨O,V,e1,_⟩:=LA.form g3;obtain ⟨P,W,e2,_⟩:=LA.form g7;obtain ⟨Q,X,e3,_⟩:=LA.form Y;obtain ⟨n1,a4⟩:=bL ((f :: a.act).length);rw [<-a4] at e1;clear a4;obtain rfl:v3=_:=e1;obtain rfl:v7=_:=e2;obtain rfl:v11=_:=e3;obtain ⟨G3,G7,a5⟩:=eI g3 g7 Y;obtain ⟨v,E,U⟩:=bC o i c l;clear g3 g7 Y hG l x0 r s G
    go_wp2_with (first
     | ((refine cZ rfl 119 (.tmp 2) (.tmp 54) rfl rfl w #[S_ O n1 V,S_ P (bU a.ina f).length W,S_ Q (bU a.ref f).length X] rfl rfl 119 _ (v) dD rfl (rF) ?_);have a6:=H_ (show (w3.setRow (w) #[S_ O n1 V,S_ P (bU a.ina f).length W,S_ Q (bU a.ref f).length X]).heap[w.heap.size]?=some (.cells #[S_ O n1 V,S_ P (bU a.ina f).length W,S_ Q (bU a.ref f).length X] 119 (0,0)) from setRow_heap _ _ _ _ _ _ v);have a0:=H_ ((setRow_other w3 (w) (w+1) #[S_ O n1 V,S_ P (bU a.ina f).length W,S_ Q (bU a.ref f).length X] O_).trans E.out);obtain ⟨x0,r,s⟩:=cR a6.out)
     | (refine cZ rfl 119 (.tmp 4) (.tmp 55) rfl rfl (w+1) #[S_ O n1 V,S_ P (bU a.ina f).length W,S_ Q (bU a.ref f).length X] rfl rfl 119 _ (a0) dD rfl (rF) ?_))
    show bodyPost prog f197 _ _ _ _
    refine bodyPost_ret (fY rfl rfl rfl (setRow_heap _ _ _ _ _ _ a0)) rfl ?_;rw [R.out];have hk:=(r_.of_setRow (S:=fun z=>S z/\z≠w.heap.size/\z≠w.heap.size+1) w3 (w) #[S_ O n1 V,S_ P (bU a.ina f).length W,S_ Q (bU a.ref f).length X] (fun h=>h.2.1 rfl)).trans (r_.of_setRow _ (w+1) #[S_ O n1 V,S_ P (bU a.ina f).length W,S_ Q (bU a.ref f).length X] (fun h=>h.2.2 rfl));exact ⟨_,_,_,rfl,⟨(LA.kept G3.out hk).weak (fun _ _ h=>h.1),(LA.kept G7.out hk).weak (fun _ _ h=>h.1),(LA.kept a5.out hk).weak (fun _ _ h=>h.1)⟩,d_ (d_ U.out O_ _) O_ _⟩
   ·have R:=H_ (show fA a f=a by unfold fA;rw [if_pos q,if_pos N,if_neg hi]);rw [pE hi] at a2;clear q N hi;go_enter func197,ntmps197
    go_wp2_with (first
     | (go_at_call 105;(with_reducible refine CM (F _ M.out) ?_);rintro e w1 ⟨rfl,m⟩;obtain ⟨k,t,j⟩:=bC HX HR M m;clear m;obtain ⟨x0,r,s⟩:=cR k.out)
     | (go_at_call 189;(with_reducible refine CM (C _ j.out) ?_);rintro e w2 ⟨rfl,n⟩;clear x0 r s;obtain ⟨o,i,c⟩:=bC k t j n;clear n;obtain ⟨x0,r,s⟩:=cR o.out)
     | (go_at_call 161;(with_reducible refine CM (a3 _ c.out) ?_);rintro e w' ⟨rfl,rfl⟩)
     | (go_at_call 161;(with_reducible refine CM (a2 _ c.out) ?_);rintro e w' ⟨rfl,rfl⟩)
     | (refine cZ rfl 119 (.tmp 4) (.tmp 55) rfl rfl (w+1) #[S_ J a.act.length c1,S_ L a.ina.length c2,S_ A3 a.ref.length c3] rfl rfl 119 _ (i) dD rfl (rF) ?_))
    show bodyPost prog f197 _ _ _ _
    refine bodyPost_ret (fY rfl rfl rfl (setRow_heap _ _ _ _ _ _ i)) rfl ?_;rw [R.out];exact ⟨_,_,_,rfl,H.step (d_ c.out O_ _),d_ c.out O_ _⟩
  ·have R:=H_ (show fA a f={a with ref:=dX a.ref f} by unfold fA;rw [if_pos q,if_neg N])
   rw [pE N] at a3;have o3:=fun w' (d:s_ w w') (hz:w.heap.size+2<=w'.heap.size)=>ef_ f (fun z=>S z/\z≠w.heap.size/\z≠w.heap.size+1) ((H.out.2.2.weak (fun b d h=>⟨h,O_,O_⟩)).step d) O_ (fun b A=>⟨HS.out b (eF d.size A),O_,O_⟩);clear q N;go_enter func197,ntmps197
   go_wp2_with (first
    | (go_at_call 105;(with_reducible refine CM (F _ M.out) ?_);rintro e w1 ⟨rfl,m⟩;obtain ⟨k,t,j⟩:=bC HX HR M m;clear m;obtain ⟨x0,r,s⟩:=cR k.out)
    | (go_at_call 189;(with_reducible refine CM (C _ j.out) ?_);rintro e w2 ⟨rfl,n⟩;clear x0 r s;obtain ⟨o,i,c⟩:=bC k t j n;clear n;obtain ⟨x0,r,s⟩:=cR o.out)
    | (go_at_call 161;(with_reducible refine CM (a3 _ c.out) ?_);rintro e w' ⟨rfl,rfl⟩)
    | (go_at_call 220;(with_reducible refine CM (o3 _ c.out (by have:=n_ i.out;omega)) ?_);rintro e w3 ⟨u,rfl,I,a1⟩;obtain ⟨Au,cu,rfl,_,_⟩:=I.form;clear x0 r s;obtain ⟨v,E,U⟩:=bC o i c a1;have HU:=H_ I;clear a1 I;obtain ⟨x0,r,s⟩:=cR v.out;have f0:=t_ v 0;have f1:=t_ v 1;have f2:=t_ v 2)
    | (refine cZ rfl 119 (.tmp 4) (.tmp 55) rfl rfl (w+1) #[S_ J a.act.length c1,S_ L a.ina.length c2,S_ Au (dX a.ref f).length cu] rfl rfl 119 _ (aQ E.out _ _ A_) dD rfl (rF) ?_))
   show bodyPost prog f197 _ _ _ _
   refine bodyPost_ret (fY rfl rfl rfl (setRow_heap _ _ _ _ _ _ (aQ E.out _ _ A_))) rfl ?_;rw [R.out];have Z:=d_ (g:=w.heap.size+1) (aT U.out ⟨w,2,none⟩ (S_ Au (dX a.ref f).length cu) (bE _)) O_ #[S_ J a.act.length c1,S_ L a.ina.length c2,S_ Au (dX a.ref f).length cu];exact ⟨_,_,_,rfl,⟨H.out.1.step Z,H.out.2.1.step Z,((HU.kept (r_.of_setCell w3 ⟨w,2,none⟩ _ (fun h=>h.2.1 rfl))).kept (r_.of_setRow _ _ _ (fun h=>h.2.2 rfl))).weak (fun _ _ h=>h.1)⟩,Z⟩
end
section
structure Gr where
 limit:Int
 protect:Int
 charge:Int
def Gr.row (g:Gr):List Value:=[I_ g.limit,I_ g.protect,I_ g.charge]
def pB:RR Gr 3:=RR.flat Gr.row (fun a=>⟨rfl,fun u hu=>by
 simp only[Gr.row,qL,List.not_mem_nil,or_false] at hu
 rcases hu with rfl | rfl | rfl <;> rfl⟩)
theorem f1_:(prog.info? 72).map (fun i=>(i.zero,i.size,i.bytes))=some (some (.agg #[I_ 0,I_ 0,I_ 0]),3,24):=by kernel_rfl
theorem bC_:tA prog 26 72 3:=by
 obtain ⟨i,h1,h2,h3,h4⟩:=info_parts f1_;exact ⟨i,_,24,underlying26,h1,h2,h3,h4,rfl,O_,O_⟩
structure gD (L:List Gr):Prop where
 each:∀g ∈ L,1<=g.limit/\g.limit<=64/\0<=g.protect/\g.protect<=g.limit/\0<=g.charge/\g.charge<=64
 pos:1<=L.length
 few:L.length<=4
theorem GrA.cells {n:Nat} {L:List Gr} (h:LA pB w S (S_ A n cap) L) {g:Gr} (hi:L[i]?=some g):∃b o,A=some ⟨b,o,none⟩/\b<w.heap.size/\
  w.cell? ⟨b,o+i*3,none⟩=some (I_ g.limit)/\w.cell? ⟨b,o+i*3+1,none⟩=some (I_ g.protect)/\w.cell? ⟨b,o+i*3+2,none⟩=some (I_ g.charge):=by
 obtain ⟨b,o,cap',r,hv,c1,c2,hb,hS,hp,hc⟩:=h.at_ hi;injection hv with e1 _ _
 have hp:r=g.row:=hp;subst hp;exact ⟨b,o,e1,hb,hc 0 _ rfl,hc 1 _ rfl,hc 2 _ rfl⟩
theorem oI {L:List Gr} (h:LA pB w S v L) (ok:gD L):C_ 82 #[v] w (cG true w):=by
 obtain ⟨A,cap,rfl,r,d⟩:=h.form;obtain ⟨a,K,M⟩:=ok;have H:=H_ h;have p:=H_ a;have n1:(1:Int)<=(L.length:Int):=O_
 have n2:(L.length:Int)<=4:=O_
 unfold maxLen at d;clear h a;go_enter func82,ntmps82;go_wp2
 go_loopw [3] (fun i wx=>∃k:Nat,i = I_ k/\k<=L.length/\s_ w wx) (fun i _=>L.length - (intOf i).toNat)
 case atStart=>exact ⟨0,rfl,O_,aP _ _⟩
 case round=>
  obtain ⟨k,rfl,J,m⟩:=hrel;have c:=H_ m;clear m
  by_cases f:k<L.length
  ·obtain ⟨x,g⟩:∃x,L[k]?=some x:=⟨_,cY f⟩;obtain ⟨b,o,rfl,q,c0,c1,c2⟩:=GrA.cells (H.step c.out) g;obtain ⟨s,t,u,y,z,B⟩:=p.out x (gL g);obtain ⟨j,n,l⟩:=x
   dsimp only at c0 c1 c2 s t u y z B
   have C:decide (j<1)=false:=dF O_;have D:decide (64<j)=false:=dF O_;have E:decide (n<0)=false:=dF O_;have F:decide (j<n)=false:=dF O_;have G:decide (l<0)=false:=dF O_;have I:decide (64<l)=false:=dF O_;clear g;go_wp2;go_roundw
   case rel=>exact ⟨k+1,by go_num,O_,a_ c.out _⟩
   case measure=>exact bV
  ·obtain rfl:k=L.length:=O_
   go_wp2;go_ret
   exact ⟨rfl,c.out⟩
def iv_ (L:List Gr) (S:Nat->Prop) (w:World) (e:Ending) (w':World):Prop:=∃v,e = .returned v/\LA pB w' S v L/\s_ w w'
def gO_ (L:List Gr) (err:Int) (S:Nat->Prop) (w:World) (e:Ending) (w':World):Prop:=∃v,e = .returned (.tuple #[v,I_ err])/\LA pB w' S v L/\s_ w w'
theorem vO {L:List Gr} (i:Nat) (g:Gr) (n:Int) (h:LA pB w S v L) (hi:L[i]?=some g) (hl:L.length<=100) (hS:∀b,w.heap.size<=b->S b) :
  C_ 185 #[v,I_ i,I_ n] w (iv_ (L.set i {g with charge:=n}) S w):=by
 obtain ⟨A,cap,rfl,x,y⟩:=h.form;have k:=bI hi;obtain ⟨H,q,s⟩:=eI h hi hS;have E:(0:Int)<=(i:Int):=O_
 have F:(i:Int)<(L.length:Int):=O_
 clear h hi hS;go_enter func185,ntmps185
 go_wp2_with (at_builtin;refine cH pB bC_ rfl _ _ rfl rfl _ S L rfl H.out O_ ?_;intro v4 w4 c f;obtain ⟨G,u,rfl,z,B,C,d⟩:=c.lw O_;obtain ⟨⟨I,x0⟩,D⟩:=d.slot (i:=i) (p:=2) k O_;have t:=H_ d;have o:=H_ f;clear c d f)
 go_ret;have j:=(aP (w) w).grown o.out (bE _) (fun b j=>by cases j)
 have l:=t.setOne (i:=i) (p:=2) (a:=g) (a':={g with charge:=n}) (v:= I_ n) q.out O_ rfl (fun r m=>by
  have m:r=g.row:=m;subst m
  rfl)
 exact ⟨_,rfl,by
  have:=l.la (S':=S) (cap:=u) (s.out G O_) (fun b _ h=>h.1) (by rw [kL];exact z) B;rw [kL] at this;exact this,aT j _ _ C⟩
def cC (L:List Gr) (i:Nat) (g:Gr) (n:Int):List Gr × Int:=if g.limit - g.charge<n then (L,3) else (L.set i {g with charge:=g.charge+n},0)
def cU (L:List Gr) (i:Nat) (g:Gr) (n:Int):List Gr × Int:=if g.charge<n then (L,4) else (L.set i {g with charge:=g.charge - n},0)
theorem dH_ {L:List Gr} (i:Nat) (g:Gr) (n:Int) (h:LA pB w S v L) (hi:L[i]?=some g) (ok:gD L) (hn:0<=n/\n<=64) (hS:∀b,w.heap.size<=b->S b) :
  C_ 131 #[v,I_ i,I_ n] w (gO_ (cC L i g n).1 (cC L i g n).2 S w):=by
 obtain ⟨A,cap,rfl,y,z⟩:=h.form;have B:=bI hi;obtain ⟨D,E,F,G,I,J⟩:=ok.each g (gL hi);have k:=fun w' (hb:s_ w w')=>oI (h.step hb) ok;have j:=fun (m:Int) w' (hb:s_ w w')=>vO i g m (h.step hb) hi (by have:=ok.few;omega) (fun b p=>hS b (eF hb.size p));have H:=H_ h;have x:=H_ hi;have N:(0:Int)<=(i:Int):=O_
 have O:(i:Int)<(L.length:Int):=O_
 have K:decide (n<0)=false:=dF O_;have M:decide (64<n)=false:=dF O_;clear h hi hS ok;obtain ⟨f,t,d⟩:=g
 dsimp only at D E F G I J
 have w1:i64.wrap (f - d)=f - d:=gJ O_
 by_cases q:f - d<n
 ·have l:=H_ (show cC L i ⟨f,t,d⟩ n=(L,3) by unfold cC;rw [if_pos q]);clear j;go_enter func131,ntmps131
  go_upto_region 5 with (go_at_call 82;(with_reducible refine CM (k _ B_) ?_);rintro e w1 ⟨rfl,a⟩;obtain ⟨b,o,rfl,s,c0,c1,c2⟩:=GrA.cells (H.step a) x.out;dsimp only at c0 c1 c2;have c:=H_ a;clear a)
  go_quiet (fail);go_wp2
  go_ret2
  rw [l.out];exact ⟨_,rfl,H.step (below_drewN c.out _),below_drewN c.out _⟩
 ·have l:=H_ (show cC L i ⟨f,t,d⟩ n=(L.set i {limit:=f,protect:=t,charge:=d+n},0) by unfold cC;rw [if_neg q]);go_enter func131,ntmps131
  go_upto_region 5 with (go_at_call 82;(with_reducible refine CM (k _ B_) ?_);rintro e w1 ⟨rfl,a⟩;obtain ⟨b,o,rfl,s,c0,c1,c2⟩:=GrA.cells (H.step a) x.out;dsimp only at c0 c1 c2;have c:=H_ a;clear a)
  go_quiet (fail)
  go_wp2_with (go_at_call 185;(with_reducible refine CM (j _ _ (below_drewN c.out _)) ?_);rintro e w2 ⟨u,rfl,C,r⟩)
  go_ret2
  rw [l.out];exact ⟨_,rfl,C,e_ (below_drewN c.out _) r⟩
theorem bl_ {L:List Gr} (i:Nat) (g:Gr) (n:Int) (h:LA pB w S v L) (hi:L[i]?=some g) (ok:gD L) (hn:0<=n/\n<=64) (hS:∀b,w.heap.size<=b->S b) :
  C_ 200 #[v,I_ i,I_ n] w (gO_ (cU L i g n).1 (cU L i g n).2 S w):=by
 obtain ⟨A,cap,rfl,y,z⟩:=h.form;have B:=bI hi;obtain ⟨D,E,F,G,I,J⟩:=ok.each g (gL hi);have f:=fun w' (hb:s_ w w')=>oI (h.step hb) ok;have d:=fun (m:Int) w' (hb:s_ w w')=>vO i g m (h.step hb) hi (by have:=ok.few;omega) (fun b l=>hS b (eF hb.size l));have H:=H_ h;have x:=H_ hi;have N:(0:Int)<=(i:Int):=O_
 have O:(i:Int)<(L.length:Int):=O_
 have K:decide (n<0)=false:=dF O_;have M:decide (64<n)=false:=dF O_;clear h hi hS ok;obtain ⟨s,t,j⟩:=g
 dsimp only at D E F G I J
 by_cases q:j<n
 ·have k:=H_ (show cU L i ⟨s,t,j⟩ n=(L,4) by unfold cU;rw [if_pos q]);clear d;go_enter func200,ntmps200
  go_wp2_with (go_at_call 82;(with_reducible refine CM (f _ B_) ?_);rintro e w1 ⟨rfl,a⟩;obtain ⟨b,o,rfl,r,c0,c1,c2⟩:=GrA.cells (H.step a) x.out;dsimp only at c0 c1 c2;have c:=H_ a;clear a)
  go_ret2
  rw [k.out];exact ⟨_,rfl,H.step c.out,c.out⟩
 ·have k:=H_ (show cU L i ⟨s,t,j⟩ n=(L.set i {limit:=s,protect:=t,charge:=j - n},0) by unfold cU;rw [if_neg q]);go_enter func200,ntmps200
  go_wp2_with (first
   | (go_at_call 82;(with_reducible refine CM (f _ B_) ?_);rintro e w1 ⟨rfl,a⟩;obtain ⟨b,o,rfl,r,c0,c1,c2⟩:=GrA.cells (H.step a) x.out;dsimp only at c0 c1 c2;have c:=H_ a;clear a)
   | (go_at_call 185;(with_reducible refine CM (d _ _ c.out) ?_);rintro e w2 ⟨u,rfl,C,p⟩))
  go_ret2
  rw [k.out];exact ⟨_,rfl,C,e_ c.out p⟩
end
section
structure Pt where
 proc:Int
 page:Int
 frame:Int
 wr:Bool
 acc:Bool
def Pt.row (p:Pt):List Value:=[I_ p.proc,I_ p.page,I_ p.frame,.bool p.wr,.bool p.acc]
def lL:RR Pt 5:=RR.flat Pt.row (fun a=>⟨rfl,fun u hu=>by
 simp only[Pt.row,qL,List.not_mem_nil,or_false] at hu
 rcases hu with rfl | rfl | rfl | rfl | rfl <;> rfl⟩)
abbrev sH (a b c:Int) (d e:Bool):Value:= .agg #[I_ a,I_ b,I_ c,.bool d,.bool e]
theorem go_:(prog.info? 164).map (fun i=>(i.zero,i.size,i.bytes))=some (some (.agg #[I_ 0,I_ 0,I_ 0,.bool false,.bool false]),5,32):=by kernel_rfl
theorem pX:tA prog 28 164 5:=by
 obtain ⟨i,h1,h2,h3,h4⟩:=info_parts go_;exact ⟨i,_,32,underlying28,h1,h2,h3,h4,rfl,O_,O_⟩
def lH (p:Pt):Prop:=0<=p.proc/\p.proc<8/\0<=p.page/\p.page<64/\1<=p.frame/\p.frame<=64
def aV (a b:Pt):Bool:=decide (a.proc<b.proc\/(a.proc=b.proc/\a.page<b.page))
structure dZ (L:List Pt):Prop where
 each:∀p ∈ L,lH p
 asc:L.Pairwise (fun a b=>aV a b=true)
theorem dZ.len {L:List Pt} (h:dZ L):L.length<=512:=by
 have k:(L.map (fun p=>p.proc*64+p.page+1)).Nodup:=by
  show List.Pairwise (fun a b=>a≠b) _
  rw [List.pairwise_map];have h1:L.Pairwise (fun a b=>lH a/\lH b/\aV a b=true):=by
   have:=h.asc;rw [List.pairwise_iff_getElem] at this ⊢;intro i j d f c;exact ⟨h.each _ (gM_ d),h.each _ (gM_ f),this i j d f c⟩
  refine h1.imp fun {a b} hab=>?_;obtain ⟨⟨a1,a2,a3,a4,_⟩,⟨m,n,o,q,_⟩,hl⟩:=hab;have hl:=of_decide_eq_true hl;omega
 have:=uE 512 _ k (fun x l=>by
  obtain ⟨p,g,rfl⟩:=List.mem_map.1 l;obtain ⟨a1,a2,a3,a4,_⟩:=h.each p g;omega)
 rwa [mL_] at this
theorem PtA.cells {n:Nat} {L:List Pt} (h:LA lL w S (S_ A n cap) L) {g:Pt} (hi:L[i]?=some g):∃b o,A=some ⟨b,o,none⟩/\b<w.heap.size/\
  w.cell? ⟨b,o+i*5,none⟩=some (I_ g.proc)/\w.cell? ⟨b,o+i*5+1,none⟩=some (I_ g.page)/\w.cell? ⟨b,o+i*5+2,none⟩=some (I_ g.frame)/\w.cell? ⟨b,o+i*5+3,none⟩=some (.bool g.wr)/\w.cell? ⟨b,o+i*5+4,none⟩=some (.bool g.acc):=by
 obtain ⟨b,o,cap',r,hv,c1,c2,hb,hS,hp,hc⟩:=h.at_ hi;injection hv with e1 _ _
 have hp:r=g.row:=hp;subst hp;exact ⟨b,o,e1,hb,hc 0 _ rfl,hc 1 _ rfl,hc 2 _ rfl,hc 3 _ rfl,hc 4 _ rfl⟩
theorem ah_ (a b c:Int) (d e:Bool) (w:World) (h:lH ⟨a,b,c,d,e⟩):C_ 157 #[sH a b c d e] w (cG true w):=by
 obtain ⟨h1,h2,h3,h4,h5,h6⟩:=h
 dsimp only at h1 h2 h3 h4 h5 h6
 go_enter func157,ntmps157;go_wp2;go_ret;exact ⟨rfl,a_ B_ _⟩
theorem iK (a b c:Int) (d e:Bool) (a' b' c':Int) (d' e':Bool) (w:World):C_ 158 #[sH a b c d e,sH a' b' c' d' e'] w (cG (aV ⟨a,b,c,d,e⟩ ⟨a',b',c',d',e'⟩) w):=by
 by_cases g:a<a'
 ·have f:=H_ (show aV ⟨a,b,c,d,e⟩ ⟨a',b',c',d',e'⟩=true by unfold aV;exact dT (.inl g));have j:decide (a<a')=true:=dT g;go_enter func158,ntmps158;go_wp2;go_ret;exact ⟨by rw [f.out];rfl,a_ (a_ B_ _) _⟩
 ·have j:decide (a<a')=false:=dF g
  by_cases i:a=a'
  ·subst i;have f:=H_ (show aV ⟨a,b,c,d,e⟩ ⟨a,b',c',d',e'⟩=decide (b<b') by unfold aV;simp);clear g j;go_enter func158,ntmps158;go_wp2;go_ret;exact ⟨by rw [f.out];rfl,a_ (a_ B_ _) _⟩
  ·have f:=H_ (show aV ⟨a,b,c,d,e⟩ ⟨a',b',c',d',e'⟩=false by unfold aV;exact dF (fun h=>h.elim g (fun h=>i h.1)));have k:(a == a')=false:=by simp [i]
   have l:decide (a=a')=false:=dF i;go_enter func158,ntmps158;go_wp2;go_ret;exact ⟨by rw [f.out];rfl,a_ (a_ B_ _) _⟩
theorem oP {L:List Pt} (h:LA lL w S v L) (ok:dZ L):C_ 100 #[v] w (cG true w):=by
 obtain ⟨A,cap,rfl,J,s⟩:=h.form;have H:=H_ h;have D:=H_ ok.each;have n:=H_ ok.asc;have C:=ok.len;unfold maxLen at s;clear h ok;go_enter func100,ntmps100;go_wp2
 go_loopw [3] (fun i wx=>∃k:Nat,i = I_ k/\k<=L.length/\s_ w wx) (fun i _=>L.length - (intOf i).toNat)
 case atStart=>exact ⟨0,rfl,O_,aP _ _⟩
 case round=>
  obtain ⟨k,rfl,hk,B⟩:=hrel;have c:=H_ B;clear B
  by_cases f:k<L.length
  ·obtain ⟨x,g⟩:∃x,L[k]?=some x:=⟨_,cY f⟩;obtain ⟨b,o,rfl,I,c0,c1,c2,p,q⟩:=PtA.cells (H.step c.out) g;have l:=fun w'=>ah_ x.proc x.page x.frame x.wr x.acc w' (D x (gL g))
   cases k with
   | zero=>
    rw [Nat.zero_mul,Nat.add_zero] at c0 c1 c2 p q;obtain ⟨V,R,fr,u,E⟩:=x
    dsimp only at c0 c1 c2 p q l
    have Y:=R_ wr;clear g
    go_upto_region 4 with fail
    refine w_ q_ q_ ?_
    repeat (go_big_quiet_step ((with_reducible exact E_ (l _))))
    refine wpQuiet_nil ?_;rintro w' ⟨z,rfl⟩;go_wp2;go_roundw
    case rel=>exact ⟨1,rfl,O_,e_ c.out (p_ _ _)⟩
    case measure=>exact bV
   | succ m=>
    obtain ⟨y,t⟩:∃y,L[m]?=some y:=⟨_,cY O_⟩;obtain ⟨b',o',r,_,M,N,O,P,Q⟩:=PtA.cells (H.step c.out) t;injection r with r
    injection r with e4 e5
    subst e4 e5;have a:=fun w'=>iK y.proc y.page y.frame y.wr y.acc x.proc x.page x.frame x.wr x.acc w';have j:aV y x=true:=by
     have:=List.pairwise_iff_getElem.1 n.out m (m+1) O_ f O_;rw [<-(List.getElem?_eq_some_iff.1 t).2,<-(List.getElem?_eq_some_iff.1 g).2];exact this
    have a:∀w',C_ 158 #[sH y.proc y.page y.frame y.wr y.acc,sH x.proc x.page x.frame x.wr x.acc] w' (cG true w'):=fun w'=>by
     have:=a w';rw [show aV ⟨y.proc,y.page,y.frame,y.wr,y.acc⟩ ⟨x.proc,x.page,x.frame,x.wr,x.acc⟩=true from j] at this;exact this
    obtain ⟨V,R,fr,u,E⟩:=x;obtain ⟨W,U,G,X,F⟩:=y
    dsimp only at c0 c1 c2 p q M N O P Q l a
    have Y:=R_ wr;have w1:i64.wrap (m:Int)=(m:Int):=gJ O_;have g0:(0:Int)<(m:Int)+1:=O_
    have Z:(0:Int)<=(m:Int)+1:=O_
    have b1:(m:Int)+1<(L.length:Int):=O_
    have b2:((m:Int)+1).toNat=m+1:=O_
    have b3:m<L.length:=O_
    clear g t j
    go_upto_region 4 with fail
    refine w_ q_ q_ ?_
    repeat (first | (refine wpQuiet_step (fun K d=>?_);go_simp;(with_reducible refine d _ ?_);clear d K) | (refine wpQuiet_step (fun K d=>?_);go_simp;apply Exists.intro;refine ⟨fun _=>?_,d _ ?_⟩;(first | (with_reducible exact E_ (l _)) | (with_reducible exact E_ (a _)));clear d K))
    refine wpQuiet_nil ?_;rintro w' ⟨z,rfl⟩;go_wp2;go_roundw
    case rel=>exact ⟨m+2,by go_num,O_,e_ c.out (p_ _ _)⟩
    case measure=>exact bV
  ·obtain rfl:k=L.length:=O_
   go_wp2;go_ret
   exact ⟨rfl,c.out⟩
end
section
def dr_ (L:List Pt) (S:Nat->Prop) (w:World) (e:Ending) (w':World):Prop:=∃v,e = .returned v/\LA lL w' S v L/\s_ w w'
def iE_ (L:List Pt) (err:Int) (S:Nat->Prop) (w:World) (e:Ending) (w':World):Prop:=∃v,e = .returned (.tuple #[v,I_ err])/\LA lL w' S v L/\s_ w w'
def gU (L:List Pt) (f:Int):List Pt:=L.filter (fun p=>p.frame != f)
theorem aN_ {L:List Pt} {f:Int} {x:Pt} (h:L[k]?=some x):gU (L.take (k+1)) f=gU (L.take k) f ++ if x.frame != f then [x] else []:=by
 unfold gU;rw [List.take_add_one,h,Option.toList_some,List.filter_append,List.filter_cons,List.filter_nil]
theorem cv_ (L:List Pt) (f:Int):(gU L f).length<=L.length:=List.length_filter_le _ _
theorem hs_ {L:List Pt} (f:Int) (h:LA lL w S v L) (ok:dZ L) (hS:∀b,w.heap.size<=b->S b):C_ 198 #[v,I_ f] w (dr_ (gU L f) S w):=by
 obtain ⟨A,cap,rfl,hc,E⟩:=h.form;have p:=oP h ok;have B:=ok.len;have H:=H_ h;clear h ok;unfold maxLen at E;go_enter func198,ntmps198
 go_wp2_with (go_at_call 100;(with_reducible refine CM (p) ?_);rintro e w1 ⟨rfl,j⟩;have n:=H_ j;clear j)
 go_loopw [5,6] (fun u i wx=>∃k:Nat,i = I_ k/\k<=L.length/\LO lL 164 wx (w) S u (gU (L.take k) f)/\s_ w wx) (fun _ i _=>L.length - (intOf i).toNat)
 case atStart=>exact ⟨0,rfl,O_,LO.nil _ _ _ _ _,n.out⟩
 case round=>
  obtain ⟨k,rfl,I,C,m⟩:=hrel;have g:=H_ C;have d:=H_ m;clear C m
  by_cases r:k<L.length
  ·obtain ⟨x,t⟩:∃x,L[k]?=some x:=⟨_,cY r⟩;obtain ⟨b,o,rfl,D,c0,c1,c2,F,G⟩:=PtA.cells (H.step d.out) t;have y:=H_ (aN_ (f:=f) t);have s:=cv_ (L.take k) f;rw [List.length_take] at s;clear t
   by_cases l:x.frame=f
   ·have a:=H_ (show gU (L.take (k+1)) f=gU (L.take k) f by rw [y.out];simp [l]);go_wp2;go_roundw
    case rel=>exact ⟨k+1,by go_num,O_,by rw [a.out];exact g,d.out⟩
    case measure=>exact bV
   ·have a:=H_ (show gU (L.take (k+1)) f=gU (L.take k) f ++ [x] by rw [y.out];simp [l])
    go_wp2_with (at_builtin;(refine M_ pX rfl (.tmp 24) (.tmp 29) rfl S rfl (g.alloc _) (by have:=d.size;simp;omega) O_ #[I_ x.proc,I_ x.page,I_ x.frame,.bool x.wr,.bool x.acc] rfl (l_ _ _ _ rfl) x rfl ?_);intro v4 w4 c q z)
    go_roundw
    case rel=>exact ⟨k+1,by go_num,O_,by rw [a.out];exact c,(a_ d.out _).grown q (a_ d.out _).size (fun b m=>(g.own m).1)⟩
    case measure=>exact bV
  ·obtain rfl:k=L.length:=O_
   rw [List.take_length] at g;go_wp2;go_ret;exact ⟨_,rfl,g.la (fun _ _ h=>h) hS,d.out⟩
def eZ (f:Int) (p:Pt):Pt:=if p.frame=f then {p with wr:=false} else p
def mM (L:List Pt) (f:Int) (k:Nat):List Pt:=(L.take k).map (eZ f) ++ L.drop k
theorem eY_ {l:List α} {x:α} (h:l[k]?=some x):l.set k x=l:=by
 obtain ⟨hk,rfl⟩:=List.getElem?_eq_some_iff.1 h;exact List.set_getElem_self hk
theorem eZ_ {L:List Pt} {f:Int} {x:Pt} (h:L[k]?=some x):(mM L f k)[k]?=some x/\(mM L f k).set k (eZ f x)=mM L f (k+1):=by
 obtain ⟨a,rfl⟩:=List.getElem?_eq_some_iff.1 h;have hl:((L.take k).map (eZ f)).length=k:=by rw [mL_,List.length_take];omega
 unfold mM
 constructor
 ·rw [List.getElem?_append_right O_,hl,Nat.sub_self,List.getElem?_drop];simp
 ·rw [List.set_append_right _ _ O_,hl,Nat.sub_self,List.drop_eq_getElem_cons a,List.set_cons_zero,List.take_add_one,cY a];simp only[Option.toList_some,List.map_append,List.map_cons,List.map_nil,List.append_assoc,List.singleton_append]
theorem rK (L:List Pt) (f:Int) (k:Nat):(mM L f k).length=L.length:=by unfold mM;simp;omega
theorem c5_ (L:List Pt) (f:Int):mM L f L.length=L.map (eZ f):=by unfold mM;rw [List.take_length,List.drop_length,List.append_nil]
theorem cW_ {L:List Pt} (f:Int) (h:LA lL w S v L) (ok:dZ L) (hS:∀b,w.heap.size<=b->S b):C_ 56 #[v,I_ f] w (dr_ (L.map (eZ f)) S w):=by
 obtain ⟨A,cap,rfl,hc,V⟩:=h.form;have K:=oP h ok;have N:=ok.len;have H:=H_ h;clear h ok;unfold maxLen at V;go_enter func56,ntmps56
 go_upto_region 4 with (first
  | (go_at_call 100;(with_reducible refine CM (K) ?_);rintro e w1 ⟨rfl,z⟩;have d:=H_ z;clear z)
  | (at_builtin;refine cH lL pX rfl _ _ rfl rfl _ S L rfl (H.step d.out) O_ ?_;intro v4 w4 c B))
 have u:=d.grown B d.size (fun b y=>by cases y);have s:=H_ u;have g:=H_ (c.base_le d.size);clear c B u
 by_cases J:L=[]
 ·subst J;obtain ⟨W,dS,rfl,P,M⟩:=(g.la (S':=iF) (fun _ _ _=>trivial) (fun _ _=>trivial)).form;go_wp2
  go_loopw [6] (fun i wx=>i = I_ 0/\wx=w4) (fun i _=>0)
  case atStart=>exact ⟨rfl,rfl⟩
  case round=>
   obtain ⟨rfl,rfl⟩:=hrel;go_wp2;go_ret;exact ⟨_,rfl,g.la (fun _ _ h=>h) hS,s.out⟩
 ·obtain ⟨G,U,rfl,P,M,Q,D⟩:=g.lw (List.length_pos_iff.2 J);have R:=H_ (show LW lL w4 (fun b=>S b/\b≠G) G (mM L f 0) by unfold mM;simpa using D);clear D g J;unfold maxLen at M;go_wp2
  go_loopw [6] (fun i wx=>∃k:Nat,i = I_ k/\k<=L.length/\LW lL wx (fun b=>S b/\b≠G) G (mM L f k)/\s_ w wx) (fun i _=>L.length - (intOf i).toNat)
  case atStart=>exact ⟨0,rfl,O_,R.out,s.out⟩
  case round=>
   obtain ⟨k,rfl,Z,E,y⟩:=hrel;have I:=H_ y;have n:=H_ E
   by_cases C:k<L.length
   ·obtain ⟨x,O⟩:∃x,L[k]?=some x:=⟨_,cY C⟩;obtain ⟨q,l⟩:=eZ_ (f:=f) O;obtain ⟨r,o,hc⟩:=E.at_ q;have o:r=x.row:=o;subst o;have c2:wr.cell? ⟨G,k*5+2,none⟩=some (I_ x.frame):=hc 2 _ rfl;have X:wr.cell? ⟨G,k*5+3,none⟩=some (.bool x.wr):=hc 3 _ rfl;have Y:=(E.slot (i:=k) (p:=3) (by rw [rK];exact C) O_).2;have t:=H_ q;have j:=H_ l;clear O q l hc E y
    by_cases F:x.frame=f
    ·have m:=H_ (show eZ f x={x with wr:=false} by unfold eZ;rw [if_pos F])
     go_wp2;go_roundw
     case rel=>exact ⟨k+1,by go_num,O_,by
      have:=n.setOne (i:=k) (p:=3) (a:=x) (a':={x with wr:=false}) (v:= .bool false) t.out O_ rfl (fun r o=>by
       have o:r=x.row:=o;subst o
       rfl)
      rw [<-m.out,j.out] at this;exact this,aT I.out _ _ Q⟩
     case measure=>exact bV
    ·have m:=H_ (show eZ f x=x by unfold eZ;rw [if_neg F]);go_wp2;go_roundw
     case rel=>exact ⟨k+1,by go_num,O_,by
      have:=n.out;rw [<-j.out,m.out,eY_ t.out];exact this,I.out⟩
     case measure=>exact bV
   ·obtain rfl:k=L.length:=O_
    clear E y;go_wp2;go_ret;refine ⟨_,rfl,?_,I.out⟩;have:=n.la (S':=S) (cap:=U) (hS G Q) (fun b _ h=>h.1) (by rw [rK];exact P) (by unfold maxLen;exact M);rw [rK,c5_] at this;exact this
end
section
theorem rY {a b c:Pt} (h1:aV a b=true) (h2:aV b c=true):aV a c=true:=by
 have h1:=of_decide_eq_true h1;have h2:=of_decide_eq_true h2;exact dT O_
theorem uB {a b:Pt} (h1:aV a b=true):aV b a=false:=by
 have h1:=of_decide_eq_true h1;exact dF O_
def eD (L:List Pt) (e:Pt):List Pt:=L.filter (aV · e) ++ e :: L.filter (aV e ·)
def cM (L:List Pt) (e:Pt) (k:Nat) (d:Bool):List Pt:=if d then eD (L.take k) e else L.take k
def eC (L:List Pt) (e:Pt) (k:Nat) (d:Bool):Prop:=if d then ∃y ∈ L.take k,aV y e=false else ∀y ∈ L.take k,aV y e=true
theorem rT {l:List Pt} {e x:Pt} (h:aV x e=false):eD (l ++ [x]) e=eD l e ++ if aV e x then [x] else []:=by
 unfold eD;rw [List.filter_append,List.filter_append,List.filter_cons,List.filter_cons,List.filter_nil,List.filter_nil,h];simp
theorem tT {l:List Pt} {e:Pt} (h:∀y ∈ l,aV y e=true):eD l e=l ++ [e]:=by
 unfold eD;rw [List.filter_eq_self.2 h,List.filter_eq_nil_iff.2 (fun y hy=>by rw [uB (h y hy)];simp)]
theorem bB {L:List α} {x:α} (hx:L[k]?=some x):L.take (k+1)=L.take k ++ [x]:=by rw [List.take_add_one,hx];rfl
theorem hi_ {L:List Pt} (h:L.Pairwise (fun a b=>aV a b=true)) {x y:Pt} (hx:L[k]?=some x) (hy:y ∈ L.take k):aV y x=true:=by
 obtain ⟨hk,rfl⟩:=List.getElem?_eq_some_iff.1 hx;obtain ⟨i,hi,rfl⟩:=List.getElem_of_mem hy;rw [List.length_take] at hi;rw [List.getElem_take];exact List.pairwise_iff_getElem.1 h i k O_ hk O_
theorem eC.t {L:List Pt} {e x:Pt} (h:L.Pairwise (fun a b=>aV a b=true)) (hb:eC L e k true) (hx:L[k]?=some x):aV x e=false/\eC L e (k+1) true/\cM L e (k+1) true=cM L e k true ++ if aV e x then [x] else []:=by
 obtain ⟨y,d,c⟩:=hb;have h1:aV x e=false:=by
  cases hxe:aV x e with
  | false=>rfl
  | true=>rw [rY (hi_ h hx d) hxe] at c;cases c
 refine ⟨h1,⟨y,by rw [bB hx];exact List.mem_append_left _ d,c⟩,?_⟩
 show eD (L.take (k+1)) e=_
 rw [bB hx,rT h1]
 rfl
theorem eC.f {L:List Pt} {e x:Pt} (hb:eC L e k false) (hx:L[k]?=some x) (hl:aV x e=true):eC L e (k+1) false/\cM L e (k+1) false=cM L e k false ++ [x]:=by
 refine ⟨fun y hy=>?_,bB hx⟩;rw [bB hx] at hy
 rcases List.mem_append.1 hy with hy | hy
 ·exact hb y hy
 ·simp at hy;subst hy;exact hl
theorem eC.now {L:List Pt} {e x:Pt} (hb:eC L e k false) (hx:L[k]?=some x) (hl:aV x e=false):eC L e (k+1) true/\cM L e (k+1) true=(cM L e k false ++ [e]) ++ if aV e x then [x] else []:=by
 refine ⟨⟨x,by rw [bB hx];simp,hl⟩,?_⟩
 show eD (L.take (k+1)) e=_
 rw [bB hx,rT hl,tT hb]
 rfl
theorem eC.endT {L:List Pt} {e:Pt}:cM L e L.length true=eD L e:=by show eD (L.take L.length) e=_;rw [List.take_length]
theorem eC.endF {L:List Pt} {e:Pt} (h:eC L e L.length false):cM L e L.length false ++ [e]=eD L e:=by
 show L.take L.length ++ [e]=_
 have h':∀y ∈ L.take L.length,aV y e=true:=h;rw [List.take_length] at h' ⊢;exact (tT h').symm
theorem aQ_ (L:List Pt) (e:Pt) (k:Nat) (d:Bool):(cM L e k d).length<=2*L.length+1:=by
 unfold cM
 split
 ·unfold eD;have h1:=List.length_filter_le (aV · e) (L.take k);have h2:=List.length_filter_le (aV e ·) (L.take k);have h3:(L.take k).length<=L.length:=by rw [List.length_take];omega
  rw [aL_,cL_];omega
 ·rw [List.length_take];omega
theorem dZ.enter {L:List Pt} {e:Pt} (h:dZ L) (he:lH e):dZ (eD L e):=by
 refine ⟨fun p c=>?_,?_⟩
 ·unfold eD at c
  rcases List.mem_append.1 c with c | c
  ·exact h.each p (List.mem_filter.1 c).1
  ·rcases List.mem_cons.1 c with rfl | c
   ·exact he
   ·exact h.each p (List.mem_filter.1 c).1
 ·unfold eD;rw [List.pairwise_append,List.pairwise_cons];refine ⟨h.asc.filter _,⟨fun y g=>(List.mem_filter.1 g).2,h.asc.filter _⟩,fun a f b d=>?_⟩;have h1:=(List.mem_filter.1 f).2
  rcases List.mem_cons.1 d with rfl | d
  ·exact h1
  ·exact rY h1 (List.mem_filter.1 d).2
theorem dZ.drop {L:List Pt} (h:dZ L) (f:Int):dZ (gU L f):=⟨fun p hp=>h.each p (List.mem_filter.1 hp).1,h.asc.filter _⟩
theorem dZ.shut {L:List Pt} (h:dZ L) (f:Int):dZ (L.map (eZ f)):=by
 have h0:∀p,(eZ f p).proc=p.proc/\(eZ f p).page=p.page/\(eZ f p).frame=p.frame:=fun p=>by unfold eZ;split <;> exact ⟨rfl,rfl,rfl⟩
 refine ⟨fun p k=>?_,?_⟩
 ·obtain ⟨q,l,rfl⟩:=List.mem_map.1 k;obtain ⟨c,d,g⟩:=h0 q;have:=h.each q l;unfold lH at this ⊢;rw [c,d,g];exact this
 ·rw [List.pairwise_map];refine h.asc.imp fun {a b} hab=>?_;obtain ⟨c,d,_⟩:=h0 a;obtain ⟨i,j,_⟩:=h0 b;unfold aV at hab ⊢;rw [c,d,i,j];exact hab
theorem cJ {w':World} {r:Option Nat} {o:Obj} (hg:w.grownBy w' r) (h:w.heap[g]?=some o) (hn:r≠some g):w'.heap[g]?=some o:=(hg.block g (n_ h) (fun e=>hn e.symm)).trans h
theorem eH_ {L:List Pt} (e:Pt) (S:Nat->Prop) (h:LA lL w S v L) (ok:dZ L) (he:lH e) (hS:∀b,w.heap.size<=b->S b) :
  C_ 207 #[v,sH e.proc e.page e.frame e.wr e.acc] w (iE_ (eD L e) 0 S w):=by
 obtain ⟨A,cap,rfl,hc,hm⟩:=h.form;have aw:=fun w' (Q:s_ w w')=>oP (h.step Q) ok;have az:=fun w'=>ah_ e.proc e.page e.frame e.wr e.acc w' he;have b0:=ok.len;have H:=H_ h;have av:=H_ ok.asc;have HE:=H_ (i_ w (.cells #[I_ e.proc,I_ e.page,I_ e.frame,.bool e.wr,.bool e.acc] 164));have HB:=H_ (a_ (aP (w) w) (.cells #[I_ e.proc,I_ e.page,I_ e.frame,.bool e.wr,.bool e.acc] 164));clear h ok he;unfold maxLen at hm;go_enter func207,ntmps207
 go_wp2_with (first
  | (go_at_call 100;(with_reducible refine CM (aw _ HB.out) ?_);rintro e w1 ⟨rfl,am⟩;have ap:=jC HB am;have ak:=fC HE am;clear am;obtain ⟨D,E,F,G,I⟩:=cs5 ak.out)
  | (go_at_call 157;(with_reducible refine CM (az _) ?_);rintro e w2 ⟨rfl,an⟩;have aq:=jC ap an;have ar:=fC ak an;clear an D E F G I))
 go_loopw [6,7,8] (fun u dv i wx=>∃(k:Nat) (d:Bool),i = I_ k/\dv = .bool d/\k<=L.length/\eC L e k d/\LO lL 164 wx (w+1) S u (cM L e k d)/\s_ w wx/\bA wx (w) #[I_ e.proc,I_ e.page,I_ e.frame,.bool e.wr,.bool e.acc] 164) (fun _ _ i _=>L.length - (intOf i).toNat)
 case atStart=>exact ⟨0,false,rfl,rfl,O_,fun y hy=>by simp at hy,LO.nil _ _ _ _ _,aq.out,ar.out⟩
 case round=>
  clear ap aq ak ar HB HE;obtain ⟨k,d,rfl,rfl,hk,hi,ho,Q,he⟩:=hrel;obtain ⟨HO,HB,HE,HI⟩:=rW ho Q he hi;have b1:=aQ_ L e k d;have b2:=Q.size;have hp:=n_ he;clear ho Q hi he;obtain ⟨D,E,F,G,I⟩:=cs5 HE.out
  by_cases ax:k<L.length
  ·obtain ⟨x,hx⟩:∃x,L[k]?=some x:=⟨_,cY ax⟩;obtain ⟨b,o,rfl,g,c0,c1,c2,c3,c4⟩:=PtA.cells (H.step HB.out) hx;have a4:=H_ hx;clear hx
   cases d with
   | true=>
    obtain ⟨C,af,ag⟩:=HI.t av.out a4.out;have l1:∀w',C_ 158 #[sH x.proc x.page x.frame x.wr x.acc,sH e.proc e.page e.frame e.wr e.acc] w' (cG false w'):=fun w'=>by have:=iK x.proc x.page x.frame x.wr x.acc e.proc e.page e.frame e.wr e.acc w';rw [show aV ⟨x.proc,x.page,x.frame,x.wr,x.acc⟩ ⟨e.proc,e.page,e.frame,e.wr,e.acc⟩=false from C] at this;exact this
    cases hex:aV e x with
    | true=>
     have l2:∀w',C_ 158 #[sH e.proc e.page e.frame e.wr e.acc,sH x.proc x.page x.frame x.wr x.acc] w' (cG true w'):=fun w'=>by have:=iK e.proc e.page e.frame e.wr e.acc x.proc x.page x.frame x.wr x.acc w';rw [show aV ⟨e.proc,e.page,e.frame,e.wr,e.acc⟩ ⟨x.proc,x.page,x.frame,x.wr,x.acc⟩=true from hex] at this;exact this
     have X:=H_ (show eC L e (k+1) true/\cM L e (k+1) true=cM L e k true ++ [x] from ⟨af,by rw [ag,hex];rfl⟩);clear C af ag hex
     go_upto_region 10 with fail
     have U:=R_ wr;refine w_ q_ q_ ?_
     repeat (go_big_quiet_step ((first | (with_reducible exact E_ (l1 _)) | (with_reducible exact E_ (l2 _)))))
     refine wpQuiet_nil ?_;rintro w' ⟨z,rfl⟩;have a:=p_ wr z;clear U;generalize ext wr z=V at a;have B:=H_ (HO.step a);have r:=jC HB a;have l:=fC HE a;have c:=gX g a.size;have J:=(a.cell (p:=⟨b,_,none⟩) g).trans c0;have K:=(a.cell (p:=⟨b,_,none⟩) g).trans c1;have M:=(a.cell (p:=⟨b,_,none⟩) g).trans c2;have N:=(a.cell (p:=⟨b,_,none⟩) g).trans c3;have O:=(a.cell (p:=⟨b,_,none⟩) g).trans c4;clear a c0 c1 c2 c3 c4 D E F G I g;obtain ⟨D,E,F,G,I⟩:=cs5 l.out;have ah:=n_ l;have a2:=r.size
     go_upto_region 13 with fail
     have U:=R_ V;refine w_ q_ q_ ?_
     repeat (go_big_quiet_step ((first | (with_reducible exact E_ (l1 _)) | (with_reducible exact E_ (l2 _)))))
     refine wpQuiet_nil ?_;rintro w' ⟨z,rfl⟩;have a:=p_ V z;clear U;generalize ext V z=V at a;have s:=H_ (B.step a);have n:=jC r a;have m:=fC l a;have a1:=gX c a.size;have aa:=(a.cell (p:=⟨b,_,none⟩) c).trans J;have ab:=(a.cell (p:=⟨b,_,none⟩) c).trans K;have ac:=(a.cell (p:=⟨b,_,none⟩) c).trans M;have ad:=(a.cell (p:=⟨b,_,none⟩) c).trans N;have ae:=(a.cell (p:=⟨b,_,none⟩) c).trans O;clear a J K M N O D E F G I c;obtain ⟨D,E,F,G,I⟩:=cs5 m.out;have ai:=n_ m;have a3:=n.size
     go_wp2_with (at_builtin;(refine M_ pX rfl (.tmp 52) (.tmp 57) rfl S rfl (s.alloc _) (by simp;omega) O_ #[I_ x.proc,I_ x.page,I_ x.frame,.bool x.wr,.bool x.acc] rfl (l_ _ _ _ rfl) x rfl ?_);intro v5 w5 P W aj)
     go_roundw
     case rel=>exact ⟨k+1,true,by go_num,rfl,O_,X.out.1,by rw [X.out.2];exact P,(a_ n.out _).grown W (a_ n.out _).size (fun b Q=>by have:=(s.own Q).1;omega),cJ W (m_ m.out _) (fun h=>by have:=(s.own h).1;omega)⟩
     case measure=>exact bV
    | false=>
     have l2:∀w',C_ 158 #[sH e.proc e.page e.frame e.wr e.acc,sH x.proc x.page x.frame x.wr x.acc] w' (cG false w'):=fun w'=>by have:=iK e.proc e.page e.frame e.wr e.acc x.proc x.page x.frame x.wr x.acc w';rw [show aV ⟨e.proc,e.page,e.frame,e.wr,e.acc⟩ ⟨x.proc,x.page,x.frame,x.wr,x.acc⟩=false from hex] at this;exact this
     have X:=H_ (show eC L e (k+1) true/\cM L e (k+1) true=cM L e k true from ⟨af,by rw [ag,hex];simp⟩);clear C af ag hex
     go_upto_region 10 with fail
     have U:=R_ wr;refine w_ q_ q_ ?_
     repeat (go_big_quiet_step ((first | (with_reducible exact E_ (l1 _)) | (with_reducible exact E_ (l2 _)))))
     refine wpQuiet_nil ?_;rintro w' ⟨z,rfl⟩;have a:=p_ wr z;clear U;generalize ext wr z=V at a;have B:=H_ (HO.step a);have r:=jC HB a;have l:=fC HE a;have c:=gX g a.size;have J:=(a.cell (p:=⟨b,_,none⟩) g).trans c0;have K:=(a.cell (p:=⟨b,_,none⟩) g).trans c1;have M:=(a.cell (p:=⟨b,_,none⟩) g).trans c2;have N:=(a.cell (p:=⟨b,_,none⟩) g).trans c3;have O:=(a.cell (p:=⟨b,_,none⟩) g).trans c4;clear a c0 c1 c2 c3 c4 D E F G I g;obtain ⟨D,E,F,G,I⟩:=cs5 l.out;have ah:=n_ l;have a2:=r.size
     go_upto_region 13 with fail
     have U:=R_ V;refine w_ q_ q_ ?_
     repeat (go_big_quiet_step ((first | (with_reducible exact E_ (l1 _)) | (with_reducible exact E_ (l2 _)))))
     refine wpQuiet_nil ?_;rintro w' ⟨z,rfl⟩;have a:=p_ V z;clear U;generalize ext V z=V at a;have s:=H_ (B.step a);have n:=jC r a;have m:=fC l a;have a1:=gX c a.size;have aa:=(a.cell (p:=⟨b,_,none⟩) c).trans J;have ab:=(a.cell (p:=⟨b,_,none⟩) c).trans K;have ac:=(a.cell (p:=⟨b,_,none⟩) c).trans M;have ad:=(a.cell (p:=⟨b,_,none⟩) c).trans N;have ae:=(a.cell (p:=⟨b,_,none⟩) c).trans O;clear a J K M N O D E F G I c;obtain ⟨D,E,F,G,I⟩:=cs5 m.out;have ai:=n_ m;have a3:=n.size;go_wp2;go_roundw
     case rel=>exact ⟨k+1,true,by go_num,rfl,O_,X.out.1,by rw [X.out.2];exact s,n.out,m⟩
     case measure=>exact bV
   | false=>
    cases C:aV x e with
    | true=>
     have X:=H_ (HI.f a4 C);have l1:∀w',C_ 158 #[sH x.proc x.page x.frame x.wr x.acc,sH e.proc e.page e.frame e.wr e.acc] w' (cG true w'):=fun w'=>by have:=iK x.proc x.page x.frame x.wr x.acc e.proc e.page e.frame e.wr e.acc w';rw [show aV ⟨x.proc,x.page,x.frame,x.wr,x.acc⟩ ⟨e.proc,e.page,e.frame,e.wr,e.acc⟩=true from C] at this;exact this
     have l2:∀w',C_ 158 #[sH e.proc e.page e.frame e.wr e.acc,sH x.proc x.page x.frame x.wr x.acc] w' (cG false w'):=fun w'=>by have:=iK e.proc e.page e.frame e.wr e.acc x.proc x.page x.frame x.wr x.acc w';rw [show aV ⟨e.proc,e.page,e.frame,e.wr,e.acc⟩ ⟨x.proc,x.page,x.frame,x.wr,x.acc⟩=false from uB C] at this;exact this
     clear C
     go_upto_region 10 with fail
     have U:=R_ wr;refine w_ q_ q_ ?_
     repeat (go_big_quiet_step ((first | (with_reducible exact E_ (l1 _)) | (with_reducible exact E_ (l2 _)))))
     refine wpQuiet_nil ?_;rintro w' ⟨z,rfl⟩;have a:=p_ wr z;clear U;generalize ext wr z=V at a;have B:=H_ (HO.step a);have r:=jC HB a;have l:=fC HE a;have c:=gX g a.size;have J:=(a.cell (p:=⟨b,_,none⟩) g).trans c0;have K:=(a.cell (p:=⟨b,_,none⟩) g).trans c1;have M:=(a.cell (p:=⟨b,_,none⟩) g).trans c2;have N:=(a.cell (p:=⟨b,_,none⟩) g).trans c3;have O:=(a.cell (p:=⟨b,_,none⟩) g).trans c4;clear a c0 c1 c2 c3 c4 D E F G I g;obtain ⟨D,E,F,G,I⟩:=cs5 l.out;have ah:=n_ l;have a2:=r.size
     go_upto_region 13 with fail
     have U:=R_ V;refine w_ q_ q_ ?_
     repeat (go_big_quiet_step ((first | (with_reducible exact E_ (l1 _)) | (with_reducible exact E_ (l2 _)))))
     refine wpQuiet_nil ?_;rintro w' ⟨z,rfl⟩;have a:=p_ V z;clear U;generalize ext V z=V at a;have s:=H_ (B.step a);have n:=jC r a;have m:=fC l a;have a1:=gX c a.size;have aa:=(a.cell (p:=⟨b,_,none⟩) c).trans J;have ab:=(a.cell (p:=⟨b,_,none⟩) c).trans K;have ac:=(a.cell (p:=⟨b,_,none⟩) c).trans M;have ad:=(a.cell (p:=⟨b,_,none⟩) c).trans N;have ae:=(a.cell (p:=⟨b,_,none⟩) c).trans O;clear a J K M N O D E F G I c;obtain ⟨D,E,F,G,I⟩:=cs5 m.out;have ai:=n_ m;have a3:=n.size
     go_wp2_with (at_builtin;(refine M_ pX rfl (.tmp 52) (.tmp 57) rfl S rfl (s.alloc _) (by simp;omega) O_ #[I_ x.proc,I_ x.page,I_ x.frame,.bool x.wr,.bool x.acc] rfl (l_ _ _ _ rfl) x rfl ?_);intro v5 w5 P W aj)
     go_roundw
     case rel=>exact ⟨k+1,false,by go_num,rfl,O_,X.out.1,by rw [X.out.2];exact P,(a_ n.out _).grown W (a_ n.out _).size (fun b Q=>by have:=(s.own Q).1;omega),cJ W (m_ m.out _) (fun h=>by have:=(s.own h).1;omega)⟩
     case measure=>exact bV
    | false=>
     have l1:∀w',C_ 158 #[sH x.proc x.page x.frame x.wr x.acc,sH e.proc e.page e.frame e.wr e.acc] w' (cG false w'):=fun w'=>by have:=iK x.proc x.page x.frame x.wr x.acc e.proc e.page e.frame e.wr e.acc w';rw [show aV ⟨x.proc,x.page,x.frame,x.wr,x.acc⟩ ⟨e.proc,e.page,e.frame,e.wr,e.acc⟩=false from C] at this;exact this
     cases hex:aV e x with
     | true=>
      have l2:∀w',C_ 158 #[sH e.proc e.page e.frame e.wr e.acc,sH x.proc x.page x.frame x.wr x.acc] w' (cG true w'):=fun w'=>by have:=iK e.proc e.page e.frame e.wr e.acc x.proc x.page x.frame x.wr x.acc w';rw [show aV ⟨e.proc,e.page,e.frame,e.wr,e.acc⟩ ⟨x.proc,x.page,x.frame,x.wr,x.acc⟩=true from hex] at this;exact this
      have X:=H_ (show eC L e (k+1) true/\cM L e (k+1) true=(cM L e k false ++ [e]) ++ [x] by have:=HI.now a4 C;rw [hex] at this;exact this);clear C hex
      go_upto_region 10 with fail
      have U:=R_ wr;refine w_ q_ q_ ?_
      repeat (go_big_quiet_step ((first | (with_reducible exact E_ (l1 _)) | (with_reducible exact E_ (l2 _)))))
      refine wpQuiet_nil ?_;rintro w' ⟨z,rfl⟩;have a:=p_ wr z;clear U;generalize ext wr z=V at a;have B:=H_ (HO.step a);have r:=jC HB a;have l:=fC HE a;have c:=gX g a.size;have J:=(a.cell (p:=⟨b,_,none⟩) g).trans c0;have K:=(a.cell (p:=⟨b,_,none⟩) g).trans c1;have M:=(a.cell (p:=⟨b,_,none⟩) g).trans c2;have N:=(a.cell (p:=⟨b,_,none⟩) g).trans c3;have O:=(a.cell (p:=⟨b,_,none⟩) g).trans c4;clear a c0 c1 c2 c3 c4 D E F G I g;obtain ⟨D,E,F,G,I⟩:=cs5 l.out;have ah:=n_ l;have a2:=r.size
      go_upto_region 13 with (at_builtin;(refine M_ pX rfl (.tmp 34) (.tmp 36) rfl S rfl (B.alloc _) (by simp;omega) O_ #[I_ e.proc,I_ e.page,I_ e.frame,.bool e.wr,.bool e.acc] rfl (l_ _ _ _ rfl) e rfl ?_);intro v4 w4 q R a0)
      have al:=H_ q;have Y:=H_ ((a_ r.out _).grown R (a_ r.out _).size (fun b Q=>by have:=(B.own Q).1;omega));have Z:=H_ (cJ R (m_ l _) (fun h=>by have:=(B.own h).1;omega));have ao:=PtA.cells (H.step Y.out) a4;obtain ⟨b9,o9,e9,j,a5,a6,a7,a8,a9⟩:=ao;injection e9 with e9
      injection e9 with e91 e92
      subst e91 e92;clear q R a0 J K M N O D E F G I;obtain ⟨D,E,F,G,I⟩:=cs5 Z.out;have ay:=n_ Z;have au:=Y.size
      go_upto_region 13 with fail
      have U:=R_ w4;refine w_ q_ q_ ?_
      repeat (go_big_quiet_step ((first | (with_reducible exact E_ (l1 _)) | (with_reducible exact E_ (l2 _)))))
      refine wpQuiet_nil ?_;rintro w' ⟨z,rfl⟩;have a:=p_ w4 z;clear U;generalize ext w4 z=V at a;have s:=H_ (al.step a);have n:=jC Y a;have m:=fC Z a;have a1:=gX j a.size;have aa:=(a.cell (p:=⟨b,_,none⟩) j).trans a5;have ab:=(a.cell (p:=⟨b,_,none⟩) j).trans a6;have ac:=(a.cell (p:=⟨b,_,none⟩) j).trans a7;have ad:=(a.cell (p:=⟨b,_,none⟩) j).trans a8;have ae:=(a.cell (p:=⟨b,_,none⟩) j).trans a9;clear a a5 a6 a7 a8 a9 D E F G I j;obtain ⟨D,E,F,G,I⟩:=cs5 m.out;have ai:=n_ m;have a3:=n.size
      go_wp2_with (at_builtin;(refine M_ pX rfl (.tmp 52) (.tmp 57) rfl S rfl (s.alloc _) (by simp;omega) (by simp;omega) #[I_ x.proc,I_ x.page,I_ x.frame,.bool x.wr,.bool x.acc] rfl (l_ _ _ _ rfl) x rfl ?_);intro v5 w5 P W aj)
      go_roundw
      case rel=>exact ⟨k+1,true,by go_num,rfl,O_,X.out.1,by rw [X.out.2];exact P,(a_ n.out _).grown W (a_ n.out _).size (fun b Q=>by have:=(s.own Q).1;omega),cJ W (m_ m.out _) (fun h=>by have:=(s.own h).1;omega)⟩
      case measure=>exact bV
     | false=>
      have l2:∀w',C_ 158 #[sH e.proc e.page e.frame e.wr e.acc,sH x.proc x.page x.frame x.wr x.acc] w' (cG false w'):=fun w'=>by have:=iK e.proc e.page e.frame e.wr e.acc x.proc x.page x.frame x.wr x.acc w';rw [show aV ⟨e.proc,e.page,e.frame,e.wr,e.acc⟩ ⟨x.proc,x.page,x.frame,x.wr,x.acc⟩=false from hex] at this;exact this
      have X:=H_ (show eC L e (k+1) true/\cM L e (k+1) true=cM L e k false ++ [e] by have:=HI.now a4 C;rw [hex] at this;simpa using this);clear C hex
      go_upto_region 10 with fail
      have U:=R_ wr;refine w_ q_ q_ ?_
      repeat (go_big_quiet_step ((first | (with_reducible exact E_ (l1 _)) | (with_reducible exact E_ (l2 _)))))
      refine wpQuiet_nil ?_;rintro w' ⟨z,rfl⟩;have a:=p_ wr z;clear U;generalize ext wr z=V at a;have B:=H_ (HO.step a);have r:=jC HB a;have l:=fC HE a;have c:=gX g a.size;have J:=(a.cell (p:=⟨b,_,none⟩) g).trans c0;have K:=(a.cell (p:=⟨b,_,none⟩) g).trans c1;have M:=(a.cell (p:=⟨b,_,none⟩) g).trans c2;have N:=(a.cell (p:=⟨b,_,none⟩) g).trans c3;have O:=(a.cell (p:=⟨b,_,none⟩) g).trans c4;clear a c0 c1 c2 c3 c4 D E F G I g;obtain ⟨D,E,F,G,I⟩:=cs5 l.out;have ah:=n_ l;have a2:=r.size
      go_upto_region 13 with (at_builtin;(refine M_ pX rfl (.tmp 34) (.tmp 36) rfl S rfl (B.alloc _) (by simp;omega) O_ #[I_ e.proc,I_ e.page,I_ e.frame,.bool e.wr,.bool e.acc] rfl (l_ _ _ _ rfl) e rfl ?_);intro v4 w4 q R a0)
      have al:=H_ q;have Y:=H_ ((a_ r.out _).grown R (a_ r.out _).size (fun b Q=>by have:=(B.own Q).1;omega));have Z:=H_ (cJ R (m_ l _) (fun h=>by have:=(B.own h).1;omega));have ao:=PtA.cells (H.step Y.out) a4;obtain ⟨b9,o9,e9,j,a5,a6,a7,a8,a9⟩:=ao;injection e9 with e9
      injection e9 with e91 e92
      subst e91 e92;clear q R a0 J K M N O D E F G I;obtain ⟨D,E,F,G,I⟩:=cs5 Z.out;have ay:=n_ Z;have au:=Y.size
      go_upto_region 13 with fail
      have U:=R_ w4;refine w_ q_ q_ ?_
      repeat (go_big_quiet_step ((first | (with_reducible exact E_ (l1 _)) | (with_reducible exact E_ (l2 _)))))
      refine wpQuiet_nil ?_;rintro w' ⟨z,rfl⟩;have a:=p_ w4 z;clear U;generalize ext w4 z=V at a;have s:=H_ (al.step a);have n:=jC Y a;have m:=fC Z a;have a1:=gX j a.size;have aa:=(a.cell (p:=⟨b,_,none⟩) j).trans a5;have ab:=(a.cell (p:=⟨b,_,none⟩) j).trans a6;have ac:=(a.cell (p:=⟨b,_,none⟩) j).trans a7;have ad:=(a.cell (p:=⟨b,_,none⟩) j).trans a8;have ae:=(a.cell (p:=⟨b,_,none⟩) j).trans a9;clear a a5 a6 a7 a8 a9 D E F G I j;obtain ⟨D,E,F,G,I⟩:=cs5 m.out;have ai:=n_ m;have a3:=n.size;go_wp2;go_roundw
      case rel=>exact ⟨k+1,true,by go_num,rfl,O_,X.out.1,by rw [X.out.2];exact s,n.out,m⟩
      case measure=>exact bV
  ·obtain rfl:k=L.length:=O_
   cases d with
   | true=>
    rw [eC.endT] at HO;go_wp2
    go_ret2
    exact ⟨_,rfl,HO.la (fun _ _ h=>h) (fun b Q=>hS b O_),HB.out⟩
   | false=>
    have X:=H_ (HI.endF)
    go_wp2_with (at_builtin;(refine M_ pX rfl (.tmp 61) (.tmp 63) rfl S rfl (HO.alloc _) (by simp;omega) O_ #[I_ e.proc,I_ e.page,I_ e.frame,.bool e.wr,.bool e.acc] rfl (l_ _ _ _ rfl) e rfl ?_);intro v4 w4 q R a0)
    go_ret2
    rw [X.out] at q;exact ⟨_,rfl,q.la (fun _ _ h=>h) (fun b Q=>hS b O_),(a_ HB.out _).grown R (a_ HB.out _).size (fun b Q=>by have:=(HO.own Q).1;omega)⟩
end
section
structure Zn where
 first:Int
 size:Int
 mn:Int
 low:Int
 high:Int
 free:List Int
def ZnP (w:World) (S:Nat->Prop) (z:Zn) (r:List Value):Prop:=∃v,r=[I_ z.first,I_ z.size,I_ z.mn,I_ z.low,I_ z.high,v]/\LA Y_ w S v z.free
def pD:RR Zn 6 where
 p:=ZnP
 st w w' S a r hk h:=by obtain ⟨v,e,h⟩:=h;exact ⟨v,e,h.kept hk⟩
 wk w S S' a r hS h:=by obtain ⟨v,e,h⟩:=h;exact ⟨v,e,h.weak hS⟩
 sh w S a r h:=by
  obtain ⟨v,rfl,h⟩:=h;refine ⟨rfl,fun u hu=>?_⟩;simp only[qL,List.not_mem_nil,or_false] at hu
  rcases hu with rfl | rfl | rfl | rfl | rfl | rfl
  ·rfl
  ·rfl
  ·rfl
  ·rfl
  ·rfl
  ·exact h.oneCell
theorem gD_:(prog.info? 155).map (fun i=>(i.zero,i.size,i.bytes))=some (some (.agg #[I_ 0,I_ 0,I_ 0,I_ 0,I_ 0,S_ none 0 0]),6,64):=by kernel_rfl
theorem fj_:tA prog 25 155 6:=by
 obtain ⟨i,h1,h2,h3,h4⟩:=info_parts gD_;exact ⟨i,_,64,underlying25,h1,h2,h3,h4,rfl,O_,O_⟩
theorem gF_:(prog.info? 155).map (·.size)=some 6:=by kernel_rfl
def sR (L:List Zn):Int:=L.foldl (fun n z=>n+z.size) 1
theorem pR (L:List Zn) (z:Zn):sR (L ++ [z])=sR L+z.size:=by unfold sR;rw [List.foldl_append];rfl
structure aC_ (next:Int) (z:Zn):Prop where
 fst:z.first=next
 sz:1<=z.size/\z.size<=65 - next
 wm:0<=z.mn/\z.mn<=z.low/\z.low<=z.high/\z.high<=z.size
 rng:∀x ∈ z.free,z.first<=x/\x<z.first+z.size
 asc:z.free.Pairwise (·<·)
structure cB (L:List Zn):Prop where
 ne:0<L.length
 each:∀(i:Nat) (z:Zn),L[i]?=some z->aC_ (sR (L.take i)) z
theorem cB.nx {L:List Zn} (h:cB L):∀(k:Nat),k<=L.length->1+(k:Int)<=sR (L.take k)/\sR (L.take k)<=65
 | 0,_=>by simp [sR]
 | k+1,hk=>by
  obtain ⟨h1,h2⟩:=cB.nx h k O_;have hx:L[k]?=some L[k]:=cY O_;have h3:=(h.each k _ hx).sz;rw [bB hx,pR];omega
theorem cB.len {L:List Zn} (h:cB L):L.length<=64:=by have:=h.nx L.length (bE _);omega
theorem aC_.flen {z:Zn} (h:aC_ n z) (hn:1<=n):z.free.length<=64:=
 uE 64 _ (wC h.asc) (fun x hx=>by
  have h1:=h.rng x hx;have h2:=h.sz;have h3:=h.fst;omega)
theorem ZnA.cells {n:Nat} {L:List Zn} (h:LA pD w S (S_ A n cap) L) {z:Zn} (hi:L[i]?=some z):∃b o A' cap',A=some ⟨b,o,none⟩/\b<w.heap.size/\LA Y_ w S (S_ A' z.free.length cap') z.free/\z.free.length<=cap'/\cap'<=maxLen/\
  w.cell? ⟨b,o+i*6,none⟩=some (I_ z.first)/\w.cell? ⟨b,o+i*6+1,none⟩=some (I_ z.size)/\w.cell? ⟨b,o+i*6+2,none⟩=some (I_ z.mn)/\w.cell? ⟨b,o+i*6+3,none⟩=some (I_ z.low)/\w.cell? ⟨b,o+i*6+4,none⟩=some (I_ z.high)/\w.cell? ⟨b,o+i*6+5,none⟩=some (S_ A' z.free.length cap'):=by
 obtain ⟨b,o,cap',r,hv,c1,c2,c,j,d,hc⟩:=h.at_ hi;injection hv with e1 _ _
 obtain ⟨v,rfl,hf⟩:=d;obtain ⟨A',a,rfl,f,g⟩:=hf.form;exact ⟨b,o,A',a,e1,c,hf,f,g,hc 0 _ rfl,hc 1 _ rfl,hc 2 _ rfl,hc 3 _ rfl,hc 4 _ rfl,hc 5 _ rfl⟩
theorem lJ {L:List Zn} (h:LA pD w S v L) (ok:cB L):C_ 99 #[v] w (cG true w):=by
 obtain ⟨A,cap,rfl,a2,F⟩:=h.form;have H:=H_ h;have Q:=H_ ok;have Z:=ok.len;have n0:=ok.ne;have n1:(0:Int)<(L.length:Int):=O_
 unfold maxLen at F;clear h ok;go_enter func99,ntmps99;go_wp2
 go_loopw [3,4] (fun a i wx=>∃k:Nat,i = I_ k/\a = I_ (sR (L.take k))/\k<=L.length/\s_ w wx) (fun _ i _=>L.length - (intOf i).toNat)
 case atStart=>exact ⟨0,rfl,rfl,O_,aP _ _⟩
 case round=>
  obtain ⟨k,rfl,rfl,hk,r⟩:=hrel;have d:=H_ r;clear r;obtain ⟨x1,x2⟩:=Q.nx k hk
  by_cases I:k<L.length
  ·obtain ⟨z,C⟩:∃z,L[k]?=some z:=⟨_,cY I⟩;have t:=Q.each k z C;obtain ⟨b,o,A',cap',rfl,a1,g,q1,q2,c0,c1,c2,R,U,V⟩:=ZnA.cells (H.step d.out) C;have P:=H_ (show sR (L.take (k+1))=sR (L.take k)+z.size by rw [bB C,pR]);have G:=t.flen O_;obtain ⟨r1,⟨r2,r3⟩,⟨r4,r5,r6,r7⟩,N,O⟩:=t;obtain ⟨fi,c,mn,lo,l,fr⟩:=z
   dsimp only at g q1 q2 c0 c1 c2 R U V P G r1 r2 r3 r4 r5 r6 r7 N O
   subst r1;generalize sR (L.take k)=a at *;obtain ⟨E,D,f⟩:=eI N O g;have d1:(a != a)=false:=A_
   have d2:decide (c<1)=false:=dF O_;have d3:decide (65 - a<c)=false:=dF O_;have d4:decide (mn<0)=false:=dF O_;have d5:decide (lo<mn)=false:=dF O_;have d6:decide (l<lo)=false:=dF O_;have d7:decide (c<l)=false:=dF O_;unfold maxLen at q2;clear C g N O;go_wp2;have p:=H_ (i_ wr (.cells #[I_ a,I_ c,I_ mn,I_ lo,I_ l,S_ A' fr.length cap'] 155));have q:=H_ (a_ d.out (.cells #[I_ a,I_ c,I_ mn,I_ lo,I_ l,S_ A' fr.length cap'] 155));have n:=H_ (f.alloc (.cells #[I_ a,I_ c,I_ mn,I_ lo,I_ l,S_ A' fr.length cap'] 155));clear c0 c1 c2 R U V f
   go_loopw [6] (fun j wx=>∃m:Nat,j = I_ m/\m<=fr.length/\s_ w wx/\bA wx (wr) #[I_ a,I_ c,I_ mn,I_ lo,I_ l,S_ A' fr.length cap'] 155/\LA Y_ wx S (S_ A' fr.length cap') fr) (fun j _=>fr.length - (intOf j).toNat)
   case atStart=>exact ⟨0,rfl,O_,q.out,p.out,n.out⟩
   case round=>
    clear p q n d;obtain ⟨m,rfl,hm,r,B,Y⟩:=hrel;obtain ⟨d,p,f⟩:=eI r B Y;obtain ⟨p0,p1,p2,p3,p4,p5⟩:=cs6 B;have a3:=n_ B;clear r B Y
    by_cases s:m<fr.length
    ·obtain ⟨x,u⟩:∃x,fr[m]?=some x:=⟨_,cY s⟩;obtain ⟨b9,o9,X,hv,_,_,a0,_,c0⟩:=IL.cell f.out u;injection hv with e1 e2 e3
     obtain ⟨g1,g2⟩:=E.out x (gL u);have t1:decide (x<a)=false:=dF O_;have t2:decide (a+c<=x)=false:=dF O_;have w1:i64.wrap (a+c)=a+c:=gJ O_
     cases m with
     | zero=>
      rw [Nat.add_zero] at c0;subst e1;clear u e2 e3
      go_upto_region 11 with fail
      go_quiet (fail);go_wp2;go_roundw
      case rel=>exact ⟨1,rfl,O_,below_drewN d.out _,p.out,f.step (below_drewN B_ _)⟩
      case measure=>exact bV
     | succ m=>
      obtain ⟨y,K⟩:∃y,fr[m]?=some y:=⟨_,cY O_⟩;obtain ⟨b8,o8,W,J,_,_,_,_,c1⟩:=IL.cell f.out K;injection J with e4 _ _
      rw [e1] at e4;injection e4 with e4
      injection e4 with e5 e6
      subst e1 e5 e6;have M:y<x:=by
       have:=List.pairwise_iff_getElem.1 D.out m (m+1) O_ s O_;rw [<-(List.getElem?_eq_some_iff.1 K).2,<-(List.getElem?_eq_some_iff.1 u).2];exact this
      have t3:decide (x<=y)=false:=dF O_;have w2:i64.wrap ((m:Int)+1 - 1)=(m:Int):=by rw [gJ O_];omega
      have g0:(0:Int)<(m:Int)+1:=O_
      clear u K e2 e3 M
      go_upto_region 11 with fail
      go_quiet (fail);go_wp2;go_roundw
      case rel=>exact ⟨m+2,by go_num,O_,below_drewN d.out _,p.out,f.out.step (below_drewN B_ _)⟩
      case measure=>exact bV
    ·obtain rfl:m=fr.length:=O_
     go_wp2;go_roundw
     case rel=>exact ⟨k+1,by go_num,by rw [P.out],O_,d.out⟩
     case measure=>exact bV
  ·obtain rfl:k=L.length:=O_
   go_wp2;go_ret
   exact ⟨rfl,d.out⟩
end
end Go.Proofs.YtehfhnbpnaiogaaGreatDoor
