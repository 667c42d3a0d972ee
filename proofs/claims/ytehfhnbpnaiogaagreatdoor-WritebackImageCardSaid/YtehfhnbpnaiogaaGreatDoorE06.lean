/-
  Lemmas and contracts for the laws of this seat, part 6; several texts joined by a program.
-/
import Derived.Test.YtehfhnbpnaiogaaGreatDoorE05
import Derived.Test.YtehfhnbpnaiogaaGreatDoorE00
namespace Go.Proofs.YtehfhnbpnaiogaaGreatDoor
set_option linter.unusedVariables false
set_option linter.unusedSimpArgs false
set_option maxRecDepth 100000
set_option maxHeartbeats 16000000
open Go.RowKit Go.Proofs.Tryz IntKind
variable {A:Option Addr} {S:Nat->Prop} {a:Lr} {cap g k:Nat} {l:List Int} {n x:Int} {v v1 v2 v3:Value} {w:World}
section
def dQ:List Int->Int->List Int
 | [],n=>[n]
 | x :: l,n=>if n<x then n :: x :: l else x :: dQ l n
theorem an_:∀{l:List Int},(∃y ∈ l,n<y)->∀x,dQ (l ++ [x]) n=dQ l n ++ [x]
 | [],h,_=>by obtain ⟨y,hy,_⟩:=h;simp at hy
 | a :: l,h,x=>by
  simp only[List.cons_append,dQ]
  split
  ·rfl
  ·next hn=>
   rw [an_ (l:=l) (by
    obtain ⟨y,hy,hl⟩:=h
    rcases List.mem_cons.1 hy with rfl | hy
    ·exact absurd hl hn
    ·exact ⟨y,hy,hl⟩) x]
   rfl
theorem cb_:∀{l:List Int},(∀y ∈ l,¬n<y)->dQ l n=l ++ [n]
 | [],_=>rfl
 | a :: l,h=>by
  simp only[dQ,List.cons_append];rw [if_neg (h a (List.mem_cons_self ..)),cb_ fun y hy=>h y (List.mem_cons_of_mem _ hy)]
theorem ca_ (hx:n<x):∀{l:List Int},(∀y ∈ l,¬n<y)->dQ (l ++ [x]) n=l ++ [n,x]
 | [],_=>by simp [dQ,hx]
 | a :: l,h=>by
  simp only[dQ,List.cons_append];rw [if_neg (h a (List.mem_cons_self ..)),ca_ hx fun y hy=>h y (List.mem_cons_of_mem _ hy)]
theorem iQ:∀{l:List Int},x ∈ dQ l n↔x=n\/x ∈ l
 | []=>by simp [dQ]
 | a :: l=>by
  simp only[dQ]
  split
  ·simp
  ·simp only[qJ,iQ (l:=l)]
   constructor
   ·rintro (h | h | h) <;> simp [h]
   ·rintro (h | h | h) <;> simp [h]
theorem uG:∀{l:List Int},l.Pairwise (·<·)->n ∉ l->(dQ l n).Pairwise (·<·)
 | [],_,_=>by simp [dQ]
 | a :: l,h,hn=>by
  rw [List.pairwise_cons] at h;simp only[dQ]
  split
  ·next hlt=>
   rw [List.pairwise_cons,List.pairwise_cons];exact ⟨fun y hy=>by rcases List.mem_cons.1 hy with rfl | hy;exact hlt;have:=h.1 y hy;omega,h⟩
  ·next hge=>
   rw [List.pairwise_cons];refine ⟨fun y hy=>?_,uG h.2 fun hm=>hn (List.mem_cons_of_mem _ hm)⟩
   rcases iQ.1 hy with rfl | hy
   ·have:a≠y:=fun e=>hn (e ▸ List.mem_cons_self ..);omega
   ·exact h.1 y hy
theorem ao_ (n:Int):∀(l:List Int),(dQ l n).length=l.length+1
 | []=>rfl
 | a :: l=>by
  simp only[dQ]
  split
  ·rfl
  ·simp [ao_ n l]
def jE (l:List Int) (n:Int) (k:Nat) (d:Bool):List Int:=if d then dQ (l.take k) n else l.take k
def kA (l:List Int) (n:Int) (k:Nat) (d:Bool):Prop:=if d then ∃y ∈ l.take k,n<y else ∀y ∈ l.take k,¬n<y
theorem kA.zero (l:List Int) (n:Int):kA l n 0 false:=fun y hy=>by simp at hy
theorem kA.t (h:kA l n k true) (hx:l[k]?=some x):kA l n (k+1) true/\jE l n (k+1) true=jE l n k true ++ [x]:=by
 have e:l.take (k+1)=l.take k ++ [x]:=by rw [List.take_add_one,hx];rfl
 obtain ⟨y,a,hl⟩:=h;refine ⟨⟨y,by rw [e];exact List.mem_append_left _ a,hl⟩,?_⟩
 show dQ (l.take (k+1)) n=dQ (l.take k) n ++ [x]
 rw [e,an_ ⟨y,a,hl⟩]
theorem kA.now (h:kA l n k false) (hx:l[k]?=some x) (hl:n<x):kA l n (k+1) true/\jE l n (k+1) true=(jE l n k false ++ [n]) ++ [x]:=by
 have e:l.take (k+1)=l.take k ++ [x]:=by rw [List.take_add_one,hx];rfl
 refine ⟨⟨x,by rw [e];simp,hl⟩,?_⟩
 show dQ (l.take (k+1)) n=(l.take k ++ [n]) ++ [x]
 rw [e,ca_ hl h];simp
theorem kA.f (h:kA l n k false) (hx:l[k]?=some x) (hl:¬n<x):kA l n (k+1) false/\jE l n (k+1) false=jE l n k false ++ [x]:=by
 have e:l.take (k+1)=l.take k ++ [x]:=by rw [List.take_add_one,hx];rfl
 refine ⟨fun y a=>?_,e⟩;rw [e] at a
 rcases List.mem_append.1 a with a | a
 ·exact h y a
 ·simp at a;subst a;exact hl
theorem kA.endT:jE l n l.length true=dQ l n:=by show dQ (l.take l.length) n=_;rw [List.take_length]
theorem kA.endF (h:kA l n l.length false):jE l n l.length false ++ [n]=dQ l n:=by
 show l.take l.length ++ [n]=_
 have h':∀y ∈ l.take l.length,¬n<y:=h;rw [List.take_length] at h' ⊢;exact (cb_ h').symm
theorem am_ (l:List Int) (n:Int) (k:Nat) (d:Bool):(jE l n k d).length<=l.length+1:=by
 unfold jE
 split
 ·rw [ao_,List.length_take];omega
 ·rw [List.length_take];omega
theorem eD_ (n:Int) (S:Nat->Prop) (h:LA M_ w S v l) (hl:l.length<=1000) (hS:∀b,w.heap.size<=b->S b):C_ 220 #[v,I_ n] w (pG (dQ l n) S w):=by
 obtain ⟨A,cap,rfl,hc,P⟩:=h.form;have H:=H_ h;clear h;unfold maxLen at P;go_enter func220,ntmps220;go_wp2
 go_loopw [5,6,7] (fun u N i wx=>∃(k:Nat) (d:Bool),i = I_ k/\N = .bool d/\k<=l.length/\kA l n k d/\LO M_ 3 wx (w) S u (jE l n k d)/\q_ w wx) (fun _ _ i _=>l.length - (intOf i).toNat)
 case atStart=>exact ⟨0,false,rfl,rfl,O_,kA.zero _ _,LO.nil _ _ _ _ _,aI _ _⟩
 case round=>
  obtain ⟨k,d,rfl,rfl,R,L,M,m⟩:=hrel;obtain ⟨r,j,E⟩:=eT M m L;have O:=am_ l n k d;clear M m L
  by_cases I:k<l.length
  ·obtain ⟨x,F⟩:∃x,l[k]?=some x:=⟨_,cU I⟩;obtain ⟨b,o,cap',hv,_,_,m,_,c0⟩:=IL.cell (H.step j.out) F;injection hv with e1 e2 e3
   subst e1 e3;have y:=H_ F;have J:=j.size;have C:=(H.cells F).1;clear F e2
   cases d with
   | true=>
    have q:=H_ (E.t y)
    go_wp2_with (at_builtin;(refine U_ cS rfl (.tmp 28) (.tmp 33) rfl S rfl (r.alloc _) (by simp;omega) O_ #[I_ x] rfl (l_ _ _ _ rfl) x rfl ?_);intro v4 w4 a c g)
    go_roundw
    case rel=>exact ⟨k+1,true,by go_num,rfl,O_,q.out.1,by rw [q.out.2];exact a,(b_ j.out _).grown c (b_ j.out _).size (fun b m=>(r.own m).1)⟩
    case measure=>exact bH
   | false=>
    by_cases D:n<x
    ·have q:=H_ (E.now y D)
     go_wp2_with (first
      | ((at_builtin;(refine U_ cS rfl (.tmp 24) (.tmp 26) rfl S rfl (r.alloc _) (by simp;omega) O_ #[I_ n] rfl (l_ _ _ _ rfl) n rfl ?_);intro v4 w4 a c g);have B:=H_ a;have s:=H_ ((b_ j.out _).grown c (b_ j.out _).size (fun b m=>(r.own m).1));have s4:=s.size;have Q:=(s.cell (p:=⟨b,o+k,none⟩) C).trans ((j.cell (p:=⟨b,o+k,none⟩) C).symm.trans c0);clear c0 a c g)
      | (at_builtin;(refine U_ cS rfl (.tmp 28) (.tmp 33) rfl S rfl (B.alloc _) (by simp;omega) (by simp;omega) #[I_ x] rfl (l_ _ _ _ rfl) x rfl ?_);intro v5 w5 z G K))
     go_roundw
     case rel=>exact ⟨k+1,true,by go_num,rfl,O_,q.out.1,by rw [q.out.2];exact z,(b_ s.out _).grown G (b_ s.out _).size (fun b m=>(B.own m).1)⟩
     case measure=>exact bH
    ·have q:=H_ (E.f y D)
     go_wp2_with (at_builtin;(refine U_ cS rfl (.tmp 28) (.tmp 33) rfl S rfl (r.alloc _) (by simp;omega) O_ #[I_ x] rfl (l_ _ _ _ rfl) x rfl ?_);intro v4 w4 a c g)
     go_roundw
     case rel=>exact ⟨k+1,false,by go_num,rfl,O_,q.out.1,by rw [q.out.2];exact a,(b_ j.out _).grown c (b_ j.out _).size (fun b m=>(r.own m).1)⟩
     case measure=>exact bH
  ·obtain rfl:k=l.length:=O_
   have J:=j.size
   cases d with
   | true=>
    rw [kA.endT] at r;go_wp2;go_ret;exact ⟨_,rfl,r.la (fun _ _ h=>h) hS,j.out⟩
   | false=>
    have q:=H_ (E.endF)
    go_wp2_with (at_builtin;(refine U_ cS rfl (.tmp 37) (.tmp 39) rfl S rfl (r.alloc _) (by simp;omega) O_ #[I_ n] rfl (l_ _ _ _ rfl) n rfl ?_);intro v4 w4 a c g)
    go_ret;rw [q.out] at a
    exact ⟨_,rfl,a.la (fun _ _ h=>h) hS,(b_ j.out _).grown c (b_ j.out _).size (fun b m=>(r.own m).1)⟩
theorem cY:(prog.info? 119).map (·.size)=some 3:=by kernel_rfl
theorem rF {B C:Option Addr} {a b c d e f:Nat}:(#[Value.slice A a b,S_ B c d,S_ C e f]:Array Value).all (·.oneCell')=true:=by simp [Value.oneCell']
theorem fP {fn:Func} {p q:Tmp} (h:fn.results=#[.cell p 119,.tmp q]) {tmps:Array Value} {t:TypeId} {a b c:Value} {fr:Nat × Nat} {u:Value}
  (hp:tmps.getD p undef = P_ g) (hq:tmps.getD q undef=u) (hg:w.heap[g]?=some (.cells #[a,b,c] t fr)):(results fn tmps).run prog w = .ok (.tuple #[.agg #[a,b,c],u]) w:=
 dm_ h tmps t fr u hp hq hg underlying119 rfl cY
def dO_ (a:Lr) (err:Int) (S:Nat->Prop) (w:World) (e:Ending) (w':World):Prop:=∃v1 v2 v3,e = .returned (.tuple #[.agg #[v1,v2,v3],I_ err])/\sI w' S v1 v2 v3 a/\q_ w w'
theorem bA {B:Nat} {w0:World} (hb:Below B w0 w) (p:Addr) (v:Value) (h:B<=p.block):Below B w0 (w.setCell p v):=hb.setCell h v
def jD (a:Lr) (f:Int) (act:Bool):Lr:=if eU a f then a else if act then {a with act:=f :: a.act} else {a with ina:=f :: a.ina}
theorem jB_ (f:Int) (act:Bool) (h:sI w S v1 v2 v3 a) (ok:eQ a) (hf:1<=f/\f<=64) (hS:∀b,w.heap.size<=b->S b) :
  C_ 135 #[.agg #[v1,v2,v3],I_ f,.bool act] w (dO_ (jD a f act) (if eU a f then 5 else 0) S w):=by
 obtain ⟨l1,l2,l3⟩:=ok.lens;obtain ⟨J,c1,rfl,Y,Z⟩:=h.1.form;obtain ⟨K,c2,rfl,p3,p4⟩:=h.2.1.form;obtain ⟨A,B,rfl,p5,p6⟩:=h.2.2.form;have G:=fun w' (v:q_ w w')=>lD (h.step v) ok;have y:=fun w' (v:q_ w w')=>ew_ f (h.step v);have P:=H_ (m_ (g_ w (.cells #[S_ J a.act.length c1,S_ K a.ina.length c2,S_ A a.ref.length B] 119)) (.cells #[S_ none 0 0,S_ none 0 0,S_ none 0 0] 119));have N:=H_ (l_ (w.alloc (.cells #[S_ J a.act.length c1,S_ K a.ina.length c2,S_ A a.ref.length B] 119)) (.cells #[S_ none 0 0,S_ none 0 0,S_ none 0 0] 119) (w+1) z_);have L:=H_ (b_ (b_ (aI (w) w) (.cells #[S_ J a.act.length c1,S_ K a.ina.length c2,S_ A a.ref.length B] 119)) (.cells #[S_ none 0 0,S_ none 0 0,S_ none 0 0] 119));have H:=H_ h;have U:=H_ hS;have q1:decide (f<1)=false:=dF O_;have q2:decide (64<f)=false:=dF O_;clear Y Z p3 p4 p5 p6 h hS hf ok
 cases q:eU a f with
 | true=>
  have M:=H_ (show jD a f act=a by unfold jD;rw [q];rfl);rw [q] at y;clear q;go_enter func135,ntmps135
  go_wp2_with (first | (go_at_call 105;(with_reducible refine CM (G _ L.out) ?_);rintro e w1 ⟨rfl,l⟩;obtain ⟨k,s,i⟩:=bN P N L l;clear l;obtain ⟨x0,p,r⟩:=cL k.out) | (go_at_call 189;(with_reducible refine CM (y _ i.out) ?_);rintro e w2 ⟨rfl,m⟩;clear x0 p r;obtain ⟨n,d,j⟩:=bN k s i m;clear m;obtain ⟨x0,p,r⟩:=cL n.out) | (refine cV rfl 119 (.tmp 6) (.tmp 30) rfl rfl (w+1) #[S_ J a.act.length c1,S_ K a.ina.length c2,S_ A a.ref.length B] rfl rfl 119 _ (d.out) cY rfl (rF) ?_))
  show bodyPost prog f135 _ _ _ _
  refine bodyPost_ret (fP rfl rfl rfl (setRow_heap _ _ _ _ _ _ d)) rfl ?_;rw [M.out];exact ⟨_,_,_,rfl,H.step (j_ j.out O_ _),j_ j.out O_ _⟩
 | false=>
  rw [q] at y;have Q:=fun w' (v:q_ w w') (hz:w.heap.size+2<=w'.heap.size)=>yC f (fun z=>S z/\z≠w.heap.size/\z≠w.heap.size+1) ((H.out.1.weak (fun b v h=>⟨h,O_,O_⟩)).step v) O_ (fun b F=>⟨U.out b (dO v.size F),O_,O_⟩);have R:=fun w' (v:q_ w w') (hz:w.heap.size+2<=w'.heap.size)=>yC f (fun z=>S z/\z≠w.heap.size/\z≠w.heap.size+1) ((H.out.2.1.weak (fun b v h=>⟨h,O_,O_⟩)).step v) O_ (fun b F=>⟨U.out b (dO v.size F),O_,O_⟩);have M:=H_ (show jD a f act=if act then {a with act:=f :: a.act} else {a with ina:=f :: a.ina} by unfold jD;rw [q];rfl)
  clear q
  cases act with
  | true=>
   go_enter func135,ntmps135
   go_wp2_with (first
    | (go_at_call 105;(with_reducible refine CM (G _ L.out) ?_);rintro e w1 ⟨rfl,l⟩;obtain ⟨k,s,i⟩:=bN P N L l;clear l;obtain ⟨x0,p,r⟩:=cL k.out)
    | (go_at_call 189;(with_reducible refine CM (y _ i.out) ?_);rintro e w2 ⟨rfl,m⟩;clear x0 p r;obtain ⟨n,d,j⟩:=bN k s i m;clear m;obtain ⟨x0,p,r⟩:=cL n.out)
    | (go_at_call 190;(with_reducible refine CM (Q _ j.out (by have:=p_ d.out;omega)) ?_);rintro e w3 ⟨u,rfl,I,x⟩;obtain ⟨C,E,rfl,_,_⟩:=I.form;clear x0 p r;obtain ⟨c,t,D⟩:=bN n d j x;have O:=H_ I;clear x I;obtain ⟨x0,p,r⟩:=cL c.out;have V:=t_ c 0;have W:=t_ c 1;have X:=t_ c 2)
    | (refine cV rfl 119 (.tmp 6) (.tmp 38) rfl rfl (w+1) #[S_ C (f :: a.act).length E,S_ K a.ina.length c2,S_ A a.ref.length B] rfl rfl 119 _ (aM t.out _ _ z_) cY rfl (rF) ?_))
   show bodyPost prog f135 _ _ _ _
   refine bodyPost_ret (fP rfl rfl rfl (setRow_heap _ _ _ _ _ _ (aM t.out _ _ z_))) rfl ?_;rw [M.out];have o:=j_ (g:=w.heap.size+1) (bA D.out ⟨w,0,none⟩ (S_ C (f :: a.act).length E) (aQ _)) O_ #[S_ C (f :: a.act).length E,S_ K a.ina.length c2,S_ A a.ref.length B];exact ⟨_,_,_,rfl,⟨((O.kept (r_.of_setCell w3 ⟨w,0,none⟩ _ (fun h=>h.2.1 rfl))).kept (r_.of_setRow _ _ _ (fun h=>h.2.2 rfl))).weak (fun _ _ h=>h.1),H.out.2.1.step o,H.out.2.2.step o⟩,o⟩
  | false=>
   go_enter func135,ntmps135
   go_wp2_with (first
    | (go_at_call 105;(with_reducible refine CM (G _ L.out) ?_);rintro e w1 ⟨rfl,l⟩;obtain ⟨k,s,i⟩:=bN P N L l;clear l;obtain ⟨x0,p,r⟩:=cL k.out)
    | (go_at_call 189;(with_reducible refine CM (y _ i.out) ?_);rintro e w2 ⟨rfl,m⟩;clear x0 p r;obtain ⟨n,d,j⟩:=bN k s i m;clear m;obtain ⟨x0,p,r⟩:=cL n.out)
    | (go_at_call 190;(with_reducible refine CM (R _ j.out (by have:=p_ d.out;omega)) ?_);rintro e w3 ⟨u,rfl,I,x⟩;obtain ⟨C,E,rfl,_,_⟩:=I.form;clear x0 p r;obtain ⟨c,t,D⟩:=bN n d j x;have O:=H_ I;clear x I;obtain ⟨x0,p,r⟩:=cL c.out;have V:=t_ c 0;have W:=t_ c 1;have X:=t_ c 2)
    | (refine cV rfl 119 (.tmp 6) (.tmp 38) rfl rfl (w+1) #[S_ J a.act.length c1,S_ C (f :: a.ina).length E,S_ A a.ref.length B] rfl rfl 119 _ (aM t.out _ _ z_) cY rfl (rF) ?_))
   show bodyPost prog f135 _ _ _ _
   refine bodyPost_ret (fP rfl rfl rfl (setRow_heap _ _ _ _ _ _ (aM t.out _ _ z_))) rfl ?_;rw [M.out];have o:=j_ (g:=w.heap.size+1) (bA D.out ⟨w,1,none⟩ (S_ C (f :: a.ina).length E) (aQ _)) O_ #[S_ J a.act.length c1,S_ C (f :: a.ina).length E,S_ A a.ref.length B];exact ⟨_,_,_,rfl,⟨H.out.1.step o,((O.kept (r_.of_setCell w3 ⟨w,1,none⟩ _ (fun h=>h.2.1 rfl))).kept (r_.of_setRow _ _ _ (fun h=>h.2.2 rfl))).weak (fun _ _ h=>h.1),H.out.2.2.step o⟩,o⟩
end
section
def iY (a:Lr) (f:Int):Lr:=if eU a f then ⟨bL a.act f,bL a.ina f,bL a.ref f⟩ else a
theorem fi_ (f:Int) (h:sI w S v1 v2 v3 a) (ok:eQ a) (hf:1<=f/\f<=64) (hS:∀b,w.heap.size<=b->S b) :
  C_ 199 #[.agg #[v1,v2,v3],I_ f] w (dO_ (iY a f) (if eU a f then 0 else 4) S w):=by
 obtain ⟨l1,l2,l3⟩:=ok.lens;obtain ⟨D,c1,rfl,p1,p2⟩:=h.1.form;obtain ⟨E,c2,rfl,p3,p4⟩:=h.2.1.form;obtain ⟨F,I,rfl,p5,p6⟩:=h.2.2.form;have J:=fun w' (c:q_ w w')=>lD (h.step c) ok;have t:=fun w' (c:q_ w w')=>ew_ f (h.step c);have HX:=H_ (m_ (g_ w (.cells #[S_ D a.act.length c1,S_ E a.ina.length c2,S_ F a.ref.length I] 119)) (.cells #[S_ none 0 0,S_ none 0 0,S_ none 0 0] 119));have HR:=H_ (l_ (w.alloc (.cells #[S_ D a.act.length c1,S_ E a.ina.length c2,S_ F a.ref.length I] 119)) (.cells #[S_ none 0 0,S_ none 0 0,S_ none 0 0] 119) (w+1) z_);have M:=H_ (b_ (b_ (aI (w) w) (.cells #[S_ D a.act.length c1,S_ E a.ina.length c2,S_ F a.ref.length I] 119)) (.cells #[S_ none 0 0,S_ none 0 0,S_ none 0 0] 119));have H:=H_ h;have Q:=H_ hS;have q1:decide (f<1)=false:=dF O_;have q2:decide (64<f)=false:=dF O_;clear p1 p2 p3 p4 p5 p6 h hS hf ok
 cases q:eU a f with
 | false=>
  have P:=H_ (show iY a f=a by unfold iY;rw [q];rfl);rw [q] at t;clear q;go_enter func199,ntmps199
  go_wp2_with (first
   | (go_at_call 105;(with_reducible refine CM (J _ M.out) ?_);rintro e w1 ⟨rfl,o⟩;obtain ⟨l,y,k⟩:=bN HX HR M o;clear o;obtain ⟨x0,B,C⟩:=cL l.out)
   | (go_at_call 189;(with_reducible refine CM (t _ k.out) ?_);rintro e w2 ⟨rfl,r⟩;clear x0 B C;obtain ⟨s,g,i⟩:=bN l y k r;clear r;obtain ⟨x0,B,C⟩:=cL s.out)
   | (refine cV rfl 119 (.tmp 4) (.tmp 24) rfl rfl (w+1) #[S_ D a.act.length c1,S_ E a.ina.length c2,S_ F a.ref.length I] rfl rfl 119 _ (g) cY rfl (rF) ?_))
  show bodyPost prog f199 _ _ _ _
  refine bodyPost_ret (fP rfl rfl rfl (setRow_heap _ _ _ _ _ _ g)) rfl ?_;rw [P.out];exact ⟨_,_,_,rfl,H.step (j_ i.out O_ _),j_ i.out O_ _⟩
 | true=>
  have P:=H_ (show iY a f=⟨bL a.act f,bL a.ina f,bL a.ref f⟩ by unfold iY;rw [q];rfl);rw [q] at t;have o1:=fun w' (c:q_ w w') (hz:w.heap.size+2<=w'.heap.size)=>kO f (fun z=>S z/\z≠w.heap.size/\z≠w.heap.size+1) ((H.out.1.weak (fun b c h=>⟨h,O_,O_⟩)).step c) O_ (fun b n=>⟨Q.out b (dO c.size n),O_,O_⟩);have o2:=fun w' (c:q_ w w') (hz:w.heap.size+2<=w'.heap.size)=>kO f (fun z=>S z/\z≠w.heap.size/\z≠w.heap.size+1) ((H.out.2.1.weak (fun b c h=>⟨h,O_,O_⟩)).step c) O_ (fun b n=>⟨Q.out b (dO c.size n),O_,O_⟩);have o3:=fun w' (c:q_ w w') (hz:w.heap.size+2<=w'.heap.size)=>kO f (fun z=>S z/\z≠w.heap.size/\z≠w.heap.size+1) ((H.out.2.2.weak (fun b c h=>⟨h,O_,O_⟩)).step c) O_ (fun b n=>⟨Q.out b (dO c.size n),O_,O_⟩);clear q;go_enter func199,ntmps199
  go_upto_region 7 with (first
   | (go_at_call 105;(with_reducible refine CM (J _ M.out) ?_);rintro e w1 ⟨rfl,o⟩;obtain ⟨l,y,k⟩:=bN HX HR M o;clear o;obtain ⟨x0,B,C⟩:=cL l.out)
   | (go_at_call 189;(with_reducible refine CM (t _ k.out) ?_);rintro e w2 ⟨rfl,r⟩;clear x0 B C;obtain ⟨s,g,i⟩:=bN l y k r;clear r;obtain ⟨x0,B,C⟩:=cL s.out))
  have v:=p_ s;refine T_ 12 38 [SP.eq (P_ (w)),SP.eq (S_ D a.act.length c1),SP.eq (I_ f),SP.la M_ (fun z=>S z/\z≠w.heap.size/\z≠w.heap.size+1) (bL a.act f),SP.eq (.pointer (some ⟨w,1,none⟩)),SP.eq (S_ E a.ina.length c2),SP.eq (I_ f),SP.la M_ (fun z=>S z/\z≠w.heap.size/\z≠w.heap.size+1) (bL a.ina f),SP.eq (.pointer (some ⟨w,2,none⟩)),SP.eq (S_ F a.ref.length I),SP.eq (I_ f),SP.la M_ (fun z=>S z/\z≠w.heap.size/\z≠w.heap.size+1) (bL a.ref f)] s_ s_ rfl ?_;simp only[vK];refine qC fun v0=>?_;simp only[ly];refine e_ (fun x d j K m=>?_) (fun v1=>?_)
  ·obtain rfl:v0=_:=j 0 s_;have u0:=(d.cell (p:=⟨w,_,none⟩) v).trans x0;go_simp;exact m _ _ d B_ rfl
  simp only[ly];refine qC fun v2=>?_;simp only[ly];refine e_ (fun x d j K m=>?_) (fun v3=>?_)
  ·obtain rfl:v1=_:=j 1 s_;obtain rfl:v2=_:=j 2 s_;go_simp
   go_at_call 221
   refine (o1 x (d_ i d) (by have:=d.size;have:=p_ g;omega)).mono ?_;rintro e w9 ⟨u,rfl,L,c⟩;exact m _ _ (d_ d c) c L
  simp only[ly];refine qC fun v4=>?_;simp only[ly];refine e_ (fun x d j K m=>?_) (fun v5=>?_)
  ·obtain rfl:v4=_:=j 4 s_;have u0:=(d.cell (p:=⟨w,_,none⟩) v).trans B;go_simp;exact m _ _ d B_ rfl
  simp only[ly];refine qC fun v6=>?_;simp only[ly];refine e_ (fun x d j K m=>?_) (fun v7=>?_)
  ·obtain rfl:v5=_:=j 5 s_;obtain rfl:v6=_:=j 6 s_;go_simp
   go_at_call 221
   refine (o2 x (d_ i d) (by have:=d.size;have:=p_ g;omega)).mono ?_;rintro e w9 ⟨u,rfl,L,c⟩;exact m _ _ (d_ d c) c L
  simp only[ly];refine qC fun v8=>?_;simp only[ly];refine e_ (fun x d j K m=>?_) (fun v9=>?_)
  ·obtain rfl:v8=_:=j 8 s_;have u0:=(d.cell (p:=⟨w,_,none⟩) v).trans C;go_simp;exact m _ _ d B_ rfl
  simp only[ly];refine qC fun v10=>?_;simp only[ly];refine e_ (fun x d j K m=>?_) (fun v11=>?_)
  ·obtain rfl:v9=_:=j 9 s_;obtain rfl:v10=_:=j 10 s_;go_simp
   go_at_call 221
   refine (o3 x (d_ i d) (by have:=d.size;have:=p_ g;omega)).mono ?_;rintro e w9 ⟨u,rfl,L,c⟩;exact m _ _ (d_ d c) c L
  simp only[ly];refine aA ?_;intro w3 d N;have U:=N 3 O_;have V:=N 7 O_;have A:=N 11 O_;obtain ⟨X,d1,e1,_⟩:=LA.form U;obtain ⟨Y,d2,e2,_⟩:=LA.form V;obtain ⟨Z,d3,e3,_⟩:=LA.form A;obtain rfl:v3=_:=e1;obtain rfl:v7=_:=e2;obtain rfl:v11=_:=e3;obtain ⟨G3,G7,O⟩:=eT U V A;obtain ⟨G,R⟩:=gZ g i d;clear U V A N d x0 B C v
  go_wp2_with (refine cV rfl 119 (.tmp 4) (.tmp 37) rfl rfl (w+1) #[S_ X (bL a.act f).length d1,S_ Y (bL a.ina f).length d2,S_ Z (bL a.ref f).length d3] rfl rfl 119 _ (G) cY rfl (rF) ?_)
  show bodyPost prog f199 _ _ _ _
  refine bodyPost_ret (fP rfl rfl rfl (setRow_heap _ _ _ _ _ _ G)) rfl ?_;rw [P.out];have W:=r_.of_setRow (S:=fun z=>S z/\z≠w.heap.size/\z≠w.heap.size+1) w3 (w+1) #[S_ X (bL a.act f).length d1,S_ Y (bL a.ina f).length d2,S_ Z (bL a.ref f).length d3] (fun h=>h.2.2 rfl);exact ⟨_,_,_,rfl,⟨(LA.kept G3.out W).weak (fun _ _ h=>h.1),(LA.kept G7.out W).weak (fun _ _ h=>h.1),(LA.kept O.out W).weak (fun _ _ h=>h.1)⟩,j_ R.out O_ _⟩
def dP (a:Lr) (f:Int):Lr:=if eU a f then (if f ∈ a.ref then (if f ∈ a.ina then ⟨f :: a.act,bL a.ina f,bL a.ref f⟩ else a) else {a with ref:=dQ a.ref f}) else a
theorem hd_ (f:Int) (h:sI w S v1 v2 v3 a) (ok:eQ a) (hf:1<=f/\f<=64) (hS:∀b,w.heap.size<=b->S b) :
  C_ 197 #[.agg #[v1,v2,v3],I_ f] w (dO_ (dP a f) (if eU a f then 0 else 4) S w):=by
 obtain ⟨l1,l2,l3⟩:=ok.lens;obtain ⟨J,c1,rfl,p1,p2⟩:=h.1.form;obtain ⟨L,c2,rfl,p3,p4⟩:=h.2.1.form;obtain ⟨A3,c3,rfl,p5,p6⟩:=h.2.2.form;have F:=fun w' (d:q_ w w')=>lD (h.step d) ok;have C:=fun w' (d:q_ w w')=>ew_ f (h.step d);have HX:=H_ (m_ (g_ w (.cells #[S_ J a.act.length c1,S_ L a.ina.length c2,S_ A3 a.ref.length c3] 119)) (.cells #[S_ none 0 0,S_ none 0 0,S_ none 0 0] 119));have HR:=H_ (l_ (w.alloc (.cells #[S_ J a.act.length c1,S_ L a.ina.length c2,S_ A3 a.ref.length c3] 119)) (.cells #[S_ none 0 0,S_ none 0 0,S_ none 0 0] 119) (w+1) z_);have M:=H_ (b_ (b_ (aI (w) w) (.cells #[S_ J a.act.length c1,S_ L a.ina.length c2,S_ A3 a.ref.length c3] 119)) (.cells #[S_ none 0 0,S_ none 0 0,S_ none 0 0] 119));have H:=H_ h;have HS:=H_ hS;have q1:decide (f<1)=false:=dF O_;have q2:decide (64<f)=false:=dF O_;clear p1 p2 p3 p4 p5 p6 h hS hf ok
 cases q:eU a f with
 | false=>
  have R:=H_ (show dP a f=a by unfold dP;rw [q];rfl);rw [q] at C;clear q;go_enter func197,ntmps197
  go_wp2_with (first
   | (go_at_call 105;(with_reducible refine CM (F _ M.out) ?_);rintro e w1 ⟨rfl,m⟩;obtain ⟨k,t,j⟩:=bN HX HR M m;clear m;obtain ⟨x0,r,s⟩:=cL k.out)
   | (go_at_call 189;(with_reducible refine CM (C _ j.out) ?_);rintro e w2 ⟨rfl,n⟩;clear x0 r s;obtain ⟨o,i,c⟩:=bN k t j n;clear n;obtain ⟨x0,r,s⟩:=cL o.out)
   | (refine cV rfl 119 (.tmp 4) (.tmp 24) rfl rfl (w+1) #[S_ J a.act.length c1,S_ L a.ina.length c2,S_ A3 a.ref.length c3] rfl rfl 119 _ (i) cY rfl (rF) ?_))
  show bodyPost prog f197 _ _ _ _
  refine bodyPost_ret (fP rfl rfl rfl (setRow_heap _ _ _ _ _ _ i)) rfl ?_;rw [R.out];exact ⟨_,_,_,rfl,H.step (j_ c.out O_ _),j_ c.out O_ _⟩
 | true=>
  rw [q] at C;have a3:=fun w' (d:q_ w w')=>xN f (H.out.2.2.step d)
  by_cases N:f ∈ a.ref
  ·have p3:=jH N;generalize xM a.ref f=z at a3 p3;have a2:=fun w' (d:q_ w w')=>xN f (H.out.2.1.step d)
   by_cases hi:f ∈ a.ina
   ·have R:=H_ (show dP a f=⟨f :: a.act,bL a.ina f,bL a.ref f⟩ by unfold dP;rw [if_pos q,if_pos N,if_pos hi]);have p2:=jH hi;generalize xM a.ina f=y at a2 p2;have o1:=fun w' (d:q_ w w') (hz:w.heap.size+2<=w'.heap.size)=>yC f (fun z=>S z/\z≠w.heap.size/\z≠w.heap.size+1) ((H.out.1.weak (fun b d h=>⟨h,O_,O_⟩)).step d) O_ (fun b A=>⟨HS.out b (dO d.size A),O_,O_⟩);have o2:=fun w' (d:q_ w w') (hz:w.heap.size+2<=w'.heap.size)=>kO f (fun z=>S z/\z≠w.heap.size/\z≠w.heap.size+1) ((H.out.2.1.weak (fun b d h=>⟨h,O_,O_⟩)).step d) O_ (fun b A=>⟨HS.out b (dO d.size A),O_,O_⟩);have o3:=fun w' (d:q_ w w') (hz:w.heap.size+2<=w'.heap.size)=>kO f (fun z=>S z/\z≠w.heap.size/\z≠w.heap.size+1) ((H.out.2.2.weak (fun b d h=>⟨h,O_,O_⟩)).step d) O_ (fun b A=>⟨HS.out b (dO d.size A),O_,O_⟩);clear q N hi;go_enter func197,ntmps197
    go_upto_region 10 with (first
     | (go_at_call 105;(with_reducible refine CM (F _ M.out) ?_);rintro e w1 ⟨rfl,m⟩;obtain ⟨k,t,j⟩:=bN HX HR M m;clear m;obtain ⟨x0,r,s⟩:=cL k.out)
     | (go_at_call 189;(with_reducible refine CM (C _ j.out) ?_);rintro e w2 ⟨rfl,n⟩;clear x0 r s;obtain ⟨o,i,c⟩:=bN k t j n;clear n;obtain ⟨x0,r,s⟩:=cL o.out)
     | (go_at_call 161;(with_reducible refine CM (a3 _ c.out) ?_);rintro e w' ⟨rfl,rfl⟩)
     | (go_at_call 161;(with_reducible refine CM (a2 _ c.out) ?_);rintro e w' ⟨rfl,rfl⟩))
    have G:=p_ o;refine T_ 12 56 [SP.eq (P_ (w)),SP.eq (S_ J a.act.length c1),SP.eq (I_ f),SP.la M_ (fun z=>S z/\z≠w.heap.size/\z≠w.heap.size+1) (f :: a.act),SP.eq (.pointer (some ⟨w,1,none⟩)),SP.eq (S_ L a.ina.length c2),SP.eq (I_ f),SP.la M_ (fun z=>S z/\z≠w.heap.size/\z≠w.heap.size+1) (bL a.ina f),SP.eq (.pointer (some ⟨w,2,none⟩)),SP.eq (S_ A3 a.ref.length c3),SP.eq (I_ f),SP.la M_ (fun z=>S z/\z≠w.heap.size/\z≠w.heap.size+1) (bL a.ref f)] s_ s_ rfl ?_;simp only[vK];refine qC fun v0=>?_;simp only[ly];refine e_ (fun x l B K D=>?_) (fun v1=>?_)
    ·obtain rfl:v0=_:=B 0 s_;have u0:=(l.cell (p:=⟨w,_,none⟩) G).trans x0;go_simp;exact D _ _ l B_ rfl
    simp only[ly];refine qC fun v2=>?_;simp only[ly];refine e_ (fun x l B K D=>?_) (fun v3=>?_)
    ·obtain rfl:v1=_:=B 1 s_;obtain rfl:v2=_:=B 2 s_;go_simp
     go_at_call 190
     refine (o1 x (d_ c l) (by have:=l.size;have:=p_ i;omega)).mono ?_;rintro e w9 ⟨u,rfl,I,d⟩;exact D _ _ (d_ l d) d I
    simp only[ly];refine qC fun v4=>?_;simp only[ly];refine e_ (fun x l B K D=>?_) (fun v5=>?_)
    ·obtain rfl:v4=_:=B 4 s_;have u0:=(l.cell (p:=⟨w,_,none⟩) G).trans r;go_simp;exact D _ _ l B_ rfl
    simp only[ly];refine qC fun v6=>?_;simp only[ly];refine e_ (fun x l B K D=>?_) (fun v7=>?_)
    ·obtain rfl:v5=_:=B 5 s_;obtain rfl:v6=_:=B 6 s_;go_simp
     go_at_call 221
     refine (o2 x (d_ c l) (by have:=l.size;have:=p_ i;omega)).mono ?_;rintro e w9 ⟨u,rfl,I,d⟩;exact D _ _ (d_ l d) d I
    simp only[ly];refine qC fun v8=>?_;simp only[ly];refine e_ (fun x l B K D=>?_) (fun v9=>?_)
    ·obtain rfl:v8=_:=B 8 s_;have u0:=(l.cell (p:=⟨w,_,none⟩) G).trans s;go_simp;exact D _ _ l B_ rfl
    simp only[ly];refine qC fun v10=>?_;simp only[ly];refine e_ (fun x l B K D=>?_) (fun v11=>?_)
    ·obtain rfl:v9=_:=B 9 s_;obtain rfl:v10=_:=B 10 s_;go_simp
     go_at_call 221
     refine (o3 x (d_ c l) (by have:=l.size;have:=p_ i;omega)).mono ?_;rintro e w9 ⟨u,rfl,I,d⟩;exact D _ _ (d_ l d) d I
    simp only[ly];refine aA ?_;intro w3 l hG;have g3:=hG 3 O_;have g7:=hG 7 O_;have Y:=hG 11 O_;obtain ⟨O,V,e1,_⟩:=LA.form g3;obtain ⟨P,W,e2,_⟩:=LA.form g7;obtain ⟨Q,X,e3,_⟩:=LA.form Y;obtain ⟨n1,a4⟩:=aZ ((f :: a.act).length);rw [<-a4] at e1;clear a4;obtain rfl:v3=_:=e1;obtain rfl:v7=_:=e2;obtain rfl:v11=_:=e3;obtain ⟨G3,G7,a5⟩:=eT g3 g7 Y;obtain ⟨v,E,U⟩:=bN o i c l;clear g3 g7 Y hG l x0 r s G
    go_wp2_with (first
     | ((refine cV rfl 119 (.tmp 2) (.tmp 54) rfl rfl w #[S_ O n1 V,S_ P (bL a.ina f).length W,S_ Q (bL a.ref f).length X] rfl rfl 119 _ (v) cY rfl (rF) ?_);have a6:=H_ (show (w3.setRow (w) #[S_ O n1 V,S_ P (bL a.ina f).length W,S_ Q (bL a.ref f).length X]).heap[w.heap.size]?=some (.cells #[S_ O n1 V,S_ P (bL a.ina f).length W,S_ Q (bL a.ref f).length X] 119 (0,0)) from setRow_heap _ _ _ _ _ _ v);have a0:=H_ ((setRow_other w3 (w) (w+1) #[S_ O n1 V,S_ P (bL a.ina f).length W,S_ Q (bL a.ref f).length X] O_).trans E.out);obtain ⟨x0,r,s⟩:=cL a6.out)
     | (refine cV rfl 119 (.tmp 4) (.tmp 55) rfl rfl (w+1) #[S_ O n1 V,S_ P (bL a.ina f).length W,S_ Q (bL a.ref f).length X] rfl rfl 119 _ (a0) cY rfl (rF) ?_))
    show bodyPost prog f197 _ _ _ _
    refine bodyPost_ret (fP rfl rfl rfl (setRow_heap _ _ _ _ _ _ a0)) rfl ?_;rw [R.out];have hk:=(r_.of_setRow (S:=fun z=>S z/\z≠w.heap.size/\z≠w.heap.size+1) w3 (w) #[S_ O n1 V,S_ P (bL a.ina f).length W,S_ Q (bL a.ref f).length X] (fun h=>h.2.1 rfl)).trans (r_.of_setRow _ (w+1) #[S_ O n1 V,S_ P (bL a.ina f).length W,S_ Q (bL a.ref f).length X] (fun h=>h.2.2 rfl));exact ⟨_,_,_,rfl,⟨(LA.kept G3.out hk).weak (fun _ _ h=>h.1),(LA.kept G7.out hk).weak (fun _ _ h=>h.1),(LA.kept a5.out hk).weak (fun _ _ h=>h.1)⟩,j_ (j_ U.out O_ _) O_ _⟩
   ·have R:=H_ (show dP a f=a by unfold dP;rw [if_pos q,if_pos N,if_neg hi]);rw [kV hi] at a2;clear q N hi;go_enter func197,ntmps197
    go_wp2_with (first
     | (go_at_call 105;(with_reducible refine CM (F _ M.out) ?_);rintro e w1 ⟨rfl,m⟩;obtain ⟨k,t,j⟩:=bN HX HR M m;clear m;obtain ⟨x0,r,s⟩:=cL k.out)
     | (go_at_call 189;(with_reducible refine CM (C _ j.out) ?_);rintro e w2 ⟨rfl,n⟩;clear x0 r s;obtain ⟨o,i,c⟩:=bN k t j n;clear n;obtain ⟨x0,r,s⟩:=cL o.out)
     | (go_at_call 161;(with_reducible refine CM (a3 _ c.out) ?_);rintro e w' ⟨rfl,rfl⟩)
     | (go_at_call 161;(with_reducible refine CM (a2 _ c.out) ?_);rintro e w' ⟨rfl,rfl⟩)
     | (refine cV rfl 119 (.tmp 4) (.tmp 55) rfl rfl (w+1) #[S_ J a.act.length c1,S_ L a.ina.length c2,S_ A3 a.ref.length c3] rfl rfl 119 _ (i) cY rfl (rF) ?_))
    show bodyPost prog f197 _ _ _ _
    refine bodyPost_ret (fP rfl rfl rfl (setRow_heap _ _ _ _ _ _ i)) rfl ?_;rw [R.out];exact ⟨_,_,_,rfl,H.step (j_ c.out O_ _),j_ c.out O_ _⟩
  ·have R:=H_ (show dP a f={a with ref:=dQ a.ref f} by unfold dP;rw [if_pos q,if_neg N])
   rw [kV N] at a3;have o3:=fun w' (d:q_ w w') (hz:w.heap.size+2<=w'.heap.size)=>eD_ f (fun z=>S z/\z≠w.heap.size/\z≠w.heap.size+1) ((H.out.2.2.weak (fun b d h=>⟨h,O_,O_⟩)).step d) O_ (fun b A=>⟨HS.out b (dO d.size A),O_,O_⟩);clear q N;go_enter func197,ntmps197
   go_wp2_with (first
    | (go_at_call 105;(with_reducible refine CM (F _ M.out) ?_);rintro e w1 ⟨rfl,m⟩;obtain ⟨k,t,j⟩:=bN HX HR M m;clear m;obtain ⟨x0,r,s⟩:=cL k.out)
    | (go_at_call 189;(with_reducible refine CM (C _ j.out) ?_);rintro e w2 ⟨rfl,n⟩;clear x0 r s;obtain ⟨o,i,c⟩:=bN k t j n;clear n;obtain ⟨x0,r,s⟩:=cL o.out)
    | (go_at_call 161;(with_reducible refine CM (a3 _ c.out) ?_);rintro e w' ⟨rfl,rfl⟩)
    | (go_at_call 220;(with_reducible refine CM (o3 _ c.out (by have:=p_ i.out;omega)) ?_);rintro e w3 ⟨u,rfl,I,a1⟩;obtain ⟨Au,cu,rfl,_,_⟩:=I.form;clear x0 r s;obtain ⟨v,E,U⟩:=bN o i c a1;have HU:=H_ I;clear a1 I;obtain ⟨x0,r,s⟩:=cL v.out;have f0:=t_ v 0;have f1:=t_ v 1;have f2:=t_ v 2)
    | (refine cV rfl 119 (.tmp 4) (.tmp 55) rfl rfl (w+1) #[S_ J a.act.length c1,S_ L a.ina.length c2,S_ Au (dQ a.ref f).length cu] rfl rfl 119 _ (aM E.out _ _ z_) cY rfl (rF) ?_))
   show bodyPost prog f197 _ _ _ _
   refine bodyPost_ret (fP rfl rfl rfl (setRow_heap _ _ _ _ _ _ (aM E.out _ _ z_))) rfl ?_;rw [R.out];have Z:=j_ (g:=w.heap.size+1) (bA U.out ⟨w,2,none⟩ (S_ Au (dQ a.ref f).length cu) (aQ _)) O_ #[S_ J a.act.length c1,S_ L a.ina.length c2,S_ Au (dQ a.ref f).length cu];exact ⟨_,_,_,rfl,⟨H.out.1.step Z,H.out.2.1.step Z,((HU.kept (r_.of_setCell w3 ⟨w,2,none⟩ _ (fun h=>h.2.1 rfl))).kept (r_.of_setRow _ _ _ (fun h=>h.2.2 rfl))).weak (fun _ _ h=>h.1)⟩,Z⟩
end
section
structure Gr where
 limit:Int
 protect:Int
 charge:Int
def Gr.row (g:Gr):List Value:=[I_ g.limit,I_ g.protect,I_ g.charge]
def qN:RR Gr 3:=RR.flat Gr.row (fun a=>⟨rfl,fun u hu=>by
 simp only[Gr.row,qJ,List.not_mem_nil,or_false] at hu
 rcases hu with rfl | rfl | rfl <;> rfl⟩)
theorem gn_:(prog.info? 72).map (fun i=>(i.zero,i.size,i.bytes))=some (some (.agg #[I_ 0,I_ 0,I_ 0]),3,24):=by kernel_rfl
theorem b5_:rY prog 26 72 3:=by
 obtain ⟨i,h1,h2,h3,h4⟩:=info_parts gn_;exact ⟨i,_,24,underlying26,h1,h2,h3,h4,rfl,O_,O_⟩
structure fY (L:List Gr):Prop where
 each:∀g ∈ L,1<=g.limit/\g.limit<=64/\0<=g.protect/\g.protect<=g.limit/\0<=g.charge/\g.charge<=64
 pos:1<=L.length
 few:L.length<=4
theorem GrA.cells {n:Nat} {L:List Gr} (h:LA qN w S (S_ A n cap) L) {i:Nat} {g:Gr} (hi:L[i]?=some g):∃b o,A=some ⟨b,o,none⟩/\b<w.heap.size/\
  w.cell? ⟨b,o+i*3,none⟩=some (I_ g.limit)/\w.cell? ⟨b,o+i*3+1,none⟩=some (I_ g.protect)/\w.cell? ⟨b,o+i*3+2,none⟩=some (I_ g.charge):=by
 obtain ⟨b,o,cap',r,hv,c1,c2,hb,hS,hp,hc⟩:=h.at_ hi;injection hv with e1 _ _
 have hp:r=g.row:=hp;subst hp;exact ⟨b,o,e1,hb,hc 0 _ rfl,hc 1 _ rfl,hc 2 _ rfl⟩
theorem lC {L:List Gr} (h:LA qN w S v L) (ok:fY L):C_ 82 #[v] w (cP true w):=by
 obtain ⟨A,cap,rfl,r,d⟩:=h.form;obtain ⟨a,K,M⟩:=ok;have H:=H_ h;have p:=H_ a;have n1:(1:Int)<=(L.length:Int):=O_
 have n2:(L.length:Int)<=4:=O_
 unfold maxLen at d;clear h a;go_enter func82,ntmps82;go_wp2
 go_loopw [3] (fun i wx=>∃k:Nat,i = I_ k/\k<=L.length/\q_ w wx) (fun i _=>L.length - (intOf i).toNat)
 case atStart=>exact ⟨0,rfl,O_,aI _ _⟩
 case round=>
  obtain ⟨k,rfl,J,m⟩:=hrel;have c:=H_ m;clear m
  by_cases f:k<L.length
  ·obtain ⟨x,g⟩:∃x,L[k]?=some x:=⟨_,cU f⟩;obtain ⟨b,o,rfl,q,c0,c1,c2⟩:=GrA.cells (H.step c.out) g;obtain ⟨s,t,u,y,z,B⟩:=p.out x (fF g);obtain ⟨j,n,l⟩:=x
   dsimp only at c0 c1 c2 s t u y z B
   have C:decide (j<1)=false:=dF O_;have D:decide (64<j)=false:=dF O_;have E:decide (n<0)=false:=dF O_;have F:decide (j<n)=false:=dF O_;have G:decide (l<0)=false:=dF O_;have I:decide (64<l)=false:=dF O_;clear g;go_wp2;go_roundw
   case rel=>exact ⟨k+1,by go_num,O_,b_ c.out _⟩
   case measure=>exact bH
  ·obtain rfl:k=L.length:=O_
   go_wp2;go_ret
   exact ⟨rfl,c.out⟩
def jl_ (L:List Gr) (S:Nat->Prop) (w:World) (e:Ending) (w':World):Prop:=∃v,e = .returned v/\LA qN w' S v L/\q_ w w'
def hs_ (L:List Gr) (err:Int) (S:Nat->Prop) (w:World) (e:Ending) (w':World):Prop:=∃v,e = .returned (.tuple #[v,I_ err])/\LA qN w' S v L/\q_ w w'
theorem wB {L:List Gr} (i:Nat) (g:Gr) (n:Int) (h:LA qN w S v L) (hi:L[i]?=some g) (hl:L.length<=100) (hS:∀b,w.heap.size<=b->S b) :
  C_ 185 #[v,I_ i,I_ n] w (jl_ (L.set i {g with charge:=n}) S w):=by
 obtain ⟨A,cap,rfl,x,y⟩:=h.form;have k:=bK hi;obtain ⟨H,q,s⟩:=eT h hi hS;have E:(0:Int)<=(i:Int):=O_
 have F:(i:Int)<(L.length:Int):=O_
 clear h hi hS;go_enter func185,ntmps185
 go_wp2_with (at_builtin;refine cN qN b5_ rfl _ _ rfl rfl _ S L rfl H.out O_ ?_;intro v4 w4 c f;obtain ⟨G,u,rfl,z,B,C,d⟩:=c.lw O_;obtain ⟨⟨I,x0⟩,D⟩:=d.slot (i:=i) (p:=2) k O_;have t:=H_ d;have o:=H_ f;clear c d f)
 go_ret;have j:=(aI (w) w).grown o.out (aQ _) (fun b j=>by cases j)
 have l:=t.setOne (i:=i) (p:=2) (a:=g) (a':={g with charge:=n}) (v:= I_ n) q.out O_ rfl (fun r m=>by
  have m:r=g.row:=m;subst m
  rfl)
 exact ⟨_,rfl,by
  have:=l.la (S':=S) (cap:=u) (s.out G O_) (fun b _ h=>h.1) (by rw [lL];exact z) B;rw [lL] at this;exact this,bA j _ _ C⟩
def bB (L:List Gr) (i:Nat) (g:Gr) (n:Int):List Gr × Int:=if g.limit - g.charge<n then (L,3) else (L.set i {g with charge:=g.charge+n},0)
def bZ (L:List Gr) (i:Nat) (g:Gr) (n:Int):List Gr × Int:=if g.charge<n then (L,4) else (L.set i {g with charge:=g.charge - n},0)
theorem d7_ {L:List Gr} (i:Nat) (g:Gr) (n:Int) (h:LA qN w S v L) (hi:L[i]?=some g) (ok:fY L) (hn:0<=n/\n<=64) (hS:∀b,w.heap.size<=b->S b) :
  C_ 131 #[v,I_ i,I_ n] w (hs_ (bB L i g n).1 (bB L i g n).2 S w):=by
 obtain ⟨A,cap,rfl,y,z⟩:=h.form;have B:=bK hi;obtain ⟨D,E,F,G,I,J⟩:=ok.each g (fF hi);have k:=fun w' (hb:q_ w w')=>lC (h.step hb) ok;have j:=fun (m:Int) w' (hb:q_ w w')=>wB i g m (h.step hb) hi (by have:=ok.few;omega) (fun b p=>hS b (dO hb.size p));have H:=H_ h;have x:=H_ hi;have N:(0:Int)<=(i:Int):=O_
 have O:(i:Int)<(L.length:Int):=O_
 have K:decide (n<0)=false:=dF O_;have M:decide (64<n)=false:=dF O_;clear h hi hS ok;obtain ⟨f,t,d⟩:=g
 dsimp only at D E F G I J
 have w1:i64.wrap (f - d)=f - d:=fA O_
 by_cases q:f - d<n
 ·have l:=H_ (show bB L i ⟨f,t,d⟩ n=(L,3) by unfold bB;rw [if_pos q]);clear j;go_enter func131,ntmps131
  go_upto_region 5 with (go_at_call 82;(with_reducible refine CM (k _ B_) ?_);rintro e w1 ⟨rfl,a⟩;obtain ⟨b,o,rfl,s,c0,c1,c2⟩:=GrA.cells (H.step a) x.out;dsimp only at c0 c1 c2;have c:=H_ a;clear a)
  go_quiet (fail);go_wp2
  go_ret2
  rw [l.out];exact ⟨_,rfl,H.step (below_drewN c.out _),below_drewN c.out _⟩
 ·have l:=H_ (show bB L i ⟨f,t,d⟩ n=(L.set i {limit:=f,protect:=t,charge:=d+n},0) by unfold bB;rw [if_neg q]);go_enter func131,ntmps131
  go_upto_region 5 with (go_at_call 82;(with_reducible refine CM (k _ B_) ?_);rintro e w1 ⟨rfl,a⟩;obtain ⟨b,o,rfl,s,c0,c1,c2⟩:=GrA.cells (H.step a) x.out;dsimp only at c0 c1 c2;have c:=H_ a;clear a)
  go_quiet (fail)
  go_wp2_with (go_at_call 185;(with_reducible refine CM (j _ _ (below_drewN c.out _)) ?_);rintro e w2 ⟨u,rfl,C,r⟩)
  go_ret2
  rw [l.out];exact ⟨_,rfl,C,d_ (below_drewN c.out _) r⟩
theorem bL_ {L:List Gr} (i:Nat) (g:Gr) (n:Int) (h:LA qN w S v L) (hi:L[i]?=some g) (ok:fY L) (hn:0<=n/\n<=64) (hS:∀b,w.heap.size<=b->S b) :
  C_ 200 #[v,I_ i,I_ n] w (hs_ (bZ L i g n).1 (bZ L i g n).2 S w):=by
 obtain ⟨A,cap,rfl,y,z⟩:=h.form;have B:=bK hi;obtain ⟨D,E,F,G,I,J⟩:=ok.each g (fF hi);have f:=fun w' (hb:q_ w w')=>lC (h.step hb) ok;have d:=fun (m:Int) w' (hb:q_ w w')=>wB i g m (h.step hb) hi (by have:=ok.few;omega) (fun b l=>hS b (dO hb.size l));have H:=H_ h;have x:=H_ hi;have N:(0:Int)<=(i:Int):=O_
 have O:(i:Int)<(L.length:Int):=O_
 have K:decide (n<0)=false:=dF O_;have M:decide (64<n)=false:=dF O_;clear h hi hS ok;obtain ⟨s,t,j⟩:=g
 dsimp only at D E F G I J
 by_cases q:j<n
 ·have k:=H_ (show bZ L i ⟨s,t,j⟩ n=(L,4) by unfold bZ;rw [if_pos q]);clear d;go_enter func200,ntmps200
  go_wp2_with (go_at_call 82;(with_reducible refine CM (f _ B_) ?_);rintro e w1 ⟨rfl,a⟩;obtain ⟨b,o,rfl,r,c0,c1,c2⟩:=GrA.cells (H.step a) x.out;dsimp only at c0 c1 c2;have c:=H_ a;clear a)
  go_ret2
  rw [k.out];exact ⟨_,rfl,H.step c.out,c.out⟩
 ·have k:=H_ (show bZ L i ⟨s,t,j⟩ n=(L.set i {limit:=s,protect:=t,charge:=j - n},0) by unfold bZ;rw [if_neg q]);go_enter func200,ntmps200
  go_wp2_with (first
   | (go_at_call 82;(with_reducible refine CM (f _ B_) ?_);rintro e w1 ⟨rfl,a⟩;obtain ⟨b,o,rfl,r,c0,c1,c2⟩:=GrA.cells (H.step a) x.out;dsimp only at c0 c1 c2;have c:=H_ a;clear a)
   | (go_at_call 185;(with_reducible refine CM (d _ _ c.out) ?_);rintro e w2 ⟨u,rfl,C,p⟩))
  go_ret2
  rw [k.out];exact ⟨_,rfl,C,d_ c.out p⟩
end
section
structure Pt where
 proc:Int
 page:Int
 frame:Int
 wr:Bool
 acc:Bool
def Pt.row (p:Pt):List Value:=[I_ p.proc,I_ p.page,I_ p.frame,.bool p.wr,.bool p.acc]
def sA:RR Pt 5:=RR.flat Pt.row (fun a=>⟨rfl,fun u hu=>by
 simp only[Pt.row,qJ,List.not_mem_nil,or_false] at hu
 rcases hu with rfl | rfl | rfl | rfl | rfl <;> rfl⟩)
abbrev ptV (a b c:Int) (d e:Bool):Value:= .agg #[I_ a,I_ b,I_ c,.bool d,.bool e]
theorem gY_:(prog.info? 164).map (fun i=>(i.zero,i.size,i.bytes))=some (some (.agg #[I_ 0,I_ 0,I_ 0,.bool false,.bool false]),5,32):=by kernel_rfl
theorem hK_:rY prog 28 164 5:=by
 obtain ⟨i,h1,h2,h3,h4⟩:=info_parts gY_;exact ⟨i,_,32,underlying28,h1,h2,h3,h4,rfl,O_,O_⟩
def oW (p:Pt):Prop:=0<=p.proc/\p.proc<8/\0<=p.page/\p.page<64/\1<=p.frame/\p.frame<=64
def bW (a b:Pt):Bool:=decide (a.proc<b.proc\/(a.proc=b.proc/\a.page<b.page))
structure eD (L:List Pt):Prop where
 each:∀p ∈ L,oW p
 asc:L.Pairwise (fun a b=>bW a b=true)
theorem eD.len {L:List Pt} (h:eD L):L.length<=512:=by
 have k:(L.map (fun p=>p.proc*64+p.page+1)).Nodup:=by
  show List.Pairwise (fun a b=>a≠b) _
  rw [List.pairwise_map];have h1:L.Pairwise (fun a b=>oW a/\oW b/\bW a b=true):=by
   have:=h.asc;rw [List.pairwise_iff_getElem] at this ⊢;intro i j d f c;exact ⟨h.each _ (gM_ d),h.each _ (gM_ f),this i j d f c⟩
  refine h1.imp fun {a b} hab=>?_;obtain ⟨⟨a1,a2,a3,a4,_⟩,⟨m,n,o,q,_⟩,hl⟩:=hab;have hl:=of_decide_eq_true hl;omega
 have:=uQ 512 _ k (fun x l=>by
  obtain ⟨p,g,rfl⟩:=List.mem_map.1 l;obtain ⟨a1,a2,a3,a4,_⟩:=h.each p g;omega)
 rwa [mL_] at this
theorem PtA.cells {n:Nat} {L:List Pt} (h:LA sA w S (S_ A n cap) L) {i:Nat} {g:Pt} (hi:L[i]?=some g):∃b o,A=some ⟨b,o,none⟩/\b<w.heap.size/\
  w.cell? ⟨b,o+i*5,none⟩=some (I_ g.proc)/\w.cell? ⟨b,o+i*5+1,none⟩=some (I_ g.page)/\w.cell? ⟨b,o+i*5+2,none⟩=some (I_ g.frame)/\w.cell? ⟨b,o+i*5+3,none⟩=some (.bool g.wr)/\w.cell? ⟨b,o+i*5+4,none⟩=some (.bool g.acc):=by
 obtain ⟨b,o,cap',r,hv,c1,c2,hb,hS,hp,hc⟩:=h.at_ hi;injection hv with e1 _ _
 have hp:r=g.row:=hp;subst hp;exact ⟨b,o,e1,hb,hc 0 _ rfl,hc 1 _ rfl,hc 2 _ rfl,hc 3 _ rfl,hc 4 _ rfl⟩
theorem fe_ (a b c:Int) (d e:Bool) (w:World) (h:oW ⟨a,b,c,d,e⟩):C_ 157 #[ptV a b c d e] w (cP true w):=by
 obtain ⟨h1,h2,h3,h4,h5,h6⟩:=h
 dsimp only at h1 h2 h3 h4 h5 h6
 go_enter func157,ntmps157;go_wp2;go_ret;exact ⟨rfl,b_ B_ _⟩
theorem gW_ (a b c:Int) (d e:Bool) (a' b' c':Int) (d' e':Bool) (w:World):C_ 158 #[ptV a b c d e,ptV a' b' c' d' e'] w (cP (bW ⟨a,b,c,d,e⟩ ⟨a',b',c',d',e'⟩) w):=by
 by_cases g:a<a'
 ·have f:=H_ (show bW ⟨a,b,c,d,e⟩ ⟨a',b',c',d',e'⟩=true by unfold bW;exact dT (.inl g));have j:decide (a<a')=true:=dT g;go_enter func158,ntmps158;go_wp2;go_ret;exact ⟨by rw [f.out];rfl,b_ (b_ B_ _) _⟩
 ·have j:decide (a<a')=false:=dF g
  by_cases i:a=a'
  ·subst i;have f:=H_ (show bW ⟨a,b,c,d,e⟩ ⟨a,b',c',d',e'⟩=decide (b<b') by unfold bW;simp);clear g j;go_enter func158,ntmps158;go_wp2;go_ret;exact ⟨by rw [f.out];rfl,b_ (b_ B_ _) _⟩
  ·have f:=H_ (show bW ⟨a,b,c,d,e⟩ ⟨a',b',c',d',e'⟩=false by unfold bW;exact dF (fun h=>h.elim g (fun h=>i h.1)));have k:(a == a')=false:=by simp [i]
   have l:decide (a=a')=false:=dF i;go_enter func158,ntmps158;go_wp2;go_ret;exact ⟨by rw [f.out];rfl,b_ (b_ B_ _) _⟩
theorem uV {L:List Pt} (h:LA sA w S v L) (ok:eD L):C_ 100 #[v] w (cP true w):=by
 obtain ⟨A,cap,rfl,J,s⟩:=h.form;have H:=H_ h;have D:=H_ ok.each;have n:=H_ ok.asc;have C:=ok.len;unfold maxLen at s;clear h ok;go_enter func100,ntmps100;go_wp2
 go_loopw [3] (fun i wx=>∃k:Nat,i = I_ k/\k<=L.length/\q_ w wx) (fun i _=>L.length - (intOf i).toNat)
 case atStart=>exact ⟨0,rfl,O_,aI _ _⟩
 case round=>
  obtain ⟨k,rfl,hk,B⟩:=hrel;have c:=H_ B;clear B
  by_cases f:k<L.length
  ·obtain ⟨x,g⟩:∃x,L[k]?=some x:=⟨_,cU f⟩;obtain ⟨b,o,rfl,I,c0,c1,c2,p,q⟩:=PtA.cells (H.step c.out) g;have l:=fun w'=>fe_ x.proc x.page x.frame x.wr x.acc w' (D x (fF g))
   cases k with
   | zero=>
    rw [Nat.zero_mul,Nat.add_zero] at c0 c1 c2 p q;obtain ⟨V,R,fr,u,E⟩:=x
    dsimp only at c0 c1 c2 p q l
    have Y:=aG wr;clear g
    go_upto_region 4 with fail
    refine y_ s_ s_ ?_
    repeat (go_big_quiet_step ((with_reducible exact aB (l _))))
    refine wpQuiet_nil ?_;rintro w' ⟨z,rfl⟩;go_wp2;go_roundw
    case rel=>exact ⟨1,rfl,O_,d_ c.out (n_ _ _)⟩
    case measure=>exact bH
   | succ m=>
    obtain ⟨y,t⟩:∃y,L[m]?=some y:=⟨_,cU O_⟩;obtain ⟨b',o',r,_,M,N,O,P,Q⟩:=PtA.cells (H.step c.out) t;injection r with r
    injection r with e4 e5
    subst e4 e5;have a:=fun w'=>gW_ y.proc y.page y.frame y.wr y.acc x.proc x.page x.frame x.wr x.acc w';have j:bW y x=true:=by
     have:=List.pairwise_iff_getElem.1 n.out m (m+1) O_ f O_;rw [<-(List.getElem?_eq_some_iff.1 t).2,<-(List.getElem?_eq_some_iff.1 g).2];exact this
    have a:∀w',C_ 158 #[ptV y.proc y.page y.frame y.wr y.acc,ptV x.proc x.page x.frame x.wr x.acc] w' (cP true w'):=fun w'=>by
     have:=a w';rw [show bW ⟨y.proc,y.page,y.frame,y.wr,y.acc⟩ ⟨x.proc,x.page,x.frame,x.wr,x.acc⟩=true from j] at this;exact this
    obtain ⟨V,R,fr,u,E⟩:=x;obtain ⟨W,U,G,X,F⟩:=y
    dsimp only at c0 c1 c2 p q M N O P Q l a
    have Y:=aG wr;have w1:i64.wrap (m:Int)=(m:Int):=fA O_;have g0:(0:Int)<(m:Int)+1:=O_
    have Z:(0:Int)<=(m:Int)+1:=O_
    have b1:(m:Int)+1<(L.length:Int):=O_
    have b2:((m:Int)+1).toNat=m+1:=O_
    have b3:m<L.length:=O_
    clear g t j
    go_upto_region 4 with fail
    refine y_ s_ s_ ?_
    repeat (first | (refine wpQuiet_step (fun K d=>?_);go_simp;(with_reducible refine d _ ?_);clear d K) | (refine wpQuiet_step (fun K d=>?_);go_simp;apply Exists.intro;refine ⟨fun _=>?_,d _ ?_⟩;(first | (with_reducible exact aB (l _)) | (with_reducible exact aB (a _)));clear d K))
    refine wpQuiet_nil ?_;rintro w' ⟨z,rfl⟩;go_wp2;go_roundw
    case rel=>exact ⟨m+2,by go_num,O_,d_ c.out (n_ _ _)⟩
    case measure=>exact bH
  ·obtain rfl:k=L.length:=O_
   go_wp2;go_ret
   exact ⟨rfl,c.out⟩
end
section
def hw_ (L:List Pt) (S:Nat->Prop) (w:World) (e:Ending) (w':World):Prop:=∃v,e = .returned v/\LA sA w' S v L/\q_ w w'
def gB (L:List Pt) (f:Int):List Pt:=L.filter (fun p=>p.frame != f)
theorem bd_ {L:List Pt} {f:Int} {x:Pt} (h:L[k]?=some x):gB (L.take (k+1)) f=gB (L.take k) f ++ if x.frame != f then [x] else []:=by
 unfold gB;rw [List.take_add_one,h,Option.toList_some,List.filter_append,List.filter_cons,List.filter_nil]
theorem cV_ (L:List Pt) (f:Int):(gB L f).length<=L.length:=List.length_filter_le _ _
theorem ij_ {L:List Pt} (f:Int) (h:LA sA w S v L) (ok:eD L) (hS:∀b,w.heap.size<=b->S b):C_ 198 #[v,I_ f] w (hw_ (gB L f) S w):=by
 obtain ⟨A,cap,rfl,hc,E⟩:=h.form;have p:=uV h ok;have B:=ok.len;have H:=H_ h;clear h ok;unfold maxLen at E;go_enter func198,ntmps198
 go_wp2_with (go_at_call 100;(with_reducible refine CM (p) ?_);rintro e w1 ⟨rfl,j⟩;have n:=H_ j;clear j)
 go_loopw [5,6] (fun u i wx=>∃k:Nat,i = I_ k/\k<=L.length/\LO sA 164 wx (w) S u (gB (L.take k) f)/\q_ w wx) (fun _ i _=>L.length - (intOf i).toNat)
 case atStart=>exact ⟨0,rfl,O_,LO.nil _ _ _ _ _,n.out⟩
 case round=>
  obtain ⟨k,rfl,I,C,m⟩:=hrel;have g:=H_ C;have d:=H_ m;clear C m
  by_cases r:k<L.length
  ·obtain ⟨x,t⟩:∃x,L[k]?=some x:=⟨_,cU r⟩;obtain ⟨b,o,rfl,D,c0,c1,c2,F,G⟩:=PtA.cells (H.step d.out) t;have y:=H_ (bd_ (f:=f) t);have s:=cV_ (L.take k) f;rw [List.length_take] at s;clear t
   by_cases l:x.frame=f
   ·have a:=H_ (show gB (L.take (k+1)) f=gB (L.take k) f by rw [y.out];simp [l]);go_wp2;go_roundw
    case rel=>exact ⟨k+1,by go_num,O_,by rw [a.out];exact g,d.out⟩
    case measure=>exact bH
   ·have a:=H_ (show gB (L.take (k+1)) f=gB (L.take k) f ++ [x] by rw [y.out];simp [l])
    go_wp2_with (at_builtin;(refine U_ hK_ rfl (.tmp 24) (.tmp 29) rfl S rfl (g.alloc _) (by have:=d.size;simp;omega) O_ #[I_ x.proc,I_ x.page,I_ x.frame,.bool x.wr,.bool x.acc] rfl (l_ _ _ _ rfl) x rfl ?_);intro v4 w4 c q z)
    go_roundw
    case rel=>exact ⟨k+1,by go_num,O_,by rw [a.out];exact c,(b_ d.out _).grown q (b_ d.out _).size (fun b m=>(g.own m).1)⟩
    case measure=>exact bH
  ·obtain rfl:k=L.length:=O_
   rw [List.take_length] at g;go_wp2;go_ret;exact ⟨_,rfl,g.la (fun _ _ h=>h) hS,d.out⟩
def mP (f:Int) (p:Pt):Pt:=if p.frame=f then {p with wr:=false} else p
end
section
theorem rU {a b c:Pt} (h1:bW a b=true) (h2:bW b c=true):bW a c=true:=by
 have h1:=of_decide_eq_true h1;have h2:=of_decide_eq_true h2;exact dT O_
theorem bn_ {a b:Pt} (h1:bW a b=true):bW b a=false:=by
 have h1:=of_decide_eq_true h1;exact dF O_
def fL (L:List Pt) (e:Pt):List Pt:=L.filter (bW · e) ++ e :: L.filter (bW e ·)
def mE (L:List Pt) (e:Pt) (k:Nat) (d:Bool):List Pt:=if d then fL (L.take k) e else L.take k
def gY (L:List Pt) (e:Pt) (k:Nat) (d:Bool):Prop:=if d then ∃y ∈ L.take k,bW y e=false else ∀y ∈ L.take k,bW y e=true
theorem rQ {l:List Pt} {e x:Pt} (h:bW x e=false):fL (l ++ [x]) e=fL l e ++ if bW e x then [x] else []:=by
 unfold fL;rw [List.filter_append,List.filter_append,List.filter_cons,List.filter_cons,List.filter_nil,List.filter_nil,h];simp
theorem uB {l:List Pt} {e:Pt} (h:∀y ∈ l,bW y e=true):fL l e=l ++ [e]:=by
 unfold fL;rw [List.filter_eq_self.2 h,List.filter_eq_nil_iff.2 (fun y hy=>by rw [bn_ (h y hy)];simp)]
theorem aR {α:Type} {L:List α} {x:α} (hx:L[k]?=some x):L.take (k+1)=L.take k ++ [x]:=by rw [List.take_add_one,hx];rfl
theorem h2_ {L:List Pt} (h:L.Pairwise (fun a b=>bW a b=true)) {x y:Pt} (hx:L[k]?=some x) (hy:y ∈ L.take k):bW y x=true:=by
 obtain ⟨hk,rfl⟩:=List.getElem?_eq_some_iff.1 hx;obtain ⟨i,hi,rfl⟩:=List.getElem_of_mem hy;rw [List.length_take] at hi;rw [List.getElem_take];exact List.pairwise_iff_getElem.1 h i k O_ hk O_
theorem gY.t {L:List Pt} {e x:Pt} (h:L.Pairwise (fun a b=>bW a b=true)) (hb:gY L e k true) (hx:L[k]?=some x):bW x e=false/\gY L e (k+1) true/\mE L e (k+1) true=mE L e k true ++ if bW e x then [x] else []:=by
 obtain ⟨y,d,c⟩:=hb;have h1:bW x e=false:=by
  cases hxe:bW x e with
  | false=>rfl
  | true=>rw [rU (h2_ h hx d) hxe] at c;cases c
 refine ⟨h1,⟨y,by rw [aR hx];exact List.mem_append_left _ d,c⟩,?_⟩
 show fL (L.take (k+1)) e=_
 rw [aR hx,rQ h1]
 rfl
theorem gY.f {L:List Pt} {e x:Pt} (hb:gY L e k false) (hx:L[k]?=some x) (hl:bW x e=true):gY L e (k+1) false/\mE L e (k+1) false=mE L e k false ++ [x]:=by
 refine ⟨fun y hy=>?_,aR hx⟩;rw [aR hx] at hy
 rcases List.mem_append.1 hy with hy | hy
 ·exact hb y hy
 ·simp at hy;subst hy;exact hl
theorem gY.now {L:List Pt} {e x:Pt} (hb:gY L e k false) (hx:L[k]?=some x) (hl:bW x e=false):gY L e (k+1) true/\mE L e (k+1) true=(mE L e k false ++ [e]) ++ if bW e x then [x] else []:=by
 refine ⟨⟨x,by rw [aR hx];simp,hl⟩,?_⟩
 show fL (L.take (k+1)) e=_
 rw [aR hx,rQ hl,uB hb]
 rfl
theorem gY.endT {L:List Pt} {e:Pt}:mE L e L.length true=fL L e:=by show fL (L.take L.length) e=_;rw [List.take_length]
theorem gY.endF {L:List Pt} {e:Pt} (h:gY L e L.length false):mE L e L.length false ++ [e]=fL L e:=by
 show L.take L.length ++ [e]=_
 have h':∀y ∈ L.take L.length,bW y e=true:=h;rw [List.take_length] at h' ⊢;exact (uB h').symm
theorem eD.enter {L:List Pt} {e:Pt} (h:eD L) (he:oW e):eD (fL L e):=by
 refine ⟨fun p c=>?_,?_⟩
 ·unfold fL at c
  rcases List.mem_append.1 c with c | c
  ·exact h.each p (List.mem_filter.1 c).1
  ·rcases List.mem_cons.1 c with rfl | c
   ·exact he
   ·exact h.each p (List.mem_filter.1 c).1
 ·unfold fL;rw [List.pairwise_append,List.pairwise_cons];refine ⟨h.asc.filter _,⟨fun y g=>(List.mem_filter.1 g).2,h.asc.filter _⟩,fun a f b d=>?_⟩;have h1:=(List.mem_filter.1 f).2
  rcases List.mem_cons.1 d with rfl | d
  ·exact h1
  ·exact rU h1 (List.mem_filter.1 d).2
theorem eD.drop {L:List Pt} (h:eD L) (f:Int):eD (gB L f):=⟨fun p hp=>h.each p (List.mem_filter.1 hp).1,h.asc.filter _⟩
theorem eD.shut {L:List Pt} (h:eD L) (f:Int):eD (L.map (mP f)):=by
 have h0:∀p,(mP f p).proc=p.proc/\(mP f p).page=p.page/\(mP f p).frame=p.frame:=fun p=>by unfold mP;split <;> exact ⟨rfl,rfl,rfl⟩
 refine ⟨fun p k=>?_,?_⟩
 ·obtain ⟨q,l,rfl⟩:=List.mem_map.1 k;obtain ⟨c,d,g⟩:=h0 q;have:=h.each q l;unfold oW at this ⊢;rw [c,d,g];exact this
 ·rw [List.pairwise_map];refine h.asc.imp fun {a b} hab=>?_;obtain ⟨c,d,_⟩:=h0 a;obtain ⟨i,j,_⟩:=h0 b;unfold bW at hab ⊢;rw [c,d,i,j];exact hab
theorem eD.nil:eD []:=⟨fun p hp=>by simp at hp,List.Pairwise.nil⟩
theorem dV {w':World} {r:Option Nat} {o:Obj} (hg:w.grownBy w' r) (h:w.heap[g]?=some o) (hn:r≠some g):w'.heap[g]?=some o:=(hg.block g (p_ h) (fun e=>hn e.symm)).trans h
end
section
structure Zn where
 first:Int
 size:Int
 mn:Int
 low:Int
 high:Int
 free:List Int
def ZnP (w:World) (S:Nat->Prop) (z:Zn) (r:List Value):Prop:=∃v,r=[I_ z.first,I_ z.size,I_ z.mn,I_ z.low,I_ z.high,v]/\LA M_ w S v z.free
def pE:RR Zn 6 where
 p:=ZnP
 st w w' S a r hk h:=by obtain ⟨v,e,h⟩:=h;exact ⟨v,e,h.kept hk⟩
 wk w S S' a r hS h:=by obtain ⟨v,e,h⟩:=h;exact ⟨v,e,h.weak hS⟩
 sh w S a r h:=by
  obtain ⟨v,rfl,h⟩:=h;refine ⟨rfl,fun u hu=>?_⟩;simp only[qJ,List.not_mem_nil,or_false] at hu
  rcases hu with rfl | rfl | rfl | rfl | rfl | rfl
  ·rfl
  ·rfl
  ·rfl
  ·rfl
  ·rfl
  ·exact h.oneCell
theorem hl_:(prog.info? 155).map (fun i=>(i.zero,i.size,i.bytes))=some (some (.agg #[I_ 0,I_ 0,I_ 0,I_ 0,I_ 0,S_ none 0 0]),6,64):=by kernel_rfl
theorem fI_:rY prog 25 155 6:=by
 obtain ⟨i,h1,h2,h3,h4⟩:=info_parts hl_;exact ⟨i,_,64,underlying25,h1,h2,h3,h4,rfl,O_,O_⟩
theorem hm_:(prog.info? 155).map (·.size)=some 6:=by kernel_rfl
def nP (L:List Zn):Int:=L.foldl (fun n z=>n+z.size) 1
theorem mH (L:List Zn) (z:Zn):nP (L ++ [z])=nP L+z.size:=by unfold nP;rw [List.foldl_append];rfl
structure a3_ (next:Int) (z:Zn):Prop where
 fst:z.first=next
 sz:1<=z.size/\z.size<=65 - next
 wm:0<=z.mn/\z.mn<=z.low/\z.low<=z.high/\z.high<=z.size
 rng:∀x ∈ z.free,z.first<=x/\x<z.first+z.size
 asc:z.free.Pairwise (·<·)
structure cC (L:List Zn):Prop where
 ne:0<L.length
 each:∀(i:Nat) (z:Zn),L[i]?=some z->a3_ (nP (L.take i)) z
theorem cC.nx {L:List Zn} (h:cC L):∀(k:Nat),k<=L.length->1+(k:Int)<=nP (L.take k)/\nP (L.take k)<=65
 | 0,_=>by simp [nP]
 | k+1,hk=>by
  obtain ⟨h1,h2⟩:=cC.nx h k O_;have hx:L[k]?=some L[k]:=cU O_;have h3:=(h.each k _ hx).sz;rw [aR hx,mH];omega
theorem cC.len {L:List Zn} (h:cC L):L.length<=64:=by have:=h.nx L.length (aQ _);omega
theorem a3_.flen {z:Zn} (h:a3_ n z) (hn:1<=n):z.free.length<=64:=
 uQ 64 _ (wO h.asc) (fun x hx=>by
  have h1:=h.rng x hx;have h2:=h.sz;have h3:=h.fst;omega)
theorem ZnA.cells {n:Nat} {L:List Zn} (h:LA pE w S (S_ A n cap) L) {i:Nat} {z:Zn} (hi:L[i]?=some z):∃b o A' cap',A=some ⟨b,o,none⟩/\b<w.heap.size/\LA M_ w S (S_ A' z.free.length cap') z.free/\z.free.length<=cap'/\cap'<=maxLen/\
  w.cell? ⟨b,o+i*6,none⟩=some (I_ z.first)/\w.cell? ⟨b,o+i*6+1,none⟩=some (I_ z.size)/\w.cell? ⟨b,o+i*6+2,none⟩=some (I_ z.mn)/\w.cell? ⟨b,o+i*6+3,none⟩=some (I_ z.low)/\w.cell? ⟨b,o+i*6+4,none⟩=some (I_ z.high)/\w.cell? ⟨b,o+i*6+5,none⟩=some (S_ A' z.free.length cap'):=by
 obtain ⟨b,o,cap',r,hv,c1,c2,c,j,d,hc⟩:=h.at_ hi;injection hv with e1 _ _
 obtain ⟨v,rfl,hf⟩:=d;obtain ⟨A',a,rfl,f,g⟩:=hf.form;exact ⟨b,o,A',a,e1,c,hf,f,g,hc 0 _ rfl,hc 1 _ rfl,hc 2 _ rfl,hc 3 _ rfl,hc 4 _ rfl,hc 5 _ rfl⟩
theorem iG {L:List Zn} (h:LA pE w S v L) (ok:cC L):C_ 99 #[v] w (cP true w):=by
 obtain ⟨A,cap,rfl,a2,F⟩:=h.form;have H:=H_ h;have Q:=H_ ok;have Z:=ok.len;have n0:=ok.ne;have n1:(0:Int)<(L.length:Int):=O_
 unfold maxLen at F;clear h ok;go_enter func99,ntmps99;go_wp2
 go_loopw [3,4] (fun a i wx=>∃k:Nat,i = I_ k/\a = I_ (nP (L.take k))/\k<=L.length/\q_ w wx) (fun _ i _=>L.length - (intOf i).toNat)
 case atStart=>exact ⟨0,rfl,rfl,O_,aI _ _⟩
 case round=>
  obtain ⟨k,rfl,rfl,hk,r⟩:=hrel;have d:=H_ r;clear r;obtain ⟨x1,x2⟩:=Q.nx k hk
  by_cases I:k<L.length
  ·obtain ⟨z,C⟩:∃z,L[k]?=some z:=⟨_,cU I⟩;have t:=Q.each k z C;obtain ⟨b,o,A',cap',rfl,a1,g,q1,q2,c0,c1,c2,R,U,V⟩:=ZnA.cells (H.step d.out) C;have P:=H_ (show nP (L.take (k+1))=nP (L.take k)+z.size by rw [aR C,mH]);have G:=t.flen O_;obtain ⟨r1,⟨r2,r3⟩,⟨r4,r5,r6,r7⟩,N,O⟩:=t;obtain ⟨fi,c,mn,lo,l,fr⟩:=z
   dsimp only at g q1 q2 c0 c1 c2 R U V P G r1 r2 r3 r4 r5 r6 r7 N O
   subst r1;generalize nP (L.take k)=a at *;obtain ⟨E,D,f⟩:=eT N O g;have d1:(a != a)=false:=z_
   have d2:decide (c<1)=false:=dF O_;have d3:decide (65 - a<c)=false:=dF O_;have d4:decide (mn<0)=false:=dF O_;have d5:decide (lo<mn)=false:=dF O_;have d6:decide (l<lo)=false:=dF O_;have d7:decide (c<l)=false:=dF O_;unfold maxLen at q2;clear C g N O;go_wp2;have p:=H_ (g_ wr (.cells #[I_ a,I_ c,I_ mn,I_ lo,I_ l,S_ A' fr.length cap'] 155));have q:=H_ (b_ d.out (.cells #[I_ a,I_ c,I_ mn,I_ lo,I_ l,S_ A' fr.length cap'] 155));have n:=H_ (f.alloc (.cells #[I_ a,I_ c,I_ mn,I_ lo,I_ l,S_ A' fr.length cap'] 155));clear c0 c1 c2 R U V f
   go_loopw [6] (fun j wx=>∃m:Nat,j = I_ m/\m<=fr.length/\q_ w wx/\aW wx (wr) #[I_ a,I_ c,I_ mn,I_ lo,I_ l,S_ A' fr.length cap'] 155/\LA M_ wx S (S_ A' fr.length cap') fr) (fun j _=>fr.length - (intOf j).toNat)
   case atStart=>exact ⟨0,rfl,O_,q.out,p.out,n.out⟩
   case round=>
    clear p q n d;obtain ⟨m,rfl,hm,r,B,Y⟩:=hrel;obtain ⟨d,p,f⟩:=eT r B Y;obtain ⟨p0,p1,p2,p3,p4,p5⟩:=cs6 B;have a3:=p_ B;clear r B Y
    by_cases s:m<fr.length
    ·obtain ⟨x,u⟩:∃x,fr[m]?=some x:=⟨_,cU s⟩;obtain ⟨b9,o9,X,hv,_,_,a0,_,c0⟩:=IL.cell f.out u;injection hv with e1 e2 e3
     obtain ⟨g1,g2⟩:=E.out x (fF u);have t1:decide (x<a)=false:=dF O_;have t2:decide (a+c<=x)=false:=dF O_;have w1:i64.wrap (a+c)=a+c:=fA O_
     cases m with
     | zero=>
      rw [Nat.add_zero] at c0;subst e1;clear u e2 e3
      go_upto_region 11 with fail
      go_quiet (fail);go_wp2;go_roundw
      case rel=>exact ⟨1,rfl,O_,below_drewN d.out _,p.out,f.step (below_drewN B_ _)⟩
      case measure=>exact bH
     | succ m=>
      obtain ⟨y,K⟩:∃y,fr[m]?=some y:=⟨_,cU O_⟩;obtain ⟨b8,o8,W,J,_,_,_,_,c1⟩:=IL.cell f.out K;injection J with e4 _ _
      rw [e1] at e4;injection e4 with e4
      injection e4 with e5 e6
      subst e1 e5 e6;have M:y<x:=by
       have:=List.pairwise_iff_getElem.1 D.out m (m+1) O_ s O_;rw [<-(List.getElem?_eq_some_iff.1 K).2,<-(List.getElem?_eq_some_iff.1 u).2];exact this
      have t3:decide (x<=y)=false:=dF O_;have w2:i64.wrap ((m:Int)+1 - 1)=(m:Int):=by rw [fA O_];omega
      have g0:(0:Int)<(m:Int)+1:=O_
      clear u K e2 e3 M
      go_upto_region 11 with fail
      go_quiet (fail);go_wp2;go_roundw
      case rel=>exact ⟨m+2,by go_num,O_,below_drewN d.out _,p.out,f.out.step (below_drewN B_ _)⟩
      case measure=>exact bH
    ·obtain rfl:m=fr.length:=O_
     go_wp2;go_roundw
     case rel=>exact ⟨k+1,by go_num,by rw [P.out],O_,d.out⟩
     case measure=>exact bH
  ·obtain rfl:k=L.length:=O_
   go_wp2;go_ret
   exact ⟨rfl,d.out⟩
end
section
def jz_ (L:List Zn) (S:Nat->Prop) (w:World) (e:Ending) (w':World):Prop:=∃v,e = .returned v/\LA pE w' S v L/\q_ w w'
abbrev znV (a b c d e:Int) (v:Value):Value:= .agg #[I_ a,I_ b,I_ c,I_ d,I_ e,v]
theorem cD_ (L:List Zn) (i:Nat) (a b c d f:Int) (u:Value) (l:List Int) (v:Value) (S:Nat->Prop) (w:World) (h:LA pE w S v L) (hi:i<L.length) (hu:LA M_ w S u l) (hl:L.length<=100) (hS:∀b,w.heap.size<=b->S b) :
  C_ 186 #[v,I_ i,znV a b c d f u] w (jz_ (L.set i ⟨a,b,c,d,f,l⟩) S w):=by
 obtain ⟨A,cap,rfl,E,F⟩:=h.form;obtain ⟨A',cap',rfl,I,nM⟩:=hu.form;obtain ⟨H,B,x⟩:=eT h hu hS;have s:=H_ (g_ w (.cells #[I_ a,I_ b,I_ c,I_ d,I_ f,S_ A' l.length cap'] 155));have r:=H_ (b_ (aI (w) w) (.cells #[I_ a,I_ b,I_ c,I_ d,I_ f,S_ A' l.length cap'] 155));have N:(0:Int)<=(i:Int):=O_
 have O:(i:Int)<(L.length:Int):=O_
 clear h hu hS;go_enter func186,ntmps186
 go_wp2_with (first
  | (at_builtin;refine cN pE fI_ rfl _ _ rfl rfl _ (fun z=>S z/\z<w.heap.size) L rfl (H.old.alloc _) O_ ?_;intro v4 w4 g j;obtain ⟨G,D,rfl,K,M,X,k⟩:=g.lw O_;have t:=H_ j;have q:=H_ (dV j s.out z_);have y:=H_ (k.there (i:=i) (p:=0) (n:=6) hi O_);have C:=H_ k;clear g k j;obtain ⟨P,Q,R,U,V,W⟩:=cs6 q.out)
  | (refine pF rfl 155 (.tmp 13) (.tmp 12) rfl G (i*6) #[I_ a,I_ b,I_ c,I_ d,I_ f,S_ A' l.length cap'] rfl rfl y.out hm_ (by simp [Value.oneCell']) ?_))
 go_ret;have o:=r.grown t.out r.size (fun b o=>by cases o)
 have J:w.heap.size<(w.alloc (.cells #[I_ a,I_ b,I_ c,I_ d,I_ f,S_ A' l.length cap'] 155)).heap.size:=p_ s;have m:=C.set (i:=i) (a:=(⟨a,b,c,d,f,l⟩:Zn)) hi (vs:=[I_ a,I_ b,I_ c,I_ d,I_ f,S_ A' l.length cap']) ⟨_,rfl,(B.old.step o).weak (fun z _ h=>⟨h,by have:=h.2;omega⟩)⟩;refine ⟨_,rfl,?_,aS o O_ _ _⟩;have:=m.la (S':=S) (cap:=D) (x.out G O_) (fun z _ h=>h.1.1) (by rw [lL];exact K) M;rw [lL] at this;exact this
def d4_ (z:Zn) (u:Bool):Bool:=decide (z.mn<(z.free.length:Int))||(u&&decide (0<z.free.length))
def kI (L:List Zn) (u:Bool):Nat->Option Nat
 | 0=>none
 | i+1=>match L[i]? with
  | some z=>if d4_ z u then some i else kI L u i
  | none=>none
def cA (L:List Zn) (u:Bool) (p:Nat):List Zn × Int × Int:=
 match kI L u (p+1) with
 | some i=>match L[i]? with
  | some z=>(L.set i {z with free:=z.free.drop 1},z.free.headD 0,0)
  | none=>(L,0,3)
 | none=>(L,0,3)
def jy_ (r:List Zn × Int × Int) (S:Nat->Prop) (w:World) (e:Ending) (w':World):Prop:=∃v,e = .returned (.tuple #[v,I_ r.2.1,I_ r.2.2])/\LA pE w' S v r.1/\q_ w w'
theorem iR_ {L:List Zn} (p:Nat) (u:Bool) (h:LA pE w S v L) (hp:p<L.length) (ok:cC L) (hS:∀b,w.heap.size<=b->S b) :
  C_ 132 #[v,I_ p,.bool u] w (jy_ (cA L u p) S w):=by
 obtain ⟨A,cap,rfl,a9,Y⟩:=h.form;have Z:=iG h ok;obtain ⟨H,R,HS⟩:=eT h ok hS;have a6:=ok.len;have i0:(0:Int)<=(p:Int):=O_
 have i1:(p:Int)<(L.length:Int):=O_
 clear h ok hS;unfold maxLen at Y;go_enter func132,ntmps132
 go_wp2_with (go_at_call 99;(with_reducible refine CM Z ?_);rintro e w1 ⟨rfl,G⟩;have D:=H_ G;clear G)
 go_loopw [9] (fun i wx=>∃k:Nat,i = I_ ((k:Int) - 1)/\k<=p+1/\kI L u (p+1)=kI L u k/\q_ w wx) (fun i _=>(intOf i+1).toNat)
 case atStart=>exact ⟨p+1,by go_num,O_,rfl,D.out⟩
 case round=>
  clear D;obtain ⟨k,rfl,hk,K,f⟩:=hrel;have l:=H_ f;have d:=H_ K;clear f K
  cases k with
  | zero=>
   have HQ:=H_ (show cA L u p=(L,0,3) by unfold cA;rw [d.out];rfl);go_wp2
   go_ret3
   rw [HQ.out];exact ⟨_,rfl,H.step l.out,l.out⟩
  | succ i=>
   have hi:i<L.length:=O_
   obtain ⟨z,C⟩:∃z,L[i]?=some z:=⟨_,cU hi⟩;have J:=R.each i z C;have x1:=(R.nx i O_).1;obtain ⟨b,o,A',cap',rfl,a8,j,q1,q2,c0,c1,c2,c3,c4,c5⟩:=ZnA.cells (H.step l.out) C;have g:=J.flen O_;have HZ:=H_ C;have B:=fun v' w' (f:q_ w w') hu=>cD_ L i z.first z.size z.mn z.low z.high v' (z.free.drop 1) _ S w' (H.step f) hi hu O_ (fun b V=>HS.out b (dO f.size V));have r:=H_ (show kI L u (i+1)=if d4_ z u then some i else kI L u i by simp only[kI];rw [C]);have e1:((i+1:Nat):Int) - 1=(i:Int):=O_
   rw [e1];obtain ⟨fi,si,mn,lo,hg,fr⟩:=z
   dsimp only at j q1 q2 c0 c1 c2 c3 c4 c5 g B
   have ac:(i:Int)<(L.length:Int):=O_
   clear C J e1;unfold maxLen at q2
   cases hcan:d4_ ⟨fi,si,mn,lo,hg,fr⟩ u with
   | false=>
    have N:=H_ (show kI L u (p+1)=kI L u i by rw [d.out,r.out,hcan];rfl);have X:decide (mn<(fr.length:Int))=false/\(u&&decide (0<fr.length))=false:=Bool.or_eq_false_iff.1 hcan;obtain ⟨d1,O⟩:=X;clear hcan
    cases u with
    | true=>
     have a0:fr.length=0:=by have:=of_decide_eq_false (show decide (0<fr.length)=false from O);omega
     have d3:decide (0<fr.length)=false:=O;have d4:decide ((0:Int)<(fr.length:Int))=false:=dF O_;clear a0 O;go_wp2;go_roundw
     case rel=>exact ⟨i,by go_num,O_,N.out,b_ l.out _⟩
     case measure=>first | (simp [intOf];done) | (simp [intOf];omega)
    | false=>
     clear O;go_wp2;go_roundw
     case rel=>exact ⟨i,by go_num,O_,N.out,b_ l.out _⟩
     case measure=>first | (simp [intOf];done) | (simp [intOf];omega)
   | true=>
    have q:0<fr.length:=by
     rcases Bool.or_eq_true_iff.1 hcan with h | h
     ·have h:=of_decide_eq_true h;have:=R.out;have C:=this.each i _ HZ;have:=C.wm.1
      dsimp only at h this
      omega
     ·exact of_decide_eq_true ((Bool.and_eq_true_iff.1 h).2)
    have N:=H_ (show cA L u p=(L.set i ⟨fi,si,mn,lo,hg,fr.drop 1⟩,fr.headD 0,0) by unfold cA;rw [d.out,r.out,hcan];simp only[if_true];rw [HZ.out]);obtain ⟨x,c,rfl⟩:∃x c,fr=x :: c:=by cases fr with
     | nil=>simp at q
     | cons x c=>exact ⟨x,c,rfl⟩
    simp only[List.drop_succ_cons,List.drop_zero] at B;obtain ⟨b8,o8,a4,a3,_,_,a7,_,g0⟩:=IL.cell j (i:=0) (x:=x) rfl;injection a3 with e4 e5 e6
    subst e4;clear e5 e6;rw [Nat.add_zero] at g0;obtain ⟨M,U⟩:∃M:Option Addr,(if cap'=1 then some (⟨b8,o8,none⟩:Addr) else some ⟨b8,o8+1,none⟩)=M:=⟨_,rfl⟩;have t:=j.drop (n:=1) z_ M (fun h=>by rw [<-U,if_neg O_]);obtain ⟨m,I⟩:=aZ ((x :: c).length);have aa:1<=m:=by rw [I];simp
    have a5:m<=64:=by rw [I];exact g
    have s:decide (mn<(m:Int))=true\/(decide (mn<(m:Int))=false/\u=true):=by
     rw [I]
     rcases Bool.or_eq_true_iff.1 hcan with h | h
     ·exact .inl h
     ·cases hd:decide (mn<((x :: c).length:Int)) with
      | true=>exact .inl rfl
      | false=>exact .inr ⟨rfl,(Bool.and_eq_true_iff.1 h).1⟩
    rw [<-I] at c5 t q1;have P:=H_ t;have g1:(0:Int)<(m:Int):=O_
    have g2:1<=cap':=O_
    have ab:c.length<=64:=by have:=g;simp at this;omega
    have a1:=l.size;have gn:0<m:=O_
    clear j t g q hcan I r d
    rcases s with d1 | ⟨d1,rfl⟩
    all_goals
     go_wp2_with (first
      | (at_builtin;refine cN M_ cS rfl _ _ rfl rfl (S_ M (m - 1) (cap' - 1)) (fun z=>S z/\z<wr.heap.size) c rfl (P.old.alloc _) O_ ?_;intro v4 w4 a y;obtain ⟨A5,c9,rfl,_,_⟩:=(a.la (S':=gL) (fun _ _ _=>trivial) (fun _ _=>trivial)).form;have F:=H_ (dV y (g_ wr _) z_);have f5:=t_ F 5;obtain ⟨p0,p1,p2,p3,p4,p5⟩:=cs6 F.out;have E:=H_ (bA ((b_ l.out _).grown y (b_ l.out _).size (fun b f=>by cases f)) ⟨wr,5,none⟩ (S_ A5 c.length c9) a1);have Q:=H_ (((a.la (S':=fun z=>S z/\z≠wr.heap.size) (fun b _ h=>⟨h.1,by have:=h.2;omega⟩) (fun b f=>by simp at f;exact ⟨HS.out b O_,O_⟩)).kept (r_.of_setCell w4 ⟨wr,5,none⟩ (S_ A5 c.length c9) (fun h=>h.2 rfl))).weak (S':=S) (fun _ _ h=>h.1));clear a y)
      | (go_at_call 186;(with_reducible refine CM (B _ _ E.out Q.out) ?_);rintro e w6 ⟨v6,rfl,a2,W⟩))
     go_ret3
     rw [N.out];exact ⟨_,rfl,a2,d_ E.out W⟩
def eM (L:List Zn):Nat:=(L.map (fun z=>z.free.length)).sum
theorem bi_ (L:List Zn) (z:Zn):eM (L ++ [z])=eM L+z.free.length:=by unfold eM;rw [List.map_append,List.sum_append];simp
theorem er_ {L:List Zn} (h:∀z ∈ L,z.free.length<=64):eM L<=L.length*64:=by
 induction L with
 | nil=>simp [eM]
 | cons z L ih=>
  have h1:=h z (List.mem_cons_self ..);have h2:=ih fun x a=>h x (List.mem_cons_of_mem _ a);unfold eM at h2 ⊢;rw [List.map_cons,List.sum_cons,cL_];omega
theorem hk_ {L:List Zn} (h:LA pE w S v L) (ok:cC L):C_ 84 #[v] w (sB (eM L) w):=by
 obtain ⟨A,cap,rfl,x,g⟩:=h.form;have j:=iG h ok;have t:=ok.len;have d:∀k,k<=L.length->eM (L.take k)<=k*64:=fun k m=>by
  have h1:=er_ (L:=L.take k) (fun z f=>by
   obtain ⟨i,s⟩:=List.getElem?_of_mem (List.mem_of_mem_take f);have:=ok.nx i (Nat.le_of_lt (bK s));exact (ok.each i z s).flen O_)
  rw [List.length_take,Nat.min_eq_left m] at h1;exact h1
 have H:=H_ h;have q:=H_ d;clear h ok d;unfold maxLen at g;go_enter func84,ntmps84
 go_wp2_with (go_at_call 99;(with_reducible refine CM j ?_);rintro e w1 ⟨rfl,c⟩;have a:=H_ c;clear c)
 go_loop [3,4] (fun n i=>∃k:Nat,i = I_ k/\k<=L.length/\n = I_ (eM (L.take k))) (fun _ i=>L.length - (intOf i).toNat)
 case atStart=>exact ⟨0,rfl,O_,rfl⟩
 case round=>
  obtain ⟨k,rfl,m,rfl⟩:=hrel;have h1:=q k m;have h2:(eM (L.take k):Int)<=4096:=O_
  by_cases p:k<L.length
  ·obtain ⟨z,f⟩:∃z,L[k]?=some z:=⟨_,cU p⟩;obtain ⟨b,o,A',cap',rfl,u,l,F,G,c0,c1,c2,y,B,C⟩:=ZnA.cells (H.step a.out) f;have r:=H_ (show eM (L.take (k+1))=eM (L.take k)+z.free.length by rw [aR f,bi_]);have h3:=q.out (k+1) O_;rw [r.out] at h3;have E:(z.free.length:Int)<=4160:=O_
   generalize eM (L.take k)=D at *;clear f l;go_wp2
   go_round
   case rel=>exact ⟨k+1,by go_num,O_,by rw [r.out];go_num⟩
   case measure=>exact bH
  ·obtain rfl:k=L.length:=O_
   rw [List.take_length] at *;go_wp2;go_ret;exact ⟨rfl,a.out⟩
end
section
theorem cC.mono {L:List Zn} (h:cC L) {k:Nat}:∀(i:Nat),k<=i->i<=L.length->nP (L.take k)<=nP (L.take i)
 | 0,hk,_=>by rw [Nat.le_zero.1 hk];exact Int.le_refl _
 | i+1,hk,hi=>by
  by_cases he:k=i+1
  ·rw [he];exact Int.le_refl _
  ·have h1:=cC.mono (k:=k) h i O_ O_;have hx:L[i]?=some L[i]:=cU O_;have h3:=(h.each i _ hx).sz;rw [aR hx,mH];omega
theorem cC.before {L:List Zn} (h:cC L) {i:Nat} {z z':Zn} (hk:L[k]?=some z) (hi:L[i]?=some z') (hki:k<i):z.first+z.size<=z'.first:=by
 have h1:=h.mono (k:=k+1) i hki (Nat.le_of_lt (bK hi));rw [aR hk,mH] at h1;have h2:=(h.each k z hk).fst;have h3:=(h.each i z' hi).fst;omega
def hz_ (L:List Zn) (err:Int) (S:Nat->Prop) (w:World) (e:Ending) (w':World):Prop:=∃v,e = .returned (.tuple #[v,I_ err])/\LA pE w' S v L/\q_ w w'
theorem eG_ {e:TypeId} {base:Nat} {S S':Nat->Prop} {L:List Int} (h:LO M_ e w base S v L) (_:∀b,base<=b->True) (hb:∀b,base<=b->S' b):LA M_ w S' v L:=by
 obtain ⟨rows,w1,w2⟩:=h;have h2:LO M_ e w base (fun _=>False) v L:=⟨rows,w1,w2⟩;exact h2.la (fun _ _ h=>h.elim) hb
theorem io_ {L:List Zn} (i:Nat) (z:Zn) (f:Int) (h:LA pE w S v L) (hi:L[i]?=some z) (hf:z.first<=f/\f<z.first+z.size) (hnf:f ∉ z.free) (ok:cC L) (hS:∀b,w.heap.size<=b->S b) :
  C_ 201 #[v,I_ f] w (hz_ (L.set i {z with free:=dQ z.free f}) 0 S w):=by
 obtain ⟨A,cap,rfl,ar,ad⟩:=h.form;have ae:=iG h ok;have au:=bK hi;obtain ⟨H,OK,HS,HI,a1⟩:=h5_ h ok hS hi hnf;have an:=ok.len;clear h ok hS hi hnf;unfold maxLen at ad;go_enter func201,ntmps201
 go_wp2_with (go_at_call 99;(with_reducible refine CM ae ?_);rintro e w1 ⟨rfl,a3⟩;have Z:=H_ a3;clear a3)
 go_loopw [6] (fun j wx=>∃k:Nat,j = I_ k/\k<=i/\q_ w wx) (fun j _=>L.length - (intOf j).toNat)
 case atStart=>exact ⟨0,rfl,O_,Z.out⟩
 case round=>
  clear Z;obtain ⟨k,rfl,hk,q⟩:=hrel;have Y:=H_ q;clear q;have a5:k<L.length:=O_
  obtain ⟨G,W⟩:∃z,L[k]?=some z:=⟨_,cU a5⟩;have y:=OK.each k G W;obtain ⟨x1,x2⟩:=OK.nx k O_;obtain ⟨b,o,A',cap',rfl,aq,D,q1,q2,c0,c1,c2,c3,c4,c5⟩:=ZnA.cells (H.step Y.out) W;have a4:=y.flen O_;have a7:=y.sz;have M:=y.fst;have av:=y.sz
  by_cases ag:k<i
  ·have ac:=OK.before W HI ag;obtain ⟨g,s,mn,lo,E,fr⟩:=G
   dsimp only at D q1 q2 c0 c1 c2 c3 c4 c5 a4 ac a7 M
   have d1:decide (f<g)=false:=dF O_;have d2:decide (g+s<=f)=true:=dT O_;have b1:-1000<=g:=O_
   have b2:g<=1000:=O_
   have b3:s<=1000:=O_
   unfold maxLen at q2;clear W y D M;go_wp2;go_roundw
   case rel=>exact ⟨k+1,by go_num,O_,b_ Y.out _⟩
   case measure=>exact bH
  ·obtain rfl:k=i:=O_
   obtain rfl:G=z:=aP (W.symm.trans HI.out);have U:=fun v' w' (q:q_ w w') hu=>cD_ L k G.first G.size G.mn G.low G.high v' (dQ G.free f) _ S w' (H.step q) a5 hu O_ (fun b ab=>HS.out b (dO q.size ab));obtain ⟨g,s,mn,lo,E,fr⟩:=G
   dsimp only at D q1 q2 c0 c1 c2 c3 c4 c5 a4 a7 M hf a1 U
   have d1:decide (f<g)=false:=dF O_;have d2:decide (g+s<=f)=false:=dF O_;have b1:-1000<=g:=O_
   have b2:g<=1000:=O_
   have b3:s<=1000:=O_
   have a8:=Y.size;unfold maxLen at q2;have a0:=H_ D;obtain ⟨V,hV⟩:=aZ wr;subst hV;clear W y D M;go_wp2
   go_loopw [8,9,10] (fun u dv j wx=>∃(m:Nat) (d:Bool),j = I_ m/\dv = .bool d/\m<=fr.length/\kA fr f m d/\LO M_ 3 wx (V+1) S u (jE fr f m d)/\Below (V+1) (V.alloc (.cells #[I_ g,I_ s,I_ mn,I_ lo,I_ E,S_ A' fr.length cap'] 155)) wx) (fun _ _ j _=>fr.length - (intOf j).toNat)
   case atStart=>exact ⟨0,false,rfl,rfl,O_,kA.zero _ _,LO.nil _ _ _ _ _,aI _ _⟩
   case round=>
    clear c0 c1 c2 c3 c4 c5;obtain ⟨m,d,rfl,rfl,hm,hi,ho,r⟩:=hrel;have C:=H_ ho;have I:=H_ hi;have r:Below (V.alloc (.cells #[I_ g,I_ s,I_ mn,I_ lo,I_ E,S_ A' fr.length cap'] 155)).heap.size (V.alloc (.cells #[I_ g,I_ s,I_ mn,I_ lo,I_ E,S_ A' fr.length cap'] 155)) wr:=by simpa using r
    have n:=H_ r;have hZ:=i_ (g_ V (.cells #[I_ g,I_ s,I_ mn,I_ lo,I_ E,S_ A' fr.length cap'] 155)) r;have HZ:=H_ hZ;have a9:=r.size;rw [show (V.alloc (.cells #[I_ g,I_ s,I_ mn,I_ lo,I_ E,S_ A' fr.length cap'] 155)).heap.size=V.heap.size+1 by simp] at a9;have am:=am_ fr f m d;have hF:LA M_ wr S (S_ A' fr.length cap') fr:=(a0.alloc _).step r;have aa:=H_ (d_ (b_ Y.out _) r);have HF:=H_ hF;obtain ⟨p0,p1,p2,p3,p4,p5⟩:=cs6 hZ;clear ho hi r hZ
    by_cases ah:m<fr.length
    ·obtain ⟨x,hx⟩:∃x,fr[m]?=some x:=⟨_,cU ah⟩;obtain ⟨b9,o9,ak,hv,_,_,ap,_,c0⟩:=IL.cell hF hx;injection hv with e1 e2 e3
     subst e1;have aw:¬x=f:=fun e=>a1 (e ▸ fF hx);have J:=H_ hx;clear e2 e3 hx hF
     cases d with
     | true=>
      have F:=H_ (I.t J)
      go_wp2_with (at_builtin;(refine U_ cS rfl (.tmp 68) (.tmp 74) rfl S rfl (C.alloc _) (by simp;omega) O_ #[I_ x] rfl (l_ _ _ _ rfl) x rfl ?_);intro v4 w4 a l p)
      go_roundw
      case rel=>exact ⟨m+1,true,by go_num,rfl,O_,F.out.1,by rw [F.out.2];exact a,by
       have:=(b_ n.out (.cells #[I_ x] 3)).grown l (b_ n.out _).size (fun b q=>by have:=(C.own q).1;simp;omega)
       simpa using this⟩
      case measure=>exact bH
     | false=>
      by_cases a6:f<x
      ·have F:=H_ (I.now J a6)
       go_wp2_with (first
        | ((at_builtin;(refine U_ cS rfl (.tmp 64) (.tmp 66) rfl S rfl (C.alloc _) (by simp;omega) O_ #[I_ f] rfl (l_ _ _ _ rfl) f rfl ?_);intro v4 w4 a l p);have a2:=H_ a;have c:=(b_ n.out (.cells #[I_ f] 3)).grown l (b_ n.out _).size (fun b q=>by have:=(C.own q).1;simp;omega);have N:=H_ c;have K:=H_ (i_ (g_ V (.cells #[I_ g,I_ s,I_ mn,I_ lo,I_ E,S_ (some ⟨b9,o9,none⟩) fr.length cap'] 155)) c);have s4:=c.size;rw [show (V.alloc (.cells #[I_ g,I_ s,I_ mn,I_ lo,I_ E,S_ (some ⟨b9,o9,none⟩) fr.length cap'] 155)).heap.size=V.heap.size+1 by simp] at s4;obtain ⟨b7,o7,aj,ai,_,_,ao,_,g0⟩:=IL.cell ((a0.alloc (.cells #[I_ g,I_ s,I_ mn,I_ lo,I_ E,S_ (some ⟨b9,o9,none⟩) fr.length cap'] 155)).step c) J.out;injection ai with e1 e2 e3;injection e1 with e1;injection e1 with e4 e5;subst e4 e5;clear e2 e3 c0 p0 p1 p2 p3 p4 p5 a l p c;obtain ⟨p0,p1,p2,p3,p4,p5⟩:=cs6 K.out)
        | (at_builtin;(refine U_ cS rfl (.tmp 68) (.tmp 74) rfl S rfl (a2.alloc _) (by simp;omega) (by simp;omega) #[I_ x] rfl (l_ _ _ _ rfl) x rfl ?_);intro v5 w5 Q af al))
       go_roundw
       case rel=>exact ⟨m+1,true,by go_num,rfl,O_,F.out.1,by rw [F.out.2];exact Q,by
        have:=(b_ N.out (.cells #[I_ x] 3)).grown af (b_ N.out _).size (fun b q=>by have:=(a2.own q).1;simp;omega)
        simpa using this⟩
       case measure=>exact bH
      ·have F:=H_ (I.f J a6)
       go_wp2_with (at_builtin;(refine U_ cS rfl (.tmp 68) (.tmp 74) rfl S rfl (C.alloc _) (by simp;omega) O_ #[I_ x] rfl (l_ _ _ _ rfl) x rfl ?_);intro v4 w4 a l p)
       go_roundw
       case rel=>exact ⟨m+1,false,by go_num,rfl,O_,F.out.1,by rw [F.out.2];exact a,by
        have:=(b_ n.out (.cells #[I_ x] 3)).grown l (b_ n.out _).size (fun b q=>by have:=(C.own q).1;simp;omega)
        simpa using this⟩
       case measure=>exact bH
    ·obtain rfl:m=fr.length:=O_
     cases d with
     | true=>
      rw [kA.endT] at C;obtain ⟨X,c9,rfl,_,_⟩:=(C.la (S':=gL) (fun _ _ _=>trivial) (fun _ _=>trivial)).form;have f5:=t_ HZ 5;have B:=H_ (bA aa.out ⟨V,5,none⟩ (S_ X (dQ fr f).length c9) a8);have O:=H_ ((eG_ C.out (fun _ _=>trivial) (S':=fun z=>S z/\z≠V.heap.size) (fun b q=>⟨HS.out b O_,O_⟩)).kept (r_.of_setCell wr ⟨V,5,none⟩ (S_ X (dQ fr f).length c9) (fun h=>h.2 rfl)) |>.weak (S':=S) (fun _ _ h=>h.1))
      go_wp2_with (go_at_call 186;(with_reducible refine CM (U _ _ B.out O.out) ?_);rintro e w6 ⟨v6,rfl,R,P⟩)
      go_ret2
      exact ⟨_,rfl,R,d_ B.out P⟩
     | false=>
      have F:=H_ (I.endF)
      go_wp2_with (first
       | ((at_builtin;(refine U_ cS rfl (.tmp 78) (.tmp 80) rfl S rfl (C.alloc _) (by simp;omega) O_ #[I_ f] rfl (l_ _ _ _ rfl) f rfl ?_);intro v4 w4 a l p);rw [F.out] at a;obtain ⟨X,c9,rfl,_,_⟩:=(a.la (S':=gL) (fun _ _ _=>trivial) (fun _ _=>trivial)).form;have c:=(b_ n.out (.cells #[I_ f] 3)).grown l (b_ n.out _).size (fun b q=>by have:=(C.own q).1;simp;omega);have K:=H_ (i_ (g_ V (.cells #[I_ g,I_ s,I_ mn,I_ lo,I_ E,S_ A' fr.length cap'] 155)) c);have s4:=c.size;rw [show (V.alloc (.cells #[I_ g,I_ s,I_ mn,I_ lo,I_ E,S_ A' fr.length cap'] 155)).heap.size=V.heap.size+1 by simp] at s4;have f5:=t_ K 5;clear p0 p1 p2 p3 p4 p5;obtain ⟨p0,p1,p2,p3,p4,p5⟩:=cs6 K.out;have B:=H_ (bA (d_ (b_ Y.out _) c) ⟨V,5,none⟩ (S_ X (dQ fr f).length c9) a8);have O:=H_ ((eG_ a (fun _ _=>trivial) (S':=fun z=>S z/\z≠V.heap.size) (fun b q=>⟨HS.out b O_,O_⟩)).kept (r_.of_setCell w4 ⟨V,5,none⟩ (S_ X (dQ fr f).length c9) (fun h=>h.2 rfl)) |>.weak (S':=S) (fun _ _ h=>h.1));clear a l p c)
       | (go_at_call 186;(with_reducible refine CM (U _ _ B.out O.out) ?_);rintro e w6 ⟨v6,rfl,R,P⟩))
      go_ret2
      exact ⟨_,rfl,R,d_ B.out P⟩
end
end Go.Proofs.YtehfhnbpnaiogaaGreatDoor
