/-
  Lemmas and contracts for the laws of this seat, part 11; several texts joined by a program.
-/
import Derived.Test.YtehfhnbpnaiogaaGreatDoorD10
import Derived.Test.YtehfhnbpnaiogaaGreatDoorD00
namespace Go.Proofs.YtehfhnbpnaiogaaGreatDoor
set_option linter.unusedVariables false
set_option linter.unusedSimpArgs false
set_option maxRecDepth 100000
set_option maxHeartbeats 16000000
open Go.RowKit Go.Proofs.Tryz IntKind
variable {C C':Ck} {F G Z i j k n o off t:Nat} {S:Nat->Prop} {a b c d e f g:Value} {gp:Gr} {l:Lr} {p v:Int} {w:World} {x x':Fr} {y:Fl} {z:Zn} {α:Type}
section
variable {F G Z:Nat}
theorem eX {L:List α} {a b:α} (h:(L.set i a)[k]?=some b):(k=i/\b=a)\/(k≠i/\L[k]?=some b):=by
 rw [List.getElem?_set] at h
 split at h
 ·rename_i e
  split at h
  ·injection h with h
   exact .inl ⟨e.symm,h.symm⟩
  ·cases h
 ·rename_i e
  exact .inr ⟨fun h=>e h.symm,h⟩
theorem dO {L:List α} {a b:α} (hk:k≠i) (h:L[k]?=some b):(L.set i a)[k]?=some b:=by rw [gN_ (fun e=>hk e.symm)];exact h
theorem V_ {L:List α} {a b:α} (h:L[i]?=some b):(L.set i a)[i]?=some a:=lM (bI h)
theorem dQ {c:Cn} {q:Int} (hp:kF p=true):J_ (bD c p v).1 q=if q=p then v else J_ c q:=by
 unfold bD;rw [if_pos hp];have d:=nR hp;unfold J_
 by_cases a:kF q=true
 ·have f:=nR a;rw [if_pos a,if_pos a]
  by_cases e:q=p
  ·subst e;simp [upd]
  ·have b:q.toNat≠p.toNat:=O_
   simp [upd,b,e]
 ·rw [if_neg a,if_neg a];rw [if_neg (fun e:q=p=>a (e ▸ hp))]
theorem uD (h:jE x):kF x.page=true:=by
 have:=h.page;unfold kF;simp;omega
theorem cF.two (h:cF F G Z C):(∃z0,C.zones=[z0]/\z0.first=1/\1+z0.size=(C.frames.length:Int)+1)\/∃z0 z1,C.zones=[z0,z1]/\z0.first=1/\z1.first=1+z0.size/\1+z0.size+z1.size=(C.frames.length:Int)+1:=by
 have hl:C.zones.length<=2:=by have:=h.nz;have:=h.few;omega
 have b:=h.zok.ne
 match hz:C.zones with
 | [z0,z1]=>
  have h0:=(h.zok.each 0 z0 (by rw [hz];rfl)).fst;have h1:=(h.zok.each 1 z1 (by rw [hz];rfl)).fst;have a:=h.zsum;rw [hz] at h0 h1 a;exact .inr ⟨z0,z1,rfl,h0,h1,a⟩
 | []=>rw [hz] at b;simp at b
 | [z0]=>
  have h0:=(h.zok.each 0 z0 (by rw [hz];rfl)).fst;have a:=h.zsum;rw [hz] at h0 a;exact .inl ⟨z0,rfl,h0,a⟩
 | _ :: _ :: _ :: _=>rw [hz] at hl;simp at hl
theorem cF.zone (h:cF F G Z C) (hi:i<C.frames.length):∃(k:Nat) (z:Zn),C.zones[k]?=some z/\z.first<=(i:Int)+1/\(i:Int)+1<z.first+z.size:=by
 rcases h.two with ⟨z0,hz,h0,hs⟩ | ⟨z0,z1,hz,h0,h1,hs⟩
 ·exact ⟨0,z0,by rw [hz];rfl,O_,O_⟩
 ·by_cases a:(i:Int)<z0.size
  ·exact ⟨0,z0,by rw [hz];rfl,O_,O_⟩
  ·exact ⟨1,z1,by rw [hz];rfl,O_,O_⟩
theorem cF.apart (h:cF F G Z C) {k':Nat} {z':Zn} (hk:C.zones[k]?=some z) (hk':C.zones[k']?=some z') (hne:k≠k') {f:Int} (h1:z.first<=f/\f<z.first+z.size) (h2:z'.first<=f/\f<z'.first+z'.size):False:=by
 rcases h.two with ⟨z0,hz,e0,hs⟩ | ⟨z0,z1,hz,e0,e1,hs⟩
 ·have hl:=bI hk;have a:=(List.getElem?_eq_some_iff.1 hk').1;rw [hz] at hl a;simp at hl a;omega
 ·rw [hz] at hk hk'
  match k,k',hk,hk',hne with
  | 0,1,hk,hk',_=>
   obtain rfl:z0=z:=by simpa using hk
   obtain rfl:z1=z':=by simpa using hk'
   omega
  | 1,0,hk,hk',_=>
   obtain rfl:z1=z:=by simpa using hk
   obtain rfl:z0=z':=by simpa using hk'
   omega
  | 0,0,_,_,hne=>exact absurd rfl hne
  | 1,1,_,_,hne=>exact absurd rfl hne
  | k+2,_,hk,_,_=>simp at hk
  | 0,k'+2,_,hk',_=>simp at hk'
  | 1,k'+2,_,hk',_=>simp at hk'
theorem cF.goneH (h:cF F G Z C) (hu:fG C i x j y):∃(t k:Nat) (l:Lr) (gp:Gr) (z:Zn) (clk:Int),bo_ C i t k x l gp z/\C.clocks[t]?=some clk:=by
 have a:=bI hu.fr;obtain ⟨k,z,c,h1,h2⟩:=h.zone a;have s:=hu.ok.tenant;obtain ⟨t,b⟩:∃t:Nat,x.tenant=t:=⟨x.tenant.toNat,O_⟩;have o:=h.ten i x hu.fr;have n:t<C.lists.length:=by rw [h.nl];omega
 have g:t<C.groups.length:=by rw [h.ng];omega
 have m:t<C.clocks.length:=by rw [h.nk];omega
 refine ⟨t,k,C.lists[t],C.groups[t],z,C.clocks[t],⟨b,cY _,h.lok t _ (cY _),cY _,h.gok,c,⟨h1,h2⟩,fun f=>?_,h.zok,h.pok,by have:=h.nr;omega⟩,cY _⟩;obtain ⟨p,x',q,d,r⟩:=h.free k z c _ f;obtain rfl:p=i:=O_
 obtain rfl:x'=x:=bH (d.symm.trans hu.fr);have:=hu.ix;omega
theorem fG.eq {j':Nat} {y':Fl} (h:fG C i x j y) (h':fG C i x' j' y'):x'=x/\j'=j/\y'=y:=by
 obtain rfl:x'=x:=bH (h'.fr.symm.trans h.fr);obtain rfl:j'=j:=by have:=h.ix;have:=h'.ix;omega
 exact ⟨rfl,rfl,bH (h'.fl.symm.trans h.fl)⟩
theorem cF.gone (h:cF F G Z C) (hu:fG C i x j y) (hg:bo_ C i t k x l gp z) (hv:v<=0) (cl:List Int) (hcl:cl.length=G):cF F G Z {gI C i j t k x y l gp z v with clocks:=cl}:=by
 obtain ⟨K,o,I,M⟩:=h.used hu.fr (by rw [hu.ix];omega);obtain ⟨_,rfl,rfl⟩:=hu.eq I;have L:=uD hu.ok;have J:x.file≠-1:=by rw [hu.ix];omega
 have H:=fun (d:Nat) (y':Fl) (g:C.files[d]?=some y')=>(show ∃n,(C.files.set K {o with c:=(bD o.c x.page v).1})[d]?=some n/\(∀p,(d=K->p≠x.page)->J_ n.c p=J_ y'.c p) from by
  by_cases e:d=K
  ·subst e;obtain rfl:y'=o:=bH (g.symm.trans hu.fl);exact ⟨_,V_ g,fun p q=>by show J_ (bD _ _ _).1 p=_;rw [dQ L,if_neg (q rfl)]⟩
  ·exact ⟨y',dO e g,fun _ _=>rfl⟩)
 refine ⟨h.few,by show (C.files.set _ _).length=F;rw [kL];exact h.nf,⟨by show 0<(C.frames.set _ _).length;rw [kL];exact h.nr.1,by show (C.frames.set _ _).length<=64;rw [kL];exact h.nr.2⟩,(vH).trans h.ng,by show (C.lists.set _ _).length=G;rw [kL];exact h.nl,hcl,by show (C.zones.set _ _).length=Z;rw [kL];exact h.nz,fun b u a=>by
  rcases eX a with ⟨rfl,rfl⟩ | ⟨_,a⟩
  ·show (0:Int)<G;have:=h.few;omega
  ·exact h.ten b u a,fun d y' g=>?_,fun b x' E=>?_,fun d y' p g q=>?_,fun r s A f hf=>?_,?_,?_,h.gok.uncharge hg.grp,fun O N hl=>?_,h.pok.drop _⟩
 ·rcases eX g with ⟨rfl,rfl⟩ | ⟨_,g⟩
  ·have:=h.file _ o hu.fl;exact ⟨this.size,this.slot,this.err,this.st⟩
  ·exact h.file d y' g
 ·rcases eX E with ⟨rfl,rfl⟩ | ⟨hne,E⟩
  ·exact .inl rfl
  ·rcases h.frame b x' E with he | ⟨d,y',a,hv'⟩
   ·exact .inl he
   ·obtain ⟨n,h1,h2⟩:=H d y' a.fl;refine .inr ⟨d,n,⟨dO hne E,h1,a.ix,a.ok⟩,?_⟩;rw [h2 _ (fun e q=>?_)]
    ·exact hv'
    ·subst e;obtain rfl:y'=o:=bH (a.fl.symm.trans hu.fl);rw [q] at hv';omega
 ·rcases eX g with ⟨rfl,rfl⟩ | ⟨hne,g⟩
  ·have m:0<J_ (bD o.c x.page v).1 p:=q
   show ∃(b:Nat) (x':Fr),J_ (bD o.c x.page v).1 p=_/\(C.frames.set i gV)[b]?=_/\_
   rw [dQ L] at m ⊢
   by_cases e:p=x.page
   ·rw [if_pos e] at m;omega
   ·rw [if_neg e] at m ⊢;obtain ⟨b,x',h1,h2,h3,D⟩:=h.find d o p hu.fl m;refine ⟨b,x',h1,dO (fun w=>e ?_) h2,h3,D⟩;subst w;obtain rfl:x'=x:=bH (h2.symm.trans hu.fr);exact D.symm
  ·obtain ⟨b,x',h1,h2,h3,D⟩:=h.find d y' p g q;refine ⟨b,x',h1,dO (fun w=>hne ?_) h2,h3,D⟩;subst w;obtain rfl:x'=x:=bH (h2.symm.trans hu.fr);have:=hu.ix;omega
 ·show ∃(b:Nat) (x':Fr),_/\(C.frames.set i gV)[b]?=_/\_
  have old:∀(r:Nat) (s:Zn),C.zones[r]?=some s->f ∈ s.free->∃(b:Nat) (x':Fr),f=(b:Int)+1/\(C.frames.set i gV)[b]?=some x'/\x'.file=-1:=fun r s A hf=>by
   obtain ⟨b,x',h1,h2,h3⟩:=h.free r s A f hf;refine ⟨b,x',h1,dO (fun w=>J ?_) h2,h3⟩;subst w;obtain rfl:x'=x:=bH (h2.symm.trans hu.fr);exact h3
  rcases eX A with ⟨rfl,rfl⟩ | ⟨_,A⟩
  ·rcases mD.1 hf with rfl | hf
   ·exact ⟨i,gV,rfl,V_ hu.fr,rfl⟩
   ·exact old r z hg.zon hf
  ·exact old r s A hf
 ·have B:=h.zok.each k z hg.zon;exact h.zok.free hg.zon (fun f hf=>by
   rcases mD.1 hf with rfl | hf
   ·exact hg.zin
   ·exact B.rng f hf) (tY B.asc hg.zno)
 ·show sR (C.zones.set k _)=((C.frames.set i gV).length:Int)+1
  rw [wD hg.zon,kL];exact h.zsum
 ·rcases eX hl with ⟨rfl,rfl⟩ | ⟨_,hl⟩
  ·exact hg.lok.rem _
  ·exact h.lok O N hl
theorem cF.insert (h:cF F G Z C) {i j t k:Nat} {x0 x':Fr} {p:Int} (hy:C.files[j]?=some y) (hp:0<=p/\p<8) (hno:J_ y.c p<=0) (hk:C.zones[k]?=some z) (hz0:z.free.headD 0=(i:Int)+1) (hne:z.free≠[]) (hl:C.lists[t]?=some l) (hg:C.groups[t]?=some gp)
  (hx':jE x') (hxf:x'.file=j) (hxp:x'.page=p) (hxt:x'.tenant<G) (ac:Bool):cF F G Z {files:=C.files.set j {y with c:=(bD y.c p ((i:Int)+1)).1},frames:=C.frames.set i x',zones:=C.zones.set k {z with free:=z.free.drop 1},groups:=(cC C.groups t gp 1).1,lists:=C.lists.set t (oC l ((i:Int)+1) ac),clocks:=C.clocks,ptes:=C.ptes}:=by
 have O:kF p=true:=by unfold kF;simp;omega
 obtain ⟨E,M,m⟩:∃E M,z.free=E :: M:=by
  cases hf:z.free with
  | nil=>exact absurd hf hne
  | cons a l=>exact ⟨a,l,rfl⟩
 have S:E=(i:Int)+1:=by rw [m] at hz0;exact hz0
 obtain ⟨r,x0,W,K,X⟩:=h.free k z hk E (by rw [m];exact List.mem_cons_self ..);obtain rfl:r=i:=O_
 have U:=bI K;have o:=h.zok.each k z hk;have v:=o.asc;rw [m,List.pairwise_cons] at v;have Q:=fun (n:Nat) (y':Fl) (b:C.files[n]?=some y')=>(show ∃s,(C.files.set j {y with c:=(bD y.c p ((r:Int)+1)).1})[n]?=some s/\(∀q,(n=j->q≠p)->J_ s.c q=J_ y'.c q) from by
  by_cases e:n=j
  ·subst e;obtain rfl:y'=y:=bH (b.symm.trans hy);exact ⟨_,V_ hy,fun q H=>by show J_ (bD _ _ _).1 q=_;rw [dQ O,if_neg (H rfl)]⟩
  ·exact ⟨y',dO e b,fun _ _=>rfl⟩)
 refine ⟨h.few,by show (C.files.set _ _).length=F;rw [kL];exact h.nf,⟨by show 0<(C.frames.set _ _).length;rw [kL];exact h.nr.1,by show (C.frames.set _ _).length<=64;rw [kL];exact h.nr.2⟩,(zA).trans h.ng,by show (C.lists.set _ _).length=G;rw [kL];exact h.nl,h.nk,by show (C.zones.set _ _).length=Z;rw [kL];exact h.nz,fun g u d=>by
  rcases eX d with ⟨rfl,rfl⟩ | ⟨_,d⟩
  ·exact hxt
  ·exact h.ten g u d,fun n y' b=>?_,fun g u J=>?_,fun n y' q b H=>?_,fun B D A f hf=>?_,?_,?_,h.gok.charge hg,fun R V w=>?_,h.pok⟩
 ·rcases eX b with ⟨rfl,rfl⟩ | ⟨_,b⟩
  ·have:=h.file _ y hy;exact ⟨this.size,this.slot,this.err,this.st⟩
  ·exact h.file n y' b
 ·rcases eX J with ⟨rfl,rfl⟩ | ⟨hni,J⟩
  ·refine .inr ⟨j,_,⟨J,V_ hy,hxf,hx'⟩,?_⟩
   show J_ (bD y.c p _).1 u.page=_
   rw [dQ O,if_pos hxp]
  ·rcases h.frame g u J with he | ⟨n,y',d,hv'⟩
   ·exact .inl he
   ·obtain ⟨s,h1,h2⟩:=Q n y' d.fl;refine .inr ⟨n,s,⟨dO hni J,h1,d.ix,d.ok⟩,?_⟩;rw [h2 _ (fun e H=>?_)]
    ·exact hv'
    ·subst e;obtain rfl:y'=y:=bH (d.fl.symm.trans hy);rw [H] at hv';omega
 ·rcases eX b with ⟨rfl,rfl⟩ | ⟨hnj,b⟩
  ·have x:0<J_ (bD y.c p ((r:Int)+1)).1 q:=H
   show ∃(g:Nat) (u:Fr),J_ (bD y.c p ((r:Int)+1)).1 q=_/\(C.frames.set r x')[g]?=_/\_
   rw [dQ O] at x ⊢
   by_cases e:q=p
   ·rw [if_pos e];exact ⟨r,x',rfl,V_ K,hxf,hxp.trans e.symm⟩
   ·rw [if_neg e] at x ⊢;obtain ⟨g,u,h1,h2,h3,N⟩:=h.find n y q hy x;refine ⟨g,u,h1,dO (fun L=>?_) h2,h3,N⟩;subst L;obtain rfl:u=x0:=bH (h2.symm.trans K);omega
  ·obtain ⟨g,u,h1,h2,h3,N⟩:=h.find n y' q b H;refine ⟨g,u,h1,dO (fun L=>?_) h2,h3,N⟩;subst L;obtain rfl:u=x0:=bH (h2.symm.trans K);omega
 ·show ∃(g:Nat) (u:Fr),_/\(C.frames.set r x')[g]?=_/\_
  have old:∀(B:Nat) (D:Zn),C.zones[B]?=some D->f ∈ D.free->f≠E->∃(g:Nat) (u:Fr),f=(g:Int)+1/\(C.frames.set r x')[g]?=some u/\u.file=-1:=fun B D A hf P=>by
   obtain ⟨g,u,h1,h2,h3⟩:=h.free B D A f hf;exact ⟨g,u,h1,dO (fun L=>P O_) h2,h3⟩
  rcases eX A with ⟨rfl,rfl⟩ | ⟨hnk,A⟩
  ·have I:f ∈ M:=by
    have hf:f ∈ z.free.drop 1:=hf;rw [m] at hf;exact hf
   refine old B z hk (by rw [m];exact List.mem_cons_of_mem _ I) (fun e=>?_);have:=v.1 f I;omega
  ·refine old B D A hf (fun e=>?_);exact h.apart hk A (fun e=>hnk e.symm) (o.rng E (by rw [m];exact List.mem_cons_self ..)) (e ▸ (h.zok.each B D A).rng f hf)
 ·exact h.zok.free hk (fun f hf=>o.rng f (List.mem_of_mem_drop hf)) (o.asc.sublist (List.drop_sublist _ _))
 ·show sR (C.zones.set k _)=((C.frames.set r x').length:Int)+1
  rw [wD hk,kL];exact h.zsum
 ·rcases eX w with ⟨rfl,rfl⟩ | ⟨_,w⟩
  ·exact (h.lok R l hl).add _ ⟨O_,by have:=h.nr;omega⟩ ac
  ·exact h.lok R V w
end
section
theorem fJ {w':World} {b:Nat} (hg:w.grownBy w' (some b)) (hS:¬S b):r_ S w w':=
 ⟨hg.size,fun z hz hl=>hg.block z hl (fun e=>by injection e with e;exact hS (e ▸ hz))⟩
theorem xK {wx:World} {bt R:Nat} (h2:w.grownBy wx (some bt)) (h3:w.heap.size<=R) {cs:Array Value}:w.grownBy (wx.setRow R cs) (some bt):=by
 have a:=eU wx R cs;exact ⟨a.os.trans h2.os,a.tape.trans h2.tape,a.output.trans h2.output,eF h2.size a.size,fun k b c=>(a.block k (gX b h2.size) (by simp;omega)).trans (h2.block k b c)⟩
structure fN (F G Z:Nat) (C:Ck):Prop extends cF F G Z C where
 dw:Dw C
theorem Dw.put (h:Dw C) {x x':Fr} {y y':Fl} (hu:fG C i x j y) (h1:x'.file=x.file) (h2:x'.page=x.page) (hd:DwF x'->DwF x) (hs:y'.size=y.size) (pt:List Pt):Dw {cP C i j y' x' with ptes:=pt}:=
 h.of (fun e he=>he.put hu.fr rfl h1 h2 hd) (rP.set hu.fl rfl hs)
theorem fN.putQ (h:fN F G Z C) (hu:fG C i x j y) (hq:dk_ C i j x y C'):fN F G Z C':=by
 refine ⟨h.tocF.putQ hu hq,?_⟩
 rcases hq with rfl | ⟨x',y',h1,hd,h2,h3,h4,h5,h6,h8,h7,h9,h10,h11,h12,h13,rfl⟩
 ·exact h.dw
 ·exact h.dw.put hu h2 h3 hd h6 C.ptes
theorem fN.putP (h:fN F G Z C) (hu:fG C i x j y) (hq:wT C i j x y C'):fN F G Z C':=h.putQ hu (hq.q (h.file j y hu.fl).err)
theorem fN.putB (h:fN F G Z C) (hu:fG C i x j y) (hq:fw_ C i j x y C'):fN F G Z C':=by
 refine ⟨h.tocF.putB hu hq,?_⟩
 rcases hq with rfl | ⟨x',h1,hd,h2,h3,h4,rfl⟩
 ·exact h.dw
 ·exact h.dw.put hu h2 h3 hd rfl _
def Sx (S:Nat->Prop) (X R:Nat) (K:Option Nat) (z:Nat):Prop:=S z/\z≠X/\z≠R/\K≠some z
structure PC (F G Z:Nat) (S:Nat->Prop) (W w Wk:World) (bt X R:Nat) (K:Option Nat) (a b c d e f g:Value) (C:Ck) (wx:World):Prop where
 inv:fN F G Z C
 at_:x_ wx (Sx S X R K) a b c d e f g C
 box:wx.heap[X]?=some (.cells #[a,b,c,d,e,f,g] 30 (0,0))
 res:wx.heap[R]?=some (bM)
 tp:Tp W bt wx
 gb:w.grownBy wx (some bt)
 kk:∀z,K=some z->z<wx.heap.size/\z≠bt/\z≠X/\wx.heap[z]?=Wk.heap[z]?
 xw:w.heap.size<=X
 rw_:w.heap.size<=R
 bw:bt<w
 xr:X≠R
 nS:¬S bt
 fS:∀z,w.heap.size<=z->S z
def PCs (F G Z:Nat) (S:Nat->Prop) (W w Wk:World) (bt X R:Nat) (K:Option Nat) (wx:World):Prop:=∃a b c d e f g C,PC F G Z S W w Wk bt X R K a b c d e f g C wx
section
variable {F G Z:Nat} {S:Nat->Prop} {W w Wk wx wy:World} {bt X R:Nat} {K:Option Nat} {a b c d e f g a' b' c' d' e' f' g':Value} {C C':Ck}
theorem PC.nb (h:PC F G Z S W w Wk bt X R K a b c d e f g C wx):X≠bt/\R≠bt:=⟨by have:=h.xw;have:=h.bw;omega,by have:=h.rw_;have:=h.bw;omega⟩
theorem PC.keep (h:PC F G Z S W w Wk bt X R K a b c d e f g C wx) (hg:wx.grownBy wy (some bt)) (hT:Tp W bt wy):PC F G Z S W w Wk bt X R K a b c d e f g C wy where
 inv:=h.inv
 at_:=h.at_.kept (fJ hg (fun i=>h.nS i.1))
 box:=eA hg h.nb.1 h.box
 res:=eA hg h.nb.2 h.res
 tp:=hT
 gb:=u_ h.gb hg
 kk:=fun z i=>by
  obtain ⟨j,k,l,m⟩:=h.kk z i;exact ⟨gX j hg.size,k,l,(hg.block z j (by simpa using k)).trans m⟩
 xw:=h.xw
 rw_:=h.rw_
 bw:=h.bw
 xr:=h.xr
 nS:=h.nS
 fS:=h.fS
theorem PC.step (h:PC F G Z S W w Wk bt X R K a b c d e f g C wx) (hb:s_ wx wy):PC F G Z S W w Wk bt X R K a b c d e f g C wy:=h.keep (X_ hb _) (h.tp.step hb)
theorem PC.fresh (h:PC F G Z S W w Wk bt X R K a b c d e f g C wx):∀z,wx.heap.size<=z->Sx S X R K z:=fun z hz=>
 ⟨h.fS z (by have:=h.gb.size;omega),by have:=n_ h.box;omega,by have:=n_ h.res;omega,fun hk=>by have:=(h.kk z hk).1;omega⟩
theorem PC.store (h:PC F G Z S W w Wk bt X R K a b c d e f g C wx) (hI:fN F G Z C') (hc:x_ wx (Sx S X R K) a' b' c' d' e' f' g' C'):PC F G Z S W w Wk bt X R K a' b' c' d' e' f' g' C' (wx.setRow X #[a',b',c',d',e',f',g']) where
 inv:=hI
 at_:=hc.kept (r_.of_setRow wx X _ (fun i=>i.2.1 rfl))
 box:=setRow_heap _ _ _ _ _ _ h.box
 res:=(setRow_other _ _ _ _ (fun e=>h.xr e.symm)).trans h.res
 tp:=h.tp.gb (eU _ _ _) (by have:=h.xw;have:=h.bw;omega)
 gb:=xK h.gb h.xw
 kk:=fun z i=>by
  obtain ⟨k,l,j,m⟩:=h.kk z i;exact ⟨by simpa [World.setRow] using k,l,j,(setRow_other _ _ _ _ j).trans m⟩
 xw:=h.xw
 rw_:=h.rw_
 bw:=h.bw
 xr:=h.xr
 nS:=h.nS
 fS:=h.fS
theorem PC.start (h:x_ w S a b c d e f g C) (hI:fN F G Z C) (hT:Tp W bt w) (hX:X=w.heap.size) (hn:¬S bt) (hS:∀z,w.heap.size<=z->S z) :
  PC F G Z S W w w bt X (X+1) none a b c d e f g C ((w.alloc (.cells #[a,b,c,d,e,f,g] 30)).alloc (bM)) where
 inv:=hI
 at_:=(h.weak (fun z i h=>⟨h,O_,O_,fun e=>by cases e⟩)).step (a_ (a_ B_ _) _)
 box:=m_ (l_ w _ X hX.symm) _
 res:=l_ (w.alloc _) _ (X+1) (by simp [hX])
 tp:=(hT.alloc _).alloc _
 gb:=X_ (a_ (a_ B_ _) _) _
 kk:=fun z i=>by cases i
 xw:=O_
 rw_:=O_
 bw:=hT.lt
 xr:=O_
 nS:=hn
 fS:=hS
theorem PC.own (h:PC F G Z S W w Wk bt X R none a b c d e f g C wx) (hB:s_ wx wy) (hk:∀z,K=some z->wx.heap.size<=z/\z<wy.heap.size):PC F G Z S W w wy bt X R K a b c d e f g C wy:=
 let h':=h.step hB
 {h' with at_:=(h.at_.weak (S':=Sx S X R K) (fun z i h=>⟨h.1,h.2.1,h.2.2.1,fun e=>by have:=(hk z e).1;omega⟩)).step hB,kk:=fun z i=>⟨(hk z i).2,by have:=(hk z i).1;have:=h.tp.lt;omega,by have:=(hk z i).1;have:=n_ h.box;omega,rfl⟩}
theorem PC.done (h:PC F G Z S W w Wk bt X R K a b c d e f g C wx):x_ (wx.setRow R #[a,b,c,d,e,f,g]) S a b c d e f g C/\Tp W bt (wx.setRow R #[a,b,c,d,e,f,g])/\w.grownBy (wx.setRow R #[a,b,c,d,e,f,g]) (some bt):=
 ⟨(h.at_.kept (r_.of_setRow wx R _ (fun hz=>hz.2.2.1 rfl))).weak (fun z _ hz=>hz.1),h.tp.gb (eU _ _ _) (by have:=h.rw_;have:=h.bw;omega),xK h.gb h.rw_⟩
def CP (F G Z:Nat) (S:Nat->Prop) (W w Wk wx:World) (bt X R:Nat) (K:Option Nat) (a b c d e f g:Value) (C:Ck):Bool->World->Prop
 | false,x=>PC F G Z S W w Wk bt X R K a b c d e f g C x/\wx.grownBy x (some bt)
 | true,x=>PCs F G Z S W w Wk bt X R K x
theorem cQ {id:Nat} {Q:Exit->Act->World->Prop} {A:Act} {l:List Oper} (m s:Nat) (pl:Nat->Bool) (ls:List (SK (Sx S X R K)))
  (hm:prog.follows .mixedOrders=true) (hB:uK l.toArray m s pl=true) (hs:A.tmps.size=m) (hs0:∀w,GK ls s undef w) (hP:PC F G Z S W w Wk bt X R K a b c d e f g C wx)
  (h:cW prog l.toArray (CP F G Z S W w Wk wx bt X R K a b c d e f g C) (r_ (Sx S X R K)) (GK ls) s pl (fun a'=>∀w',PCs F G Z S W w Wk bt X R K w'->(∀j,j<l.toArray.size->GK ls j (fB l.toArray a' j) w')->wpList prog l.toArray Q [] a' w') 0 l A):(Code.region id l.toArray true).wp prog Q A wx:=
 mP m s pl (CP F G Z S W w Wk wx bt X R K a b c d e f g C) (r_ (Sx S X R K)) (GK ls) hm hB hs ⟨hP.step (B_.drew),gS wx 1 _⟩ (fun x y hr=>GK.keep hr) hs0 h
end
def ds_ (F G Z:Nat) (S:Nat->Prop) (W:World) (bt:Nat) (w:World) (en:Ending) (w':World):Prop:=∃C' a b c d e f g,fN F G Z C'/\en = .returned (bK a b c d e f g)/\x_ w' S a b c d e f g C'/\Tp W bt w'/\w.grownBy w' (some bt)
def SK.nat {S:Nat->Prop} (n:Nat):SK S:=⟨fun v _=>∃k:Nat,v = I_ (k:Int)/\k<n,fun _ _ _ _ h=>h⟩
def SK.ir {S:Nat->Prop} (lo hi:Int):SK S:=⟨fun v _=>∃k:Int,v = I_ k/\lo<=k/\k<=hi,fun _ _ _ _ h=>h⟩
def SK.bl {S:Nat->Prop}:SK S:=⟨fun v _=>∃k:Bool,v = .bool k,fun _ _ _ _ h=>h⟩
def SK.s16 {S:Nat->Prop}:SK S:=⟨fun v _=>∃s:ByteArray,v = .string s/\s.size=16,fun _ _ _ _ h=>h⟩
def SK.ck1 (F G Z:Nat) {S:Nat->Prop}:SK S:=⟨fun v w=>∃C a b c d e f g,v=bK a b c d e f g/\fN F G Z C/\x_ w S a b c d e f g C,fun _ _ _ hk ⟨C,a,b,c,d,e,f,g,h1,h2,h3⟩=>⟨C,a,b,c,d,e,f,g,h1,h2,h3.kept hk⟩⟩
def SK.ck2 (F G Z:Nat) {S:Nat->Prop}:SK S:=⟨fun v w=>∃C a b c d e f g er,v = .tuple #[bK a b c d e f g,I_ er]/\fN F G Z C/\x_ w S a b c d e f g C,fun _ _ _ hk ⟨C,a,b,c,d,e,f,g,er,h1,h2,h3⟩=>⟨C,a,b,c,d,e,f,g,er,h1,h2,h3.kept hk⟩⟩
def SK.ck3 (F G Z:Nat) {S:Nat->Prop}:SK S:=⟨fun v w=>∃C a b c d e f g u er,v = .tuple #[bK a b c d e f g,I_ u,I_ er]/\fN F G Z C/\x_ w S a b c d e f g C,fun _ _ _ hk ⟨C,a,b,c,d,e,f,g,u,er,h1,h2,h3⟩=>⟨C,a,b,c,d,e,f,g,u,er,h1,h2,h3.kept hk⟩⟩
def SK.row {S:Nat->Prop} (p:Int->Prop) (n:Nat):SK S:=⟨fun v w=>∃(gg:Nat) (t:TypeId) (l:List Int),v = S_ (some ⟨gg,0,none⟩) n n/\l.length=n/\(∀y ∈ l,p y)/\S gg/\gg<w/\w.heap[gg]?=some (.cells (l.map (Value.int i64)).toArray t (0,0)),fun _ _ _ hk ⟨gg,t,l,h1,h2,h3,h4,h5,h6⟩=>⟨gg,t,l,h1,h2,h3,h4,gX h5 hk.1,(hk.2 gg h4 h5).trans h6⟩⟩
def SK.rat {S:Nat->Prop} (p:Int->Prop):SK S:=⟨fun v w=>∃(gg i:Nat) (y:Int),v = .pointer (some ⟨gg,i,none⟩)/\p y/\S gg/\gg<w/\w.cell? ⟨gg,i,none⟩=some (I_ y),fun _ _ _ hk ⟨gg,i,y,h1,h2,h4,h5,h6⟩=>⟨gg,i,y,h1,h2,h4,gX h5 hk.1,(g_ (hk.2 gg h4 h5)).trans h6⟩⟩
theorem jf_ {g i:Nat} {l:List Int} {t:TypeId} (h:w.heap[g]?=some (.cells (l.map (Value.int i64)).toArray t (0,0))) (hi:i<l.length):w.cell? ⟨g,i,none⟩=some (I_ l[i]):=by
 rw [b_ h];simp [hi]
theorem fK_ (z:Int) {W:World} {b:Nat} (h1:1<=z) (h2:z<=1000) (hT:Tp W b w) :
  C_ 29 #[P_ b,I_ z] w (gJ_ z.toNat W b w):=by
 obtain ⟨n,rfl⟩:=mZ (by omega:0<=z);exact bu_ n O_ O_ hT
end
section
variable {F G Z:Nat}
def dm_ (P:Ck->Prop) (S:Nat->Prop) (w:World) (en:Ending) (w':World):Prop:=∃C' a b c d e f g,P C'/\en = .returned (bK a b c d e f g)/\x_ w' S a b c d e f g C'/\s_ w w'
def yO (F G Z off n j k:Nat) (C:Ck):Prop:=cF F G Z C/\∃y,C.files[j]?=some y/\∀(m:Nat) (p:Int),k<=m->(aJ off n)[m]?=some p->lU C j y off n true p
theorem tL {off n lo:Int}:∀{j:Nat},(∃i:Nat,i<j/\off<=lo+(i:Int)/\lo+(i:Int)<off+n)->0<fR off n lo j
 | 0,⟨i,h,_⟩=>by omega
 | j+1,⟨i,h,h1,h2⟩=>by
  unfold fR;have hb:=xC off n lo j
  by_cases e:i=j
  ·subst e;rw [if_pos ⟨h1,h2⟩];omega
  ·have:=tL (off:=off) (n:=n) (lo:=lo) (j:=j) ⟨i,O_,h1,h2⟩
   split <;> omega
theorem e6_ (h1:1<=n) (h2:o+n<=16):iZ (o:Int) (n:Int)≠0:=by
 show (if qG (o:Int) (n:Int) 0 then (1:Int) else 0)+(if qG (o:Int) (n:Int) 1 then (2:Int) else 0)≠0
 by_cases a:o<8
 ·have:qG (o:Int) (n:Int) 0=true:=dT (tL ⟨o,a,O_,O_⟩);rw [this,if_pos rfl]
  split <;> omega
 ·have:qG (o:Int) (n:Int) 1=true:=dT (tL ⟨o - 8,O_,O_,O_⟩);rw [this,if_pos rfl]
  split <;> omega
theorem hK_ {a b:Int} (ha:0<=a/\a<=3) (hb:0<=b/\b<=3) (hn:b≠0):bits .or .i64 a b≠0:=by
 obtain rfl | rfl | rfl | rfl:a=0\/a=1\/a=2\/a=3:=O_
 all_goals (obtain rfl | rfl | rfl:b=1\/b=2\/b=3:=by omega) <;> decide
inductive uV (off n:Nat) (s:ByteArray) (j:Nat) (C0:Ck):Nat->Ck->Prop
 | zero:uV off n s j C0 0 C0
 | step {k i t at' fr ct:Nat} {C:Ck} {x x':Fr} {y:Fl} {l:Lr} {p:Int}:uV off n s j C0 k C->(aJ off n)[k]?=some p->fG C i x j y->x.page=p->J_ y.c p=(i:Int)+1->x'.pg.dirty≠0->C.lists[t]?=some l->(bO p off n=((at':Int),(ct:Int))/\at'+ct<=16/\1<=ct/\fr+ct<=n/\p*16+(at':Int) - (off:Int)=(fr:Int))->x'=⟨x.file,x.page,aF x.pg at' (s.extract fr (fr+ct)),x.tenant,x.holds,x.reading,x.writing⟩->uV off n s j C0 (k+1) (wV (cP C i j y x') t l i)
theorem as_ (a b:Int):0<=iZ a b/\iZ a b<=3:=by
 unfold iZ mL
 cases qG a b 0 <;> cases qG a b 1 <;> simp
theorem nL {p:Pg} (h:iM p) {s:ByteArray} (hr:o+s.size<=16):iM (aF p o s):=by
 obtain ⟨d,v,y⟩:=p;obtain ⟨h1,h2,h3,a⟩:=h
 dsimp only at h1 h2 h3 a
 have b:=as_ (o:Int) (s.size:Int);refine ⟨?_,or3 h2 b,or3 h3 b,?_⟩
 ·show (ck_ d s o).size=16
  unfold ck_;rw [bA_,bA_,bE_,bE_];omega
 ·show bits .andNot .i64 (bits .or .i64 y (iZ o s.size)) (bits .or .i64 v (iZ o s.size))=0
  generalize iZ o s.size=t at *;obtain rfl | rfl | rfl | rfl:v=0\/v=1\/v=2\/v=3:=O_
  all_goals (obtain rfl | rfl | rfl | rfl:y=0\/y=1\/y=2\/y=3:=by omega)
  all_goals (obtain rfl | rfl | rfl | rfl:t=0\/t=1\/t=2\/t=3:=by omega)
  all_goals first
   | decide
   | exact absurd a cE
theorem yO.next (h:yO F G Z off n j k C) (hk:(aJ off n)[k]?=some p) (hu:fG C i x j y) (hxp:x.page=p) (h1:jE x') (h2:x'.file=x.file) (h3:x'.page=x.page) (h4:x'.tenant=x.tenant) (hl:C.lists[t]?=some l):yO F G Z off n j (k+1) (wV (cP C i j y x') t l i):=by
 obtain ⟨o,y',a,H⟩:=h;obtain rfl:y'=y:=bH (a.symm.trans hu.fl);have B:=o.put hu h1 h2 h3 h4 rfl (o.file j y' a) C.ptes o.pok;refine ⟨cF.acc B hl,{y' with c:=jO y'.c x'.page (x'.pg.dirty != 0) (x'.writing != 0)},V_ a,fun m q E f=>?_⟩
 obtain ⟨w,u,z,g,v,A⟩:=H m q O_ f;obtain ⟨L,I,s,hv⟩:=o.used hu.fr (by rw [hu.ix];omega);obtain ⟨_,rfl,rfl⟩:=hu.eq s;obtain ⟨D,hc⟩:=fW (c:=I.c) (p:=x.page) (by rw [hv];omega);have r:w≠i:=fun e=>by
  subst e;obtain rfl:u=x:=bH (g.fr.symm.trans hu.fr);rw [hxp] at v;obtain ⟨a1,J,K⟩:=a0_ (gL hk);have b:=bI hk;have d:=bI f;rw [iW] at b d;rw [gP _ _ _ b] at hk;rw [gP _ _ _ d] at f;injection hk with hk
  injection f with f
  omega
 refine ⟨w,u,?_,⟨dO r g.fr,V_ a,g.ix,g.ok⟩,v,A⟩
 show J_ (jO _ _ _ _) q=_
 rw [h3,dK D hc];exact z
theorem hp_ {C0:Ck} (j off:Nat) (s:ByteArray) (h:x_ w S a b c d e f g C0) (hp:yO F G Z off s.size j 0 C0) (h1:1<=s.size) (h2:off+s.size<=128) (hS:∀z,w.heap.size<=z->S z) :
  C_ 96 #[bK a b c d e f g,I_ j,I_ off,.string s] w (dm_ (fun C'=>yO F G Z off s.size j ((off+s.size+15) / 16 - off / 16) C'/\uV off s.size s j C0 ((off+s.size+15) / 16 - off / 16) C') S w):=by
 obtain ⟨S1,s1,s2,s3⟩:=iA hS;replace h:=h.weak s3;clear s3;obtain ⟨A1,m1,c1,A2,m2,c2,A3,m3,c3,A4,m4,c4,A5,m5,c5,A6,m6,c6,A7,m7,c7,rfl,rfl,rfl,rfl,rfl,rfl,rfl⟩:=x_.caps h;obtain ⟨n,hn⟩:=bL s.size;rw [<-hn] at h1 h2 hp ⊢;have HN:=H_ hn;have bh:=fun w' (N:w.heap.size+1<w'.heap.size)=>sS off n (fun z=>w.heap.size+1<z) w' h1 h2 (fun b hb=>by omega);have bj:=fun (p:Nat) (hp:p<8) w'=>xR (p:Int) (off:Int) (n:Int) w' ⟨O_,O_⟩ ⟨O_,O_⟩ ⟨O_,O_⟩;have cu:(s.size:Int)=(n:Int):=O_
 have H:=H_ h;have ay:=H_ hp;clear h hp hn;go_enter func96,ntmps96
 go_upto_region 1 with fail
 generalize hW9:(w.alloc _).alloc _=W;obtain ⟨HX,HR,HW,HZ⟩:=dJ hW9;clear hW9 HZ;have co:w.heap.size+1<W.heap.size:=n_ HR
 go_upto_region 2 with (first
  | (go_at_call 88;refine CM (bh _ co) ?_;rintro e w3 ⟨pv,rfl,bm,b7⟩;obtain ⟨az,af,ai⟩:=bC HX HR HW b7;have a2:=H_ (bm.old);clear bm b7)
  | fail)
 clear bh HX HR HW;obtain ⟨B,hB⟩:=bL w3.heap.size;rw [<-hB] at a2;have d0:w.heap.size+1<B:=by rw [hB];exact n_ af
 obtain ⟨J,U⟩:=bL ((off+n+15) / 16 - off / 16);have ch:(aJ off n).length=J:=by rw [iW,U]
 have d4:J<=9:=O_
 obtain ⟨A8,P,a8,_,_⟩:=a2.form;rw [ch] at a8;subst a8;have HB:=H_ hB;have ab:=H_ U;clear hB U;go_wp2
 go_loopw [10] (fun s10 wx=>∃(k:Nat) (C:Ck) (a b c d e f g:Value),s10 = I_ k/\k<=J/\yO F G Z off n j k C/\uV off n s j C0 k C/\bA wx (w) #[a,b,c,d,e,f,g] 30/\x_ wx S1 a b c d e f g C/\LA Y_ wx (fun z=>w.heap.size+1<z/\z<B) (S_ A8 J P) (aJ off n)/\s_ w wx/\B<=wx.heap.size/\wx.heap[w.heap.size+1]?=some (bM)) (fun s10 _=>100 - (intOf s10).toNat)
 case atStart=>exact ⟨0,C0,_,_,_,_,_,_,_,rfl,O_,ay.out,.zero,az.out,H.step ai.out,a2.out,ai.out,by rw [HB.out];exact bE _,af⟩
 case round=>
  clear a2 ai az af H ay;obtain ⟨k,C,a,b,c,d,e,f,g,rfl,hk,bk,bi,hX,r,hp,hb,ca,hR⟩:=hrel;have ax:=H_ bi;clear bi;obtain ⟨A1,m1,c1,rfl⟩:=r.files.cap;obtain ⟨A2,Q,rfl,q3,q4⟩:=r.frames.form;obtain ⟨A3,m3,c3,rfl⟩:=r.zones.cap;obtain ⟨A4,m4,c4,rfl⟩:=r.groups.cap;obtain ⟨A5,m5,c5,rfl⟩:=r.lists.cap;obtain ⟨A6,m6,c6,rfl⟩:=r.clocks.cap;obtain ⟨A7,m7,c7,rfl⟩:=r.ptes.cap;obtain ⟨HP,HW,HX,HR,HC,HS⟩:=h6_ hp hb hX hR r bk;have d3:=n_ hX;have d2:=n_ hR;obtain ⟨x0,x1,x2,x3,x4,x5,x6⟩:=T_ hX;clear hb hX hR
  by_cases d6:k<J
  ·have D:=gP off n k (by have:=ab.out;omega);have bn:=pW (off:=off) (n:=n) (k:=k) (by have:=ab.out;omega) h2;obtain ⟨p,bg⟩:=bL (off / 16+k);rw [<-bg] at D bn;obtain ⟨r1,r2,r3⟩:=bn;have a6:=H_ D;obtain ⟨hI,y,hj,bo⟩:=bk;obtain ⟨i,x,ao,hU,bp,ap⟩:=bo k p (bE _) D;obtain ⟨m,v,fr,a5,cc,bc,ce,bd⟩:∃m v fr:Nat,bO p off n=((m:Int),(v:Int))/\m+v<=16/\1<=v/\fr+v<=n/\(p:Int)*16+(m:Int) - (off:Int)=(fr:Int):=by
    by_cases ho:off<=p*16
    ·refine ⟨0,(min (off+n) ((p+1)*16)) - p*16,p*16 - off,?_,O_,O_,O_,O_⟩;unfold bO;rw [Int.max_eq_right O_];refine Prod.ext ?_ ?_ <;> (dsimp only;omega)
    ·refine ⟨off - p*16,(min (off+n) ((p+1)*16)) - off,0,?_,O_,O_,O_,O_⟩;unfold bO;rw [Int.max_eq_left O_];refine Prod.ext ?_ ?_ <;> (dsimp only;omega)
   have aq:∀w',C_ 151 #[I_ (p:Int),I_ (off:Int),I_ (n:Int)] w' (kV (.tuple #[I_ (m:Int),I_ (v:Int)]) w'):=fun w'=>by
    have:=bj p r3 w';rw [a5] at this;exact this
   have bx:=H_ (show bO p off n=((m:Int),(v:Int))/\m+v<=16/\1<=v/\fr+v<=n/\(p:Int)*16+(m:Int) - (off:Int)=(fr:Int) from ⟨a5,cc,bc,ce,bd⟩);rw [a5] at ap;obtain ⟨sub,X⟩:=bL (s.extract fr (fr+v));have ar:sub.size=v:=by rw [X,bE_];have:=HN.out;omega
   have cn:=fun w'=>aj_ x.pg.data x.pg.valid x.pg.dirty m sub w' hU.ok.pg (by rw [ar];omega) (by rw [ar];exact ap);have I:=H_ X;obtain ⟨b8,o8,cq,cm,_,_,M,cs,l0⟩:=IL.cell hp D;injection cm with e81 e82 e83
   subst e81 e82 e83;obtain ⟨bb,o,rfl,u,y0,y1,y2,y3,y4,y5,y6,y7,y8⟩:=FrA.cells r.frames hU.fr;have cg:=bI hU.fr;have i2:(i:Int)<(C.frames.length:Int):=O_
   have d5:C.frames.length<=100:=by have:=hI.nr;omega
   have ba:∀z,C_ 59 #[bK (S_ A1 m1 c1) (S_ (some ⟨bb,o,none⟩) C.frames.length Q) (S_ A3 m3 c3) (S_ A4 m4 c4) (S_ A5 m5 c5) (S_ A6 m6 c6) (S_ A7 m7 c7),I_ j,I_ p] (ext wr z) (fun e cp=>e = .returned (.tuple #[I_ ((i:Int)+1),.bool true])/\Below (ext wr z).heap.size (ext wr z) cp):=fun z=>by
    have:=fV j y p (r.step (p_ wr z)) hj;unfold eL uT at this;rw [ao,if_neg O_] at this;exact this
   obtain ⟨E,HI,b1,bu,HJ⟩:=h5_ hU hI bp ao hj;have xe:=R_ wr;clear D bg hp r1 r2 ao hU bp ap a5 bo X hI hj r ar
   go_upto_region 5 with fail
   refine w_ q_ q_ ?_
   repeat (go_big_quiet_step ((exact E_ (ba _))))
   refine wpQuiet_nil ?_;rintro w' ⟨z,rfl⟩;have ak:=H_ (e_ HW (p_ wr z));have a3:=H_ (h_ HX (p_ wr z));have ah:=H_ (h_ HR (p_ wr z));have ae:=H_ (HP.step (p_ wr z));have ac:=H_ (HC.step (p_ wr z));have cb:B<=(ext wr z).heap.size:=eF ca (p_ wr z).size;have cd:bb<(ext wr z).heap.size:=gX u (p_ wr z).size;replace y0:(ext wr z).cell? _=_:=(g_ ((p_ wr z).block _ u)).trans y0;replace y1:(ext wr z).cell? _=_:=(g_ ((p_ wr z).block _ u)).trans y1;replace y2:(ext wr z).cell? _=_:=(g_ ((p_ wr z).block _ u)).trans y2;replace y3:(ext wr z).cell? _=_:=(g_ ((p_ wr z).block _ u)).trans y3;replace y4:(ext wr z).cell? _=_:=(g_ ((p_ wr z).block _ u)).trans y4;replace y5:(ext wr z).cell? _=_:=(g_ ((p_ wr z).block _ u)).trans y5;replace y6:(ext wr z).cell? _=_:=(g_ ((p_ wr z).block _ u)).trans y6;replace y7:(ext wr z).cell? _=_:=(g_ ((p_ wr z).block _ u)).trans y7;replace y8:(ext wr z).cell? _=_:=(g_ ((p_ wr z).block _ u)).trans y8;replace l0:(ext wr z).cell? _=_:=(g_ ((p_ wr z).block _ M)).trans l0;clear xe x0 x1 x2 x3 x4 x5 x6 ba HW HX HR HP HC M u;generalize ext wr z=V at ak a3 ah ae ac y0 y1 y2 y3 y4 y5 y6 y7 y8 l0 cb cd;obtain ⟨x0,x1,x2,x3,x4,x5,x6⟩:=T_ a3.out
   go_upto_region 8 with (go_at_call 151;refine CM (aq _) ?_;rintro e w4 ⟨rfl,rfl⟩)
   have O:=H_ (l_ V (oF x) (V) rfl);have al:=H_ (m_ a3 (oF x));have ag:=H_ (m_ ah (oF x));have aj:=H_ (a_ ak (oF x));have aa:=H_ ((ac.weak (S':=fun z=>S1 z/\z<V.heap.size) (fun z N h=>⟨h,N⟩)).step (a_ (aP (V) V) (oF x)));have ad:=H_ (ae.alloc (oF x));have bf:(V.alloc (oF x)).cell? ⟨b8,o8+k,none⟩=some (I_ (p:Int)):=by
    have:=(a_ (aP (V) V) (oF x)).cell (p:=⟨b8,o8+k,none⟩) (by show b8<V;omega);exact this.trans l0
   have av:V.heap.size<(V.alloc (oF x)).heap.size:=A_
   generalize V.alloc (oF x)=W5 at O al ag aj aa ad bf av;clear x0 x1 x2 x3 x4 x5 x6 y0 y1 y2 y3 y4 y5 y6 y7 y8 l0 a3 ah ak ae ac;obtain ⟨f0,f1,f2,f3,f4,f5,f6,f7,f8⟩:=iQ O.out;have cv:(fr:Int)<=(fr:Int)+(v:Int):=O_
   have cw:(fr:Int)+(v:Int)<=(n:Int):=O_
   have cx:(0:Int)<=(fr:Int)+(v:Int):=O_
   have cy:((fr:Int)+(v:Int)).toNat=fr+v:=O_
   have cz:s.extract fr (fr+v)=sub:=I.symm
   go_upto_region 9 with fail
   have a4:=n_ O;have d1:w.heap.size+1<V.heap.size:=O_
   go_cut [] (fun wx=>bA wx (V) (nO x.file x.page ((aF x.pg m sub).data) ((aF x.pg m sub).valid) ((aF x.pg m sub).dirty) x.tenant x.holds x.reading x.writing) 85/\bA wx (w) (D_ A1 m1 c1 (some ⟨bb,o,none⟩) C.frames.length Q A3 m3 c3 A4 m4 c4 A5 m5 c5 A6 m6 c6 A7 m7 c7) 30/\wx.heap[w.heap.size+1]?=some (bM)/\x_ wx (fun z=>S1 z/\z<V.heap.size) (S_ A1 m1 c1) (S_ (some ⟨bb,o,none⟩) C.frames.length Q) (S_ A3 m3 c3) (S_ A4 m4 c4) (S_ A5 m5 c5) (S_ A6 m6 c6) (S_ A7 m7 c7) C/\LA Y_ wx (fun z=>w.heap.size+1<z/\z<B) (S_ (some ⟨b8,o8,none⟩) (aJ off n).length P) (aJ off n)/\s_ w wx/\V.heap.size<wx.heap.size)
   case first=>
    refine aR (S:=fun _=>False) 84 14 (inL [0,1,2,3,4,5,6,7,8,9,10,11,13]) (fun wx=>bA wx (V) (nO x.file x.page ((aF x.pg m sub).data) ((aF x.pg m sub).valid) ((aF x.pg m sub).dirty) x.tenant x.holds x.reading x.writing) 85/\bA wx (w) (D_ A1 m1 c1 (some ⟨bb,o,none⟩) C.frames.length Q A3 m3 c3 A4 m4 c4 A5 m5 c5 A6 m6 c6 A7 m7 c7) 30/\wx.heap[w.heap.size+1]?=some (bM)/\x_ wx (fun z=>S1 z/\z<V.heap.size) (S_ A1 m1 c1) (S_ (some ⟨bb,o,none⟩) C.frames.length Q) (S_ A3 m3 c3) (S_ A4 m4 c4) (S_ A5 m5 c5) (S_ A6 m6 c6) (S_ A7 m7 c7) C/\LA Y_ wx (fun z=>w.heap.size+1<z/\z<B) (S_ (some ⟨b8,o8,none⟩) (aJ off n).length P) (aJ off n)/\s_ w wx/\V.heap.size<wx.heap.size) [SK.eq (.pointer (some ⟨V,2,none⟩)),SK.eq (.agg #[.string x.pg.data,I_ x.pg.valid,I_ x.pg.dirty]),SK.eq (I_ (m:Int)),SK.eq (.string s),SK.eq (I_ (fr:Int)),SK.eq (I_ (fr:Int)),SK.eq (I_ (v:Int)),SK.eq (I_ ((fr:Int)+(v:Int))),SK.eq (.string sub),SK.eq (.tuple #[vD (aF x.pg m sub).data (aF x.pg m sub).valid (aF x.pg m sub).dirty,I_ 0]),SK.eq (.tuple #[vD (aF x.pg m sub).data (aF x.pg m sub).valid (aF x.pg m sub).dirty,I_ 0]),SK.eq (vD (aF x.pg m sub).data (aF x.pg m sub).valid (aF x.pg m sub).dirty),SK.eq (I_ 0),SK.eq (.pointer (some ⟨V,2,none⟩)),SK.any] q_ q_ rfl (fun _=>trivial) ?_;refine qP fun v0=>?_;simp only[ly];refine c_ rfl rfl (fun xw r A K L=>?_) (fun v1=>?_)
    ·obtain rfl:v0=_:=A 0 q_;have q:s_ W5 xw:=r;have u0:=(q.cell (p:=⟨V,_,none⟩) a4).trans f2;have u1:=(q.cell (p:=⟨V,_,none⟩) a4).trans f3;have u2:=(q.cell (p:=⟨V,_,none⟩) a4).trans f4;go_simp;exact L _ _ r K_ rfl
    simp only[ly];refine qP fun v2=>qP fun v3=>?_;simp only[ly];refine qP fun v4=>qP fun v5=>qP fun v6=>?_;simp only[ly];refine c_ rfl rfl (fun xw r A K L=>?_) (fun v7=>?_)
    ·obtain rfl:v5=_:=A 5 q_;obtain rfl:v6=_:=A 6 q_;go_simp;exact L _ _ r K_ (by first | rfl | (show Value.int _ _=Value.int _ _;simp;done) | (show Value.int _ _=Value.int _ _;simp [IntKind.wrap_i64,wrap64];done) | (show Value.int _ _=Value.int _ _;simp [IntKind.wrap_i64];omega))
    simp only[ly];refine qP fun v8=>?_;simp only[ly];refine c_ rfl rfl (fun xw r A K L=>?_) (fun v9=>?_)
    ·obtain rfl:v1=_:=A 1 q_;obtain rfl:v2=_:=A 2 q_;obtain rfl:v8=_:=A 8 q_;have q:s_ W5 xw:=r;go_simp
     go_at_call 153
     refine (cn xw).mono ?_;rintro e w1 ⟨rfl,hb⟩;exact L _ _ (e_ q hb) (r_.of_below hb) rfl
    simp only[ly];refine c_ rfl rfl (fun xw r A K L=>?_) (fun v10=>?_)
    ·obtain e:=A 9 q_;obtain rfl:v9=_:=e;go_simp;exact L _ _ r K_ rfl
    simp only[ly];refine c_ rfl rfl (fun xw r A K L=>?_) (fun v11=>?_)
    ·obtain e:=A 10 q_;obtain rfl:v10=_:=e;go_simp;exact L _ _ r K_ rfl
    simp only[ly];refine Z_ rfl (fun w=>r_.refl w) (fun xw A K L=>?_) (fun v12=>?_)
    ·obtain e:=A 10 q_;obtain rfl:v10=_:=e;go_simp;exact L _ rfl
    simp only[ly];refine qP fun v13=>?_;simp only[ly];refine z_ (fun xw r A K L=>?_) (fun v14=>?_)
    ·obtain rfl:v13=_:=A 13 q_;obtain e:=A 11 q_;obtain rfl:v11=_:=e;have q:s_ W5 xw:=r;have aw:=h_ O q;have ci:=iY aw;refine aS (ops:=#[]) rfl (nK rfl 83 (.tmp 76) (.tmp 74) rfl (V) 2 #[.string (aF x.pg m sub).data,I_ (aF x.pg m sub).valid,I_ (aF x.pg m sub).dirty] rfl rfl ci cK (eE) ?_);refine L undef _ ⟨iS aw,?_,?_,?_,?_,?_,?_⟩ (r_.of_setCells _ _ _ _ (fun h=>h)) trivial
     ·exact (v_ (V) _ 2 xw (w) O_).trans (h_ al.out q)
     ·exact (v_ (V) _ 2 xw (w+1) O_).trans (h_ ag.out q)
     ·exact (aa.step q).kept (r_.of_setCells _ _ _ _ (fun h=>absurd h.2 (Nat.lt_irrefl _)))
     ·exact (ad.step q).kept (r_.of_setCells _ _ _ _ (fun h=>by have:=h.2;omega))
     ·exact aY (e_ aj.out q) O_ _ _
     ·rw [cS];exact gX av q.size
    simp only[ly];refine G_ ?_;intro wz hD hG;clear hG;go_wp2;go_meet
    case rel=>exact hD
   case rest=>
    clear f0 f1 f2 f3 f4 f5 f6 f7 f8 O al ag aj aa ad bf av a4;obtain ⟨b3,am,b5,b2,b4,b6,d7⟩:=hcut;obtain ⟨c8,bz,bq,bw,c0⟩:=h5_ am b5 b2 b4 b6;obtain ⟨x0,x1,x2,x3,x4,x5,x6⟩:=T_ am;obtain ⟨f0,f1,f2,f3,f4,f5,f6,f7,f8⟩:=iQ b3;have a9:sub.size=v:=by have:=I.out;rw [this,bE_];have:=HN.out;omega
    obtain ⟨t,ht⟩:∃t:Nat,x.tenant=t:=⟨x.tenant.toNat,by have:=E.ok.tenant;omega⟩;have cj:t<C.lists.length:=by have:=HI.ten i x E.fr;have:=HI.nl;omega
    obtain ⟨l,a7⟩:∃l,C.lists[t]?=some l:=⟨_,cY cj⟩;have au:jE ⟨x.file,x.page,aF x.pg m sub,x.tenant,x.holds,x.reading,x.writing⟩:=⟨E.ok.page,E.ok.tenant,nL E.ok.pg (by have:=I.out;rw [this,bE_];have:=HN.out;omega),E.ok.holds,E.ok.reading,E.ok.writing⟩;have bv:=H_ (HI.put E au rfl rfl rfl rfl (HI.file j y E.fl) C.ptes HI.pok);have bt:=H_ (show (aF x.pg m sub).dirty≠0 from hK_ E.ok.pg.d (as_ _ _) (e6_ (by rw [a9];exact bc) (by rw [a9];omega)));obtain ⟨HT,a1,c9⟩:=eI ht a7 au;have be:i<64:=by have:=HI.nr;omega
    have bl:=fE i j ⟨x.file,x.page,aF x.pg m sub,x.tenant,x.holds,x.reading,x.writing⟩ y (bq.weak (fun z _ h=>h.1)) HI.ok cg E.fl E.ix (fun z N=>s2 z O_);have d9:w.heap.size+1<wc.heap.size:=O_
    clear am b5 b2 b4 b6 b3 ht a7 au
    go_wp2_with (first
     | (go_at_call 55;(with_reducible refine CM bl ?_);rintro e w7 ⟨gf,nf,cf,gr,nr,cr,c',d',gl,nl,cl,gk,nk,ck,g',rfl,b9,an⟩;have br:=H_ b9;have d8:=an.size;have Y:=H_ an;clear b9 an)
     | (go_at_call 154;refine CM (tF i t ⟨x.file,x.page,aF x.pg m sub,x.tenant,x.holds,x.reading,x.writing⟩ br.at_ bv.ok (V_ E.fr) HT.out a1.out (HI.lok t l a1.out) be (fun z N=>s2 z O_)) ?_;rintro e w8 ⟨gf,nf,cf,gr,nr,cr,c',d',gl,nl,cl,gk,nk,ck,g',rfl,R,M⟩;obtain ⟨P3,n3,r3,rfl⟩:=R.zones.cap;obtain ⟨P4,n4,r4,rfl⟩:=R.groups.cap;obtain ⟨P7,n7,r7,rfl⟩:=R.ptes.cap;have bs:=H_ R;have a0:=H_ M;have b0:=H_ (h_ (h_ c8 Y.out) M);clear R M)
     | (refine Q_ rfl (.tmp 4) (.tmp 82) rfl rfl rfl rfl b0 rfl ?_))
    go_roundw
    case rel=>
     exact ⟨k+1,wV (cP C i j y ⟨x.file,x.page,aF x.pg m sub,x.tenant,x.holds,x.reading,x.writing⟩) t l i,_,_,_,_,_,_,_,by go_num,O_,HS.out.next a6.out E.out b1.out c9.out rfl rfl rfl a1.out,.step ax.out a6.out E.out b1.out bu.out bt.out a1.out bx.out (by rw [<-I.out]),setRow_heap _ _ _ _ _ _ b0.out,bs.out.at_.kept (r_.of_setRow _ _ _ (fun N=>(s1 _ N).2.1 rfl)),((bw.out.step Y.out).step a0.out).kept (r_.of_setRow _ _ _ (fun N=>by have:=N.1;omega)),d_ (e_ (e_ c0.out Y.out) a0.out) (bE _) _,by have:=a0.size;simp [World.setRow];omega,(setRow_other _ _ _ _ O_).trans (h_ (h_ bz.out Y.out) a0.out)⟩
    case measure=>exact bV
  ·obtain rfl:k=J:=O_
   go_wp2_with (refine Q_ rfl (.tmp 8) (.tmp 83) rfl rfl rfl rfl HR rfl ?_)
   show bodyPost prog f96 _ _ _ _
   refine bodyPost_ret (jT rfl rfl (setRow_heap _ _ _ _ _ _ HR)) rfl ?_;exact ⟨C,_,_,_,_,_,_,_,by show yO _ _ _ _ _ _ _ _/\uV _ _ _ _ _ _ _;rw [<-ab.out];exact ⟨HS.out,ax.out⟩,rfl,(HC.kept (r_.of_setRow _ _ _ (fun N=>(s1 _ N).2.2 rfl))).weak (fun z _ N=>(s1 z N).1),d_ HW.out O_ _⟩
end
section
variable {F G Z:Nat}
theorem fU_ (pr pa j p sz:Nat) (y:Fl) (wr0:Bool) (h:x_ w S a b c d e f g C) (hI:cF F G Z C) (hj:C.files[j]?=some y) (hsz:y.size=sz) (hpr:pr<8) (hpa:pa<64) (hp8:p<8) (hS:∀z,w.heap.size<=z->S z) :
  C_ 168 #[bK a b c d e f g,I_ pr,I_ pa,I_ j,I_ p,.bool wr0] w (eK (fun C'=>cF F G Z C'/\(Dw C->Dw C')) S w):=by
 obtain ⟨S1,s1,s2,s3⟩:=iA hS;replace h:=h.weak s3;clear s3;have br:=bI hj;have bp:=fun w' (hb:s_ w w')=>eV j (h.step hb) br;have ao:=fun w' (hb:s_ w w')=>fV j y p (h.step hb) hj;have hl:=hI.ok;have q:=H_ hI;have aw:=H_ hsz;obtain ⟨A1,bl,rfl,q1,q2⟩:=h.files.form;obtain ⟨A2,m2,c2,rfl⟩:=h.frames.cap;obtain ⟨A3,m3,c3,A4,m4,c4,A5,m5,c5,A6,m6,c6,A7,m7,c7,rfl,rfl,rfl,rfl,rfl⟩:=x_.caps5 h;obtain ⟨bf,of,kt,KB,kc,rfl,ca,k1,k2,k3,k4,bn⟩:=FlA.cells h.files hj;have cm:=bI hj;have cn:C.files.length<=100:=hl.files.2;have j2:(j:Int)<(C.files.length:Int):=O_
 have j0:(0:Int)<=(j:Int):=O_
 obtain ⟨H,HL,HJ⟩:=eI h hl hj;clear h hl hj k1 k2 k3 k4;have bv:w.cell? ⟨bf,of+j*15+6,none⟩=some (I_ (sz:Int)):=by rw [<-hsz];exact bn 6 _ rfl
 have c1:=H_ bv;clear hI hsz bn bv;have i1:(0:Int)<=(pr:Int):=O_
 have cs:(pr:Int)<8:=O_
 have i3:(0:Int)<=(pa:Int):=O_
 have i4:(pa:Int)<64:=O_
 have i5:(0:Int)<=(p:Int):=O_
 have i6:(p:Int)<8:=O_
 go_enter func168,ntmps168
 go_upto_region 1 with fail
 generalize hW9:(w.alloc _).alloc _=W;obtain ⟨HX,HR,HW,HZ⟩:=dJ hW9;clear hW9 HZ;obtain ⟨x0,Q,R,U,V,Y,x6⟩:=T_ HX.out
 go_upto_region 3 with (go_at_call 92;refine CM (bp _ HW) ?_;rintro e w1 ⟨rfl,bm⟩;obtain ⟨an,ad,K⟩:=bC HX HR HW bm;clear bm)
 clear bp x0 Q R U V Y x6 HX HR HW;obtain ⟨x0,Q,R,U,V,Y,x6⟩:=T_ an.out;have z6:w1.cell? ⟨bf,of+j*15+6,none⟩=some (I_ (sz:Int)):=(g_ (K.block _ ca)).trans c1
 by_cases a2:(sz:Int)<=(p:Int)*16
 ·have d1:decide ((sz:Int)<=(p:Int)*16)=true:=dT a2;clear a2
  go_wp2_with (refine Q_ rfl (.tmp 12) (.tmp 58) rfl rfl rfl rfl ad rfl ?_)
  show bodyPost prog f168 _ _ _ _
  refine bodyPost_ret (aG rfl rfl rfl (setRow_heap _ _ _ _ _ _ ad)) rfl ?_;exact ⟨C,_,_,_,_,_,_,_,_,⟨q.out,id⟩,rfl,(H.step (d_ K.out O_ _)).weak (fun z _ k=>(s1 z k).1),d_ K.out O_ _⟩
 ·have d1:decide ((sz:Int)<=(p:Int)*16)=false:=dF a2;have bd:=H_ a2;clear a2
  by_cases hv:J_ y.c p<=0
  ·have ap:∀w',s_ w w'->C_ 59 #[bK (S_ (some ⟨bf,of,none⟩) C.files.length bl) (S_ A2 m2 c2) (S_ A3 m3 c3) (S_ A4 m4 c4) (S_ A5 m5 c5) (S_ A6 m6 c6) (S_ A7 m7 c7),I_ j,I_ p] w' (fun e bc=>e = .returned (.tuple #[I_ 0,.bool false])/\s_ w' bc):=fun w' hb=>by
    have:=ao w' hb;unfold eL uT at this;rw [if_pos hv] at this;exact this
   clear ao hv
   go_wp2_with (first | (go_at_call 59;refine CM (ap _ K) ?_;rintro e w2 ⟨rfl,ah⟩;obtain ⟨ag,a7,a8⟩:=bC an ad K ah;clear ah x0 Q R U V Y x6;obtain ⟨x0,Q,R,U,V,Y,x6⟩:=T_ ag.out) | (refine Q_ rfl (.tmp 12) (.tmp 68) rfl rfl rfl rfl a7.out rfl ?_))
   show bodyPost prog f168 _ _ _ _
   refine bodyPost_ret (aG rfl rfl rfl (setRow_heap _ _ _ _ _ _ a7)) rfl ?_;exact ⟨C,_,_,_,_,_,_,_,_,⟨q.out,id⟩,rfl,(H.step (d_ a8.out O_ _)).weak (fun z _ k=>(s1 z k).1),d_ a8.out O_ _⟩
  ·obtain ⟨i,x,bo,hU,bu⟩:=q.findOk HJ.out p O_;have ap:∀w',s_ w w'->C_ 59 #[bK (S_ (some ⟨bf,of,none⟩) C.files.length bl) (S_ A2 m2 c2) (S_ A3 m3 c3) (S_ A4 m4 c4) (S_ A5 m5 c5) (S_ A6 m6 c6) (S_ A7 m7 c7),I_ j,I_ p] w' (fun e bc=>e = .returned (.tuple #[I_ ((i:Int)+1),.bool true])/\s_ w' bc):=fun w' hb=>by
    have:=ao w' hb;unfold eL uT at this;rw [if_neg hv,bo] at this;exact this
   have n:=H_ hU;obtain ⟨ci,cj,ea,q3,q4⟩:=H.frames.form;injection ea with ea1 ea2 ea3
   subst ea1 ea2 ea3;obtain ⟨bb,o,rfl,cb,y0,y1,y2,y3,y4,y5,y6,y7,y8⟩:=FrA.cells H.frames hU.fr;have bq:=bI hU.fr;have i2:(i:Int)<(C.frames.length:Int):=O_
   have co:C.frames.length<=100:=HL.frames.2;have ay:i<64:=by have:=q.nr;omega
   have ax:=H_ bu;clear ao hv bo hU bu
   go_upto_region 8 with (go_at_call 59;refine CM (ap _ K) ?_;rintro e w2 ⟨rfl,ah⟩;obtain ⟨ag,a7,a8⟩:=bC an ad K ah;clear ah x0 Q R U V Y x6;obtain ⟨x0,Q,R,U,V,Y,x6⟩:=T_ ag.out)
   have ch:=kt9 (a8.block _ cb) y0 y1 y2 y3 y4 y5 y6 y7 y8;clear y0 y1 y2 y3 y4 y5 y6 y7 y8;obtain ⟨y0,y1,y2,y3,y4,y5,y6,y7,y8⟩:=ch;have au:w.heap.size+1<w2.heap.size:=n_ a7
   go_upto_region 9 with fail
   generalize hW9:w2.alloc _=W3;have ak:=nah hW9;have b4:=oZ hW9 ag;have a1:=oZ hW9 a7;have M:=lah hW9 a8;clear hW9;clear x0 Q R U V Y x6 y0 y1 y2 y3 y4 y5 y6 y7 y8 ap an ad K ag a7 a8 z6;obtain ⟨x0,Q,R,U,V,Y,x6⟩:=T_ b4.out;obtain ⟨f0,f1,f2,f3,f4,f5,f6,f7,f8⟩:=iQ ak.out;have cq:w.heap.size+1<W3.heap.size:=n_ a1;have az:w2.heap.size<W3.heap.size:=n_ ak;have b8:lH ⟨(pr:Int),(pa:Int),(i:Int)+1,wr0,true⟩:=⟨O_,O_,O_,O_,by show 1<=(i:Int)+1;omega,by show (i:Int)+1<=64;omega⟩;have bj:=H_ b8;have bs:=fun w' (hb:s_ w w') (k:w2.heap.size<w'.heap.size)=>eH_ ⟨(pr:Int),(pa:Int),(i:Int)+1,wr0,true⟩ (fun z=>S1 z/\z≠w2.heap.size) ((H.ptes.weak (fun z k h=>⟨h,O_⟩)).step hb) q.pok b8 (fun z cp=>⟨s2 z O_,O_⟩);clear b8
   by_cases aq:x.pg.valid=3
   ·have d2:(x.pg.valid != 3)=false:=by rw [aq];rfl
    clear aq
    cases wr0 with
    | true=>
     by_cases ar:x.writing=0
     ·have d3:(x.writing != 0)=false:=by rw [ar];rfl
      clear ar;have cd:=fun w'=>bg_ x.pg.data x.pg.valid x.pg.dirty 3 w' n.ok.pg ⟨O_,O_⟩
      go_upto_region 16 with (first
       | (go_at_call 207;refine CM (bs _ M az) ?_;rintro e w4 ⟨pv,rfl,a5,a9⟩;obtain ⟨P8,n8,r8,rfl⟩:=a5.cap;obtain ⟨al,b5,b3,am⟩:=dU ak b4 a1 M a9;have ab:=H_ a5;clear a5 a9 x0 Q R U V Y x6 f0 f1 f2 f3 f4 f5 f6 f7 f8;obtain ⟨f0,f1,f2,f3,f4,f5,f6,f7,f8⟩:=iQ al.out)
       | (go_at_call 69;refine CM (cd _) ?_;rintro e w5 ⟨rfl,b6⟩;obtain ⟨be,bz,bw,bx⟩:=dU al b5 b3 am b6;have bh:=H_ (ab.step b6);clear b6;have bt:=iY be)
       | (refine nK rfl 83 (.tmp 110) (.tmp 108) rfl (w2) 2 #[.string (aA x.pg 3).data,I_ (aA x.pg 3).valid,I_ (aA x.pg 3).dirty] rfl rfl bt cK (eE) ?_)
       | fail)
      have bg:=H_ (iS (u:= .string (aA x.pg 3).data) (v:= I_ (aA x.pg 3).valid) (z:= I_ (aA x.pg 3).dirty) be);have av:=H_ (bh.kept (r_.of_setCells w5 (w2) 2 [.string (aA x.pg 3).data,I_ (aA x.pg 3).valid,I_ (aA x.pg 3).dirty] (fun h=>h.2 rfl)));generalize hW9:w5.setCells (w2) 2 _=W6 at bg av;have c0:=yL hW9 bz;have bi:=yL hW9 bw;have bk:=sml hW9 bx;clear hW9;have ce:w.heap.size+1<W6.heap.size:=n_ bi;clear bt f0 f1 f2 f3 f4 f5 f6 f7 f8;obtain ⟨f0,f1,f2,f3,f4,f5,f6,f7,f8⟩:=iQ bg.out;obtain ⟨x0,Q,R,U,V,Y,x6⟩:=T_ c0.out;obtain ⟨t,ht⟩:∃t:Nat,x.tenant=t:=⟨x.tenant.toNat,by have:=n.ok.tenant;omega⟩;have b9:t<C.lists.length:=by have:=q.ten i x n.fr;have:=q.nl;omega
      obtain ⟨l,B⟩:∃l,C.lists[t]?=some l:=⟨_,cY b9⟩;have a6:jE ⟨x.file,x.page,aA x.pg 3,x.tenant,x.holds,x.reading,x.writing⟩:=⟨n.ok.page,n.ok.tenant,mN n.ok.pg ⟨O_,O_⟩,n.ok.holds,n.ok.reading,n.ok.writing⟩;have b1:=H_ (q.put n a6 rfl rfl rfl rfl (q.file j y HJ) C.ptes q.pok);have b2:=H_ (cF.acc (i:=i) (q.put n a6 rfl rfl rfl rfl (q.file j y HJ) _ (q.pok.enter bj)) B);have HT:=H_ ht;have ac:=H_ B;have aj:=fE i j ⟨x.file,x.page,aA x.pg 3,x.tenant,x.holds,x.reading,x.writing⟩ y (H.step bk.out) q.ok bq n.fl n.ix (fun z k=>s2 z O_);clear ht B a6
      go_upto_region 17 with (first
       | (go_at_call 55;(with_reducible refine CM aj ?_);rintro e w7 ⟨gf,nf,N,gr,nr,O,c',d',P,nl,cl,gk,nk,ck,g',rfl,ai,a4⟩;have b0:=H_ ai;have cg:=a4.size;have a0:=H_ a4;clear ai a4)
       | (go_at_call 154;refine CM (tF i t ⟨x.file,x.page,aA x.pg 3,x.tenant,x.holds,x.reading,x.writing⟩ b0.at_ b1.ok (V_ n.fr) HT.out ac.out (q.lok t l ac.out) ay (fun z k=>s2 z O_)) ?_;rintro e w8 ⟨gf,nf,N,gr,nr,O,c',d',P,nl,cl,gk,nk,ck,g',rfl,A,s⟩;obtain ⟨P3,n3,r3,rfl⟩:=A.zones.cap;obtain ⟨P4,n4,r4,rfl⟩:=A.groups.cap;obtain ⟨P7,n7,r7,rfl⟩:=A.ptes.cap)
       | fail)
      obtain ⟨X,a3⟩:=bL w8.heap.size;obtain ⟨S2,E⟩:=bL (fun z=>S1 z/\z≠X);have s3:∀z,S2 z->S1 z/\z≠X:=fun z k=>by rw [E] at k;exact k
      have c9:w.heap.size+1<X:=by have:=s.size;omega
      have m:=H_ ((A.at_.weak (S':=S2) (fun z k h=>by rw [E];exact ⟨h,O_⟩)).step (a_ (aP (w8) w8) (.cells (D_ (o_ gf) nf N (o_ gr) nr O P3 n3 r3 P4 n4 r4 (o_ P) nl cl (o_ gk) nk ck P7 n7 r7) 30)));have aa:=H_ ((((av.step a0.out).step s).weak (S':=S2) (fun z k h=>by rw [E];exact ⟨h.1,O_⟩)).step (a_ (aP (w8) w8) (.cells (D_ (o_ gf) nf N (o_ gr) nr O P3 n3 r3 P4 n4 r4 (o_ P) nl cl (o_ gk) nk ck P7 n7 r7) 30)));have D:=H_ (l_ w8 (.cells (D_ (o_ gf) nf N (o_ gr) nr O P3 n3 r3 P4 n4 r4 (o_ P) nl cl (o_ gk) nk ck P7 n7 r7) 30) X a3.symm);have ae:=H_ (m_ (h_ (h_ bi a0.out) s) (.cells (D_ (o_ gf) nf N (o_ gr) nr O P3 n3 r3 P4 n4 r4 (o_ P) nl cl (o_ gk) nk ck P7 n7 r7) 30));have af:=H_ (a_ (e_ (e_ bk a0.out) s) (.cells (D_ (o_ gf) nf N (o_ gr) nr O P3 n3 r3 P4 n4 r4 (o_ P) nl cl (o_ gk) nk ck P7 n7 r7) 30));rw [<-a3];generalize w8.alloc (.cells (D_ (o_ gf) nf N (o_ gr) nr O P3 n3 r3 P4 n4 r4 (o_ P) nl cl (o_ gk) nk ck P7 n7 r7) 30)=W9 at m aa D ae af;clear A s a3 E x0 Q R U V Y x6 f0 f1 f2 f3 f4 f5 f6 f7 f8;have o6:=b_ D 6;have ba:=t_ D 6
      go_upto_region 18 with fail
      have J:=H_ (show (W9.setCell ⟨X,6,none⟩ (S_ P8 n8 r8)).heap[X]?=some (.cells (D_ (o_ gf) nf N (o_ gr) nr O P3 n3 r3 P4 n4 r4 (o_ P) nl cl (o_ gk) nk ck P8 n8 r8) 30 (0,0)) from W_ D _);have r:=H_ ((iH W9 ⟨X,6,none⟩ (S_ P8 n8 r8) (w+1) (by show w.heap.size+1≠X;omega)).trans ae.out);have L:=H_ (aT af ⟨X,6,none⟩ (S_ P8 n8 r8) (by show w.heap.size<=X;omega));have I:=H_ ((show x_ W9 S2 _ _ _ _ _ _ (S_ P8 n8 r8) {wV (cP C i j y ⟨x.file,x.page,aA x.pg 3,x.tenant,x.holds,x.reading,x.writing⟩) t l i with ptes:=eD C.ptes ⟨(pr:Int),(pa:Int),(i:Int)+1,true,true⟩} from ⟨m.files,m.frames,m.zones,m.groups,m.lists,m.clocks,aa⟩).kept (r_.of_setCell W9 ⟨X,6,none⟩ (S_ P8 n8 r8) (fun k=>(s3 _ k).2 rfl)))
      generalize W9.setCell ⟨X,6,none⟩ (S_ P8 n8 r8)=c8 at J r L I;clear o6 ba;obtain ⟨x0,Q,R,U,V,Y,x6⟩:=T_ J.out
      go_wp2_with (refine Q_ rfl (.tmp 12) (.tmp 119) rfl rfl rfl rfl r rfl ?_)
      show bodyPost prog f168 _ _ _ _
      refine bodyPost_ret (aG rfl rfl rfl (setRow_heap _ _ _ _ _ _ r)) rfl ?_;exact ⟨_,_,_,_,_,_,_,_,_,⟨b2,fun hD=>by
       obtain ⟨e9,h9,z9⟩:=hD;refine ⟨e9,h9.set (i:=i) (x':=⟨x.file,x.page,aA x.pg 3,x.tenant,x.holds,x.reading,x.writing⟩) rfl (fun j' b7 _=>?_),z9.of (rP.set HJ rfl rfl)⟩;have cc:x.file=(j':Int):=b7;obtain rfl:j'=j:=by have:=n.ix;omega
       have au:=z9 _ _ HJ;have a2:=bd.out
       show x.page*16<e9 j'
       rw [<-au,aw.out,ax.out];omega⟩,rfl,(I.kept (r_.of_setRow _ _ _ (fun k=>(s1 _ (s3 _ k).1).2.2 rfl))).weak (fun z _ k=>(s1 z (s3 z k).1).1),d_ L.out O_ _⟩
     ·have d3:(x.writing != 0)=true:=bne_iff_ne.2 ar;clear ar
      go_wp2_with (refine Q_ rfl (.tmp 12) (.tmp 87) rfl rfl rfl rfl a1 rfl ?_)
      show bodyPost prog f168 _ _ _ _
      refine bodyPost_ret (aG rfl rfl rfl (setRow_heap _ _ _ _ _ _ a1)) rfl ?_;exact ⟨C,_,_,_,_,_,_,_,_,⟨q.out,id⟩,rfl,(H.step (d_ M.out O_ _)).weak (fun z _ k=>(s1 z k).1),d_ M.out O_ _⟩
    | false=>
     go_upto_region 16 with (first
      | (go_at_call 207;refine CM (bs _ M az) ?_;rintro e w4 ⟨pv,rfl,a5,a9⟩;obtain ⟨P8,n8,r8,rfl⟩:=a5.cap;obtain ⟨al,b5,b3,am⟩:=dU ak b4 a1 M a9;have ab:=H_ a5;have ce:=a9.size;clear a5 a9 x0 Q R U V Y x6 f0 f1 f2 f3 f4 f5 f6 f7 f8;obtain ⟨f0,f1,f2,f3,f4,f5,f6,f7,f8⟩:=iQ al.out)
      | fail)
     obtain ⟨x0,Q,R,U,V,Y,x6⟩:=T_ b5.out;obtain ⟨t,ht⟩:∃t:Nat,x.tenant=t:=⟨x.tenant.toNat,by have:=n.ok.tenant;omega⟩;have b9:t<C.lists.length:=by have:=q.ten i x n.fr;have:=q.nl;omega
     obtain ⟨l,B⟩:∃l,C.lists[t]?=some l:=⟨_,cY b9⟩;have a6:jE ⟨x.file,x.page,x.pg,x.tenant,x.holds,x.reading,x.writing⟩:=⟨n.ok.page,n.ok.tenant,n.ok.pg,n.ok.holds,n.ok.reading,n.ok.writing⟩;have b1:=H_ (q.put n a6 rfl rfl rfl rfl (q.file j y HJ) C.ptes q.pok);have b2:=H_ (cF.acc (i:=i) (q.put n a6 rfl rfl rfl rfl (q.file j y HJ) _ (q.pok.enter bj)) B);have HT:=H_ ht;have ac:=H_ B;have aj:=fE i j ⟨x.file,x.page,x.pg,x.tenant,x.holds,x.reading,x.writing⟩ y (H.step am.out) q.ok bq n.fl n.ix (fun z k=>s2 z O_);clear ht B a6
     go_upto_region 17 with (first
      | (go_at_call 55;(with_reducible refine CM aj ?_);rintro e w7 ⟨gf,nf,N,gr,nr,O,c',d',P,nl,cl,gk,nk,ck,g',rfl,ai,a4⟩;have b0:=H_ ai;have cg:=a4.size;have a0:=H_ a4;clear ai a4)
      | (go_at_call 154;refine CM (tF i t ⟨x.file,x.page,x.pg,x.tenant,x.holds,x.reading,x.writing⟩ b0.at_ b1.ok (V_ n.fr) HT.out ac.out (q.lok t l ac.out) ay (fun z k=>s2 z O_)) ?_;rintro e w8 ⟨gf,nf,N,gr,nr,O,c',d',P,nl,cl,gk,nk,ck,g',rfl,A,s⟩;obtain ⟨P3,n3,r3,rfl⟩:=A.zones.cap;obtain ⟨P4,n4,r4,rfl⟩:=A.groups.cap;obtain ⟨P7,n7,r7,rfl⟩:=A.ptes.cap)
      | fail)
     obtain ⟨X,a3⟩:=bL w8.heap.size;obtain ⟨S2,E⟩:=bL (fun z=>S1 z/\z≠X);have s3:∀z,S2 z->S1 z/\z≠X:=fun z k=>by rw [E] at k;exact k
     have c9:w.heap.size+1<X:=by have:=s.size;omega
     have m:=H_ ((A.at_.weak (S':=S2) (fun z k h=>by rw [E];exact ⟨h,O_⟩)).step (a_ (aP (w8) w8) (.cells (D_ (o_ gf) nf N (o_ gr) nr O P3 n3 r3 P4 n4 r4 (o_ P) nl cl (o_ gk) nk ck P7 n7 r7) 30)));have aa:=H_ ((((ab.step a0.out).step s).weak (S':=S2) (fun z k h=>by rw [E];exact ⟨h.1,O_⟩)).step (a_ (aP (w8) w8) (.cells (D_ (o_ gf) nf N (o_ gr) nr O P3 n3 r3 P4 n4 r4 (o_ P) nl cl (o_ gk) nk ck P7 n7 r7) 30)));have D:=H_ (l_ w8 (.cells (D_ (o_ gf) nf N (o_ gr) nr O P3 n3 r3 P4 n4 r4 (o_ P) nl cl (o_ gk) nk ck P7 n7 r7) 30) X a3.symm);have ae:=H_ (m_ (h_ (h_ b3 a0.out) s) (.cells (D_ (o_ gf) nf N (o_ gr) nr O P3 n3 r3 P4 n4 r4 (o_ P) nl cl (o_ gk) nk ck P7 n7 r7) 30));have af:=H_ (a_ (e_ (e_ am a0.out) s) (.cells (D_ (o_ gf) nf N (o_ gr) nr O P3 n3 r3 P4 n4 r4 (o_ P) nl cl (o_ gk) nk ck P7 n7 r7) 30));rw [<-a3];generalize w8.alloc (.cells (D_ (o_ gf) nf N (o_ gr) nr O P3 n3 r3 P4 n4 r4 (o_ P) nl cl (o_ gk) nk ck P7 n7 r7) 30)=W9 at m aa D ae af;clear A s a3 E x0 Q R U V Y x6 f0 f1 f2 f3 f4 f5 f6 f7 f8;have o6:=b_ D 6;have ba:=t_ D 6
     go_upto_region 18 with fail
     have J:=H_ (show (W9.setCell ⟨X,6,none⟩ (S_ P8 n8 r8)).heap[X]?=some (.cells (D_ (o_ gf) nf N (o_ gr) nr O P3 n3 r3 P4 n4 r4 (o_ P) nl cl (o_ gk) nk ck P8 n8 r8) 30 (0,0)) from W_ D _);have r:=H_ ((iH W9 ⟨X,6,none⟩ (S_ P8 n8 r8) (w+1) (by show w.heap.size+1≠X;omega)).trans ae.out);have L:=H_ (aT af ⟨X,6,none⟩ (S_ P8 n8 r8) (by show w.heap.size<=X;omega));have I:=H_ ((show x_ W9 S2 _ _ _ _ _ _ (S_ P8 n8 r8) {wV (cP C i j y ⟨x.file,x.page,x.pg,x.tenant,x.holds,x.reading,x.writing⟩) t l i with ptes:=eD C.ptes ⟨(pr:Int),(pa:Int),(i:Int)+1,false,true⟩} from ⟨m.files,m.frames,m.zones,m.groups,m.lists,m.clocks,aa⟩).kept (r_.of_setCell W9 ⟨X,6,none⟩ (S_ P8 n8 r8) (fun k=>(s3 _ k).2 rfl)))
     generalize W9.setCell ⟨X,6,none⟩ (S_ P8 n8 r8)=c8 at J r L I;clear o6 ba;obtain ⟨x0,Q,R,U,V,Y,x6⟩:=T_ J.out
     go_wp2_with (refine Q_ rfl (.tmp 12) (.tmp 119) rfl rfl rfl rfl r rfl ?_)
     show bodyPost prog f168 _ _ _ _
     refine bodyPost_ret (aG rfl rfl rfl (setRow_heap _ _ _ _ _ _ r)) rfl ?_;exact ⟨_,_,_,_,_,_,_,_,_,⟨b2,fun hD=>by
      obtain ⟨e9,h9,z9⟩:=hD;refine ⟨e9,h9.set (i:=i) (x':=⟨x.file,x.page,x.pg,x.tenant,x.holds,x.reading,x.writing⟩) rfl (fun j' b7 _=>?_),z9.of (rP.set HJ rfl rfl)⟩;have cc:x.file=(j':Int):=b7;obtain rfl:j'=j:=by have:=n.ix;omega
      have au:=z9 _ _ HJ;have a2:=bd.out
      show x.page*16<e9 j'
      rw [<-au,aw.out,ax.out];omega⟩,rfl,(I.kept (r_.of_setRow _ _ _ (fun k=>(s1 _ (s3 _ k).1).2.2 rfl))).weak (fun z _ k=>(s1 z (s3 z k).1).1),d_ L.out O_ _⟩
   ·have d2:(x.pg.valid != 3)=true:=bne_iff_ne.2 aq;clear aq
    go_wp2_with (refine Q_ rfl (.tmp 12) (.tmp 87) rfl rfl rfl rfl a1 rfl ?_)
    show bodyPost prog f168 _ _ _ _
    refine bodyPost_ret (aG rfl rfl rfl (setRow_heap _ _ _ _ _ _ a1)) rfl ?_;exact ⟨C,_,_,_,_,_,_,_,_,⟨q.out,id⟩,rfl,(H.step (d_ M.out O_ _)).weak (fun z _ k=>(s1 z k).1),d_ M.out O_ _⟩
end
section
variable {F G Z:Nat}
theorem SoP.putS (hI:cF F G Z C) (hj:C.files[j]?=some y) (h:SoP C j y C') (hu:∀p ∈ aJ off n,lU C j y off n true p):yO F G Z off n j 0 C':=by
 rcases h with rfl | ⟨i,x,s,hU,_,hs0,hs3,rfl⟩
 ·exact ⟨hI,y,hj,fun m p _ d=>hu p (gL d)⟩
 ·have q:jE ⟨x.file,x.page,aA x.pg s,x.tenant,x.holds,x.reading,x.writing⟩:=⟨hU.ok.page,hU.ok.tenant,mN hU.ok.pg ⟨hs0,hs3⟩,hU.ok.holds,hU.ok.reading,hU.ok.writing⟩;obtain ⟨u,g,f,hv⟩:=hI.used hU.fr (by rw [hU.ix];omega);obtain ⟨_,rfl,rfl⟩:=hU.eq f;obtain ⟨t,hc⟩:=fW (c:=g.c) (p:=x.page) (by rw [hv];omega);refine ⟨hI.put hU q rfl rfl rfl rfl (hI.file u g hj) C.ptes hI.pok,_,V_ hj,fun m p _ d=>?_⟩;obtain ⟨b,x',r,a,k,l⟩:=hu p (gL d);have o:J_ (jO g.c x.page ((aA x.pg s).dirty != 0) (x.writing != 0)) p=(b:Int)+1:=by rw [dK t hc];exact r
  by_cases e:b=i
  ·subst e;obtain rfl:x'=x:=bH (a.fr.symm.trans hU.fr);exact ⟨b,_,o,⟨V_ hU.fr,V_ hj,hU.ix,q⟩,k,l⟩
  ·exact ⟨b,x',o,⟨dO e a.fr,V_ hj,a.ix,a.ok⟩,k,l⟩
def WrP (F G Z:Nat) (C:Ck) (j off n:Nat) (s:ByteArray) (sz:Nat) (y:Fl) (C':Ck) (err:Int):Prop:=cF F G Z C'/\(sz % 16=0->(∀p ∈ aJ off n,lU C j y off n true p)->err=0/\∃C1 y1,uV off n s j C ((off+n+15) / 16 - off / 16) C1/\C1.files[j]?=some y1/\C'={C1 with files:=C1.files.set j {y1 with size:=max y1.size ((off:Int)+(n:Int))}})/\(err=0->∃C0 C1 y1,SoP C j y C0/\uV off n s j C0 ((off+n+15) / 16 - off / 16) C1/\C1.files[j]?=some y1/\C'={C1 with files:=C1.files.set j {y1 with size:=max y1.size ((off:Int)+(n:Int))}})/\(err≠0->C'=C)
theorem cF.size (h:cF F G Z C) (hj:C.files[j]?=some y) {sz:Nat} (hs:sz<=128):cF F G Z {C with files:=C.files.set j {y with size:=sz}}:=
 h.rel (jY.refl h) (jX.set h hj (fun _ _=>rfl) ⟨⟨sz,rfl,hs⟩,(h.file j y hj).slot,(h.file j y hj).err,(h.file j y hj).st⟩) rfl rfl h.nl h.nk h.lok h.pok
theorem LW.size {g:Nat} {L:List Fl} (h:LW jI w S g L) (hj:L[j]?=some y) (v:Int):LW jI (w.setCell ⟨g,j*15+6,none⟩ (I_ v)) S g (L.set j {y with size:=v}):=
 h.setOne hj O_ rfl fun r ⟨h',A,cap,k1,k2,k3,k4,e⟩=>by subst e;exact ⟨h',A,cap,k1,k2,k3,k4,rfl⟩
theorem tP (C:Ck) (j off sz:Nat) (y:Fl) (s:ByteArray) (a b c d e f g:Value) (S:Nat->Prop) (w:World) (h:x_ w S a b c d e f g C) (hI:cF F G Z C) (hj:C.files[j]?=some y) (hsz:y.size=sz) (h1:1<=s.size) (h2:off+s.size<=128) (hS:∀z,w.heap.size<=z->S z) :
  C_ 34 #[bK a b c d e f g,I_ j,I_ off,.string s] w (aB_ (WrP F G Z C j off s.size s sz y) S w):=by
 have bo:sz<=128:=by obtain ⟨q,h1,h2⟩:=(hI.file j y hj).size;omega
 obtain ⟨S1,s1,s2,s3⟩:=iA hS;replace h:=h.weak s3;clear s3;obtain ⟨n,hn⟩:=bL s.size;rw [<-hn] at h1 h2 ⊢;have HN:=H_ hn;have bs:(s.size:Int)=(n:Int):=O_
 have bb:=bI hj;have ba:=fun w' (hb:s_ w w')=>eV j (h.step hb) bb;have b5:=fun w'=>kA (off:Int) (n:Int) w' O_ O_ O_ O_;have bh:=fun w' (hb:s_ w w')=>fa_ off n true (h.step hb) hI.ok hj (hI.findOk hj) h1 h2;have be:=fun w' (hb:s_ w w') (v:w.heap.size+1<w'.heap.size)=>ao_ sz ((off:Int)+(n:Int)) (h.step hb) hI.ok hj hsz bo (hI.findOk hj) (fun z ca=>s2 z O_);have hl:=hI.ok;have HI:=H_ hI;obtain ⟨A1,bw,rfl,q1,q2⟩:=h.files.form;obtain ⟨A2,m2,c2,rfl⟩:=h.frames.cap;obtain ⟨A3,m3,c3,A4,m4,c4,A5,m5,c5,A6,m6,c6,A7,m7,c7,rfl,rfl,rfl,rfl,rfl⟩:=x_.caps5 h;obtain ⟨bf,of,kt,KB,kc,rfl,c0,k1,k2,k3,k4,bl⟩:=FlA.cells h.files hj;have c8:=bI hj;have c9:C.files.length<=100:=hl.files.2;have j2:(j:Int)<(C.files.length:Int):=O_
 have j0:(0:Int)<=(j:Int):=O_
 obtain ⟨H,HL,HJ⟩:=eI h hl hj;clear h hl hj k1 k2 k3 k4;have bv:=H_ hsz;clear hI hn hsz bl;have n0:((n:Int) == 0)=false:=beq_eq_false_iff_ne.2 O_;go_enter func34,ntmps34
 go_upto_region 1 with fail
 generalize o:(w.alloc _).alloc _=W;obtain ⟨HX,HR,HW,HZ⟩:=dJ o;clear o HZ;obtain ⟨x0,M,N,O,P,Q,R⟩:=T_ HX.out
 go_upto_region 6 with (first
  | (go_at_call 92;refine CM (ba _ HW) ?_;rintro e w1 ⟨rfl,b3⟩;obtain ⟨ai,ar,ag⟩:=bC HX HR HW b3;clear b3 x0 M N O P Q R;obtain ⟨x0,M,N,O,P,Q,R⟩:=T_ ai.out)
  | (go_at_call 93;refine CM (b5 _) ?_;rintro e w2 ⟨rfl,rfl⟩)
  | (go_at_call 94;refine CM (bh _ ag) ?_;rintro e w3 ⟨u,K,err,rfl,D,bx,bm,a2,a1,b4⟩;obtain ⟨aj,a8,ah⟩:=bC ai ar ag b4;clear b4)
  | fail)
 clear ba b5 bh x0 M N O P Q R HX HR HW ai ar ag;obtain ⟨A9,bq,rfl,_,_⟩:=D.form;have bp:w.heap.size+1<w3.heap.size:=n_ a8;have HG:=H_ a2;have ao:=H_ a1;clear a2 a1 D;obtain ⟨x0,M,N,O,P,Q,R⟩:=T_ aj.out
 go_upto_region 7 with (go_at_call 95;refine CM (be _ ah bp) ?_;rintro e w4 ⟨Cs,L,a',b',c',d',e',f',g',bg,rfl,al,a0⟩;obtain ⟨E1,u1,v1,E2,u2,v2,E3,u3,v3,E4,u4,v4,E5,u5,v5,E6,u6,v6,E7,u7,v7,rfl,rfl,rfl,rfl,rfl,rfl,rfl⟩:=x_.caps al)
 obtain ⟨X,Y⟩:=bL w4.heap.size;have ak:=H_ (m_ (h_ aj a0) (.cells (D_ E1 u1 v1 E2 u2 v2 E3 u3 v3 E4 u4 v4 E5 u5 v5 E6 u6 v6 E7 u7 v7) 30));have x:=H_ (m_ (h_ a8 a0) (.cells (D_ E1 u1 v1 E2 u2 v2 E3 u3 v3 E4 u4 v4 E5 u5 v5 E6 u6 v6 E7 u7 v7) 30));have a6:=H_ (l_ w4 (.cells (D_ E1 u1 v1 E2 u2 v2 E3 u3 v3 E4 u4 v4 E5 u5 v5 E6 u6 v6 E7 u7 v7) 30) X Y.symm);have A:=H_ (a_ (e_ ah a0) (.cells (D_ E1 u1 v1 E2 u2 v2 E3 u3 v3 E4 u4 v4 E5 u5 v5 E6 u6 v6 E7 u7 v7) 30));have bz:w.heap.size+1<X:=by rw [Y];exact n_ (h_ a8 a0)
 obtain ⟨S2,ab⟩:=bL (fun z=>S1 z/\z≠X);have s3:∀z,S2 z->S1 z/\z≠X:=fun z v=>by rw [ab] at v;exact v
 have s4:∀z,X<z->S2 z:=fun z v=>by rw [ab];exact ⟨s2 z O_,O_⟩
 have ae:=H_ ((al.weak (S':=S2) (fun z v h=>by rw [ab];exact ⟨h,O_⟩)).step (a_ (aP (w4) w4) (.cells (D_ E1 u1 v1 E2 u2 v2 E3 u3 v3 E4 u4 v4 E5 u5 v5 E6 u6 v6 E7 u7 v7) 30)));have bd:(w4.alloc (.cells (D_ E1 u1 v1 E2 u2 v2 E3 u3 v3 E4 u4 v4 E5 u5 v5 E6 u6 v6 E7 u7 v7) 30)).heap.size=X+1:=by simp [Y]
 have V:=H_ bg;rw [<-Y];generalize w4.alloc (.cells (D_ E1 u1 v1 E2 u2 v2 E3 u3 v3 E4 u4 v4 E5 u5 v5 E6 u6 v6 E7 u7 v7) 30)=W5 at ak x a6 A ae bd;clear al a0 Y ab x0 M N O P Q R aj a8 ah be bg;obtain ⟨x0,M,N,O,P,Q,R⟩:=T_ ak.out
 by_cases e1:err=4\/L=4
 ·have HE:=H_ e1;have d1:(err == 4)=true\/((err == 4)=false/\(L == 4)=true):=by
   rcases e1 with e | e
   ·exact .inl (beq_iff_eq.2 e)
   ·by_cases h4:err=4
    ·exact .inl (beq_iff_eq.2 h4)
    ·exact .inr ⟨beq_eq_false_iff_ne.2 h4,beq_iff_eq.2 e⟩
  clear e1
  rcases d1 with d1 | ⟨d1,d2⟩
  all_goals
   go_wp2_with (refine Q_ rfl (.tmp 8) (.tmp 55) rfl rfl rfl rfl x rfl ?_)
   show bodyPost prog f34 _ _ _ _
   refine bodyPost_ret (aG rfl rfl rfl (setRow_heap _ _ _ _ _ _ x)) rfl ?_;exact ⟨C,_,_,_,_,_,_,_,_,⟨HI.out,fun h E=>absurd HE.out (by have:=(ao.out E).1;have:=(V.out.2 h).2;omega),fun h=>absurd h cE,fun _=>rfl⟩,rfl,(H.step (d_ A.out O_ _)).weak (fun z _ v=>(s1 z v).1),d_ A.out O_ _⟩
 ·have d1:(err == 4)=false:=beq_eq_false_iff_ne.2 O_;have d2:(L == 4)=false:=beq_eq_false_iff_ne.2 O_
  by_cases e2:0<K.length\/L≠0
  ·have HE:=H_ e2;have d3:(∃q:Nat,K.length=q+1)\/(K=[]/\(L != 0)=true):=by
    by_cases h4:0<K.length
    ·exact .inl ⟨K.length - 1,O_⟩
    ·exact .inr ⟨List.eq_nil_of_length_eq_zero O_,bne_iff_ne.2 O_⟩
   clear e1 e2
   rcases d3 with ⟨q,d3⟩ | ⟨rfl,d4⟩
   all_goals
    go_wp2_with (refine Q_ rfl (.tmp 8) (.tmp 63) rfl rfl rfl rfl x rfl ?_)
    show bodyPost prog f34 _ _ _ _
    refine bodyPost_ret (aG rfl rfl rfl (setRow_heap _ _ _ _ _ _ x)) rfl ?_;exact ⟨C,_,_,_,_,_,_,_,_,⟨HI.out,fun h E=>absurd HE.out (by have:=(ao.out E).2;have:=(V.out.2 h).2;simp_all),fun h=>absurd h cE,fun _=>rfl⟩,rfl,(H.step (d_ A.out O_ _)).weak (fun z _ v=>(s1 z v).1),d_ A.out O_ _⟩
  ·have b1:K=[]:=List.eq_nil_of_length_eq_zero O_;have ad:err=0:=O_
   have b7:L=0:=O_
   have b9:=HG ad b1;have aq:=H_ (V.out.1.putS HI HJ b9);subst b1 ad b7;clear e1 e2 d1 d2 bm b9;clear x0 M N O P Q R;obtain ⟨x0,M,N,O,P,Q,R⟩:=T_ a6.out;have a4:=fun w' (hb:s_ W5 w')=>hp_ j off s (ae.step hb) (by rw [<-HN.out];exact aq.out) (by rw [<-HN.out];exact h1) (by rw [<-HN.out];exact h2) (fun z v=>s4 z (by have:=hb.size;omega));rw [<-HN.out] at a4
   go_upto_region 12 with (first
    | (go_at_call 96;refine CM (a4 _ B_) ?_;rintro e w6 ⟨k,a',b',c',d',e',f',g',a9,rfl,b6,t⟩)
    | (go_at_call 21;(refine CM (kY k _ _ _ _ _ _ _ S2 _ b6 a9.1.1.ok (fun z v=>s4 z (by have:=t.size;omega))) ?_);rintro e w7 ⟨gf,nf,cf,gr,nr,cr,c',d',gl,nl,cl,gk,nk,ck,g',rfl,r,ac⟩;obtain ⟨P3,n3,r3,rfl⟩:=r.zones.cap;obtain ⟨P4,n4,r4,rfl⟩:=r.groups.cap;obtain ⟨P7,n7,r7,rfl⟩:=r.ptes.cap;have af:=H_ (h_ (h_ a6 t) ac);have au:=H_ (h_ (h_ x t) ac);have ax:=H_ (e_ (e_ A t) ac))
    | (refine Q_ rfl (.tmp 12) (.tmp 69) rfl rfl rfl rfl af rfl ?_)
    | fail)
   have cb:X<w6.heap.size:=by have:=t.size;omega
   have ef:=r.ef;subst ef;have bu:X<gf/\gf<gr/\gr<gl/\gl<gk:=⟨by have:=r.o1;have:=t.size;omega,r.o2,r.o3,r.o4⟩;have U:=H_ (r.setRow X (D_ (o_ gf) k.files.length cf (o_ gr) nr cr P3 n3 r3 P4 n4 r4 (o_ gl) nl cl (o_ gk) nk ck P7 n7 r7) (fun v=>(s3 _ v).2 rfl) (by have:=t.size;omega));generalize o:w7.setRow X (D_ (o_ gf) k.files.length cf (o_ gr) nr cr P3 n3 r3 P4 n4 r4 (o_ gl) nl cl (o_ gk) nk ck P7 n7 r7)=W8 at U;have a7:=srs o af;have av:=srx o au;have ay:=srl o ax;clear o;obtain ⟨aa,l,a3,_⟩:=a9.1;obtain ⟨z1,an,cc⟩:=(aa.file j l a3).size;obtain ⟨ap,bi,a5,az⟩:=rW a9 aa a3 an;have bn:j<k.files.length:=bI a3;have bt:k.files.length<=100:=aa.ok.files.2
   have br:(j:Int)<(k.files.length:Int):=O_
   obtain ⟨z7,z8,z9,z6⟩:=LW.fl_at U.files a3;rw [an] at z6;clear a9 aa a3 an b6 t r ac af au ax a6 x ak A ae aq a4 x0 M N O P Q R bd;obtain ⟨x0,M,N,O,P,Q,R⟩:=T_ a7.out;have am:=n_ a7;have bc:=U.files.lt
   go_cut [] (fun wx=>eS wx S2 (w6) gf k.files.length cf gr nr cr (S_ P3 n3 r3) (S_ P4 n4 r4) gl nl cl gk nk ck (S_ P7 n7 r7) (⟨k.files.set j ⟨l.dev,l.slot,l.c,max (z1:Int) ((off:Int)+(n:Int)),l.blocks,l.ecnt,l.eerr,l.sseq,l.ssize,l.sblocks,l.which,l.seq⟩,k.frames,k.zones,k.groups,k.lists,k.clocks,k.ptes⟩:Ck)/\bA wx X (D_ (o_ gf) k.files.length cf (o_ gr) nr cr P3 n3 r3 P4 n4 r4 (o_ gl) nl cl (o_ gk) nk ck P7 n7 r7) 30/\wx.heap[w.heap.size+1]?=some (bM)/\s_ w wx)
   case first=>
    refine aR (S:=TS S2 gf gr gl gk) 87 16 (fun i=>decide (i<=15)) (fun wx=>eS wx S2 (w6) gf k.files.length cf gr nr cr (S_ P3 n3 r3) (S_ P4 n4 r4) gl nl cl gk nk ck (S_ P7 n7 r7) (⟨k.files.set j ⟨l.dev,l.slot,l.c,max (z1:Int) ((off:Int)+(n:Int)),l.blocks,l.ecnt,l.eerr,l.sseq,l.ssize,l.sblocks,l.which,l.seq⟩,k.frames,k.zones,k.groups,k.lists,k.clocks,k.ptes⟩:Ck)/\bA wx X (D_ (o_ gf) k.files.length cf (o_ gr) nr cr P3 n3 r3 P4 n4 r4 (o_ gl) nl cl (o_ gk) nk ck P7 n7 r7) 30/\wx.heap[w.heap.size+1]?=some (bM)/\s_ w wx) [SK.eq (P_ X),SK.eq (S_ (some ⟨gf,0,none⟩) k.files.length cf),SK.eq (I_ (j:Int)),SK.eq (P_ X),SK.eq (S_ (some ⟨gf,0,none⟩) k.files.length cf),SK.eq (I_ (j:Int)),SK.eq (.pointer (some ⟨gf,j*15,none⟩)),SK.eq (.pointer (some ⟨gf,j*15+6,none⟩)),SK.eq (I_ (z1:Int)),SK.eq (I_ (off:Int)),SK.eq (.string s),SK.eq (I_ (n:Int)),SK.eq (I_ ((off:Int)+(n:Int))),SK.eq (I_ (max (z1:Int) ((off:Int)+(n:Int)))),SK.eq (.pointer (some ⟨gf,j*15,none⟩)),SK.eq (.pointer (some ⟨gf,j*15+6,none⟩)),SK.any] q_ q_ rfl (fun _=>trivial) ?_;refine qP fun v0=>?_;simp only[ly];refine c_ rfl rfl (fun xw B I K D=>?_) (fun v1=>?_)
    ·obtain rfl:v0=_:=I 0 q_;have m:s_ W8 xw:=B;have u0:=(m.cell (p:=⟨X,_,none⟩) am).trans x0;go_simp;exact D _ _ B K_ rfl
    simp only[ly];refine qP fun v2=>qP fun v3=>?_;simp only[ly];refine c_ rfl rfl (fun xw B I K D=>?_) (fun v4=>?_)
    ·obtain rfl:v3=_:=I 3 q_;have m:s_ W8 xw:=B;have u0:=(m.cell (p:=⟨X,_,none⟩) am).trans x0;go_simp;exact D _ _ B K_ rfl
    simp only[ly];refine qP fun v5=>qP fun v6=>qP fun v7=>?_;simp only[ly];refine c_ rfl rfl (fun xw B I K D=>?_) (fun v8=>?_)
    ·obtain rfl:v7=_:=I 7 q_;have m:s_ W8 xw:=B;have u0:=(m.cell (p:=⟨gf,_,none⟩) bc).trans z6;go_simp;exact D _ _ B K_ rfl
    simp only[ly];refine qP fun v9=>qP fun v10=>qP fun v11=>?_;simp only[ly];refine c_ rfl rfl (fun xw B I K D=>?_) (fun v12=>?_)
    ·obtain rfl:v9=_:=I 9 q_;obtain rfl:v11=_:=I 11 q_;go_simp;exact D _ _ B K_ (by first | rfl | (show Value.int _ _=Value.int _ _;simp;done) | (show Value.int _ _=Value.int _ _;simp [IntKind.wrap_i64,wrap64];done) | (show Value.int _ _=Value.int _ _;simp [IntKind.wrap_i64];omega))
    simp only[ly];refine c_ rfl rfl (fun xw B I K D=>?_) (fun v13=>?_)
    ·obtain rfl:v8=_:=I 8 q_;obtain rfl:v12=_:=I 12 q_;go_simp;exact D _ _ B K_ (by show Value.int _ _=Value.int _ _;congr 1;first | rfl | (split <;> omega))
    simp only[ly];refine qP fun v14=>qP fun v15=>?_;simp only[ly];refine z_ (fun xw B I K D=>?_) (fun v16=>?_)
    ·obtain rfl:v15=_:=I 15 q_;obtain rfl:v13=_:=I 13 q_;have m:s_ W8 xw:=B;have J:=U.step m;obtain ⟨⟨u,hu⟩,c1⟩:=J.files.slot bn (p:=6) O_;go_simp;have b8:=J.putFiles (L_ xw gf (j*15+6) [I_ (max (z1:Int) ((off:Int)+(n:Int)))]) (J.files.size a5.out _) A_;refine D undef _ ⟨b8,?_,?_,?_⟩ (r_.of_setCell _ _ _ (fun h=>h.2.1 rfl)) trivial
     ·exact (iH xw ⟨gf,j*15+6,none⟩ _ X (by show X≠gf;omega)).trans (h_ a7.out m)
     ·exact (iH xw ⟨gf,j*15+6,none⟩ _ (w+1) (by show w+1≠gf;omega)).trans (h_ av.out m)
     ·exact aT (e_ ay m) ⟨gf,j*15+6,none⟩ _ (by show w<=gf;omega)
    simp only[ly];refine G_ ?_;intro wz hD hG;clear hG;go_wp2;go_meet
    case rel=>exact hD
   case rest=>
    clear x0 M N O P Q R z6 z7 z8 z9 am bc U a7 av ay;obtain ⟨b0,bk,b2,o⟩:=hcut;obtain ⟨J,aw,bj⟩:=eI b0 b2 o;clear b0 b2 o;obtain ⟨x0,M,N,O,P,Q,R⟩:=T_ bk
    go_wp2_with (refine Q_ rfl (.tmp 8) (.tmp 86) rfl rfl rfl rfl aw rfl ?_)
    show bodyPost prog f34 _ _ _ _
    refine bodyPost_ret (aG rfl rfl rfl (setRow_heap _ _ _ _ _ _ aw)) rfl ?_;refine ⟨_,_,_,_,_,_,_,_,_,?_,rfl,((J.setRow (w+1) (D_ (o_ gf) k.files.length cf (o_ gr) nr cr P3 n3 r3 P4 n4 r4 (o_ gl) nl cl (o_ gk) nk ck P7 n7 r7) (fun v=>(s1 _ (s3 _ v).1).2.2 rfl) (by have:=J.lt;omega)).weak O_ (fun z v=>(s1 z (s3 z v).1).1) hS).at_,d_ bj.out O_ _⟩;refine ⟨?_,fun h E=>⟨rfl,k,l,?_,a5.out,?_⟩,fun _=>⟨_,k,l,V.out.1,ap.out.2,a5.out,?_⟩,fun h=>absurd rfl h⟩
    ·have:=bi.size a5.out (sz:=max z1 (off+n)) O_;rw [show ((max z1 (off+n):Nat):Int)=max (z1:Int) ((off:Int)+(n:Int)) by omega] at this;exact this
    ·rw [<-(V.out.2 h).1];exact ap.out.2
    ·rw [az.out]
    ·rw [az.out]
end
end Go.Proofs.YtehfhnbpnaiogaaGreatDoor
