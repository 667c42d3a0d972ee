/-
  Lemmas and contracts for the laws of this seat, part 15; several texts joined by a program.
-/
import Derived.Test.YtehfhnbpnaiogaaGreatDoorD13
import Derived.Test.YtehfhnbpnaiogaaGreatDoorD14
import Derived.Test.YtehfhnbpnaiogaaGreatDoorD00
namespace Go.Proofs.YtehfhnbpnaiogaaGreatDoor
set_option linter.unusedVariables false
set_option linter.unusedSimpArgs false
set_option maxRecDepth 100000
set_option maxHeartbeats 16000000
open Go.RowKit Go.Proofs.Tryz IntKind
variable {C C' C0:Ck} {P:Program} {Q:Exit->Act->World->Prop} {S:Nat->Prop} {W w w':World} {Z base i id j k n off:Nat} {cs:Array Value} {e:TypeId} {err:Int} {gs:List Gr} {sz:List Int} {v vr':Value} {y:Fl} {α:Type}
section
variable {F G Z:Nat}
theorem uV.dw {s:ByteArray}:∀{k:Nat} {C:Ck},uV off n s j C0 k C->(∀e:Nat->Int,((off:Int)+(n:Int))<=e j->rN e C0->rN e C)/\rP C0 C:=by
 intro k C h
 induction h with
 | zero=>exact ⟨fun _ _ h=>h,.refl _⟩
 | @step k i t at' fr ct C x x' y l p _ hp hu hxp _ _ _ hpt hx' ih=>
  refine ⟨fun e c h0=>(ih.1 e c h0).set (i:=i) (x':=x') rfl (fun b a _=>?_),ih.2.trans (rP.set hu.fl rfl rfl)⟩;subst hx';have d:x.file=(b:Int):=a;obtain rfl:b=j:=by have:=hu.ix;omega
  show x.page*16<e b
  rw [hxp];have:=hpt.2;omega
theorem WrP.dw {sz:Nat} {s:ByteArray} (h:WrP F G Z C j off n s sz y C' err) (hj:C.files[j]?=some y) (hD:Dw C):Dw C':=by
 obtain ⟨_,_,h1,h2⟩:=h
 by_cases l:err=0
 ·obtain ⟨A,B,f,w,z,o,rfl⟩:=h1 l;obtain ⟨e,p,g⟩:=hD;obtain ⟨s1,s2⟩:=w.dw hj;obtain ⟨u,v⟩:=z.dw;have m:=(g.of s2).of v;have r:y.size=e j:=g j y hj;have d:f.size=e j:=m j f o;refine Dw.resize m o rfl ?_;have t:rN (fun k=>if k=j then max (e j) ((off:Int)+(n:Int)) else e k) C:=p.le (fun k=>by
   show e k<=if k=j then max (e j) ((off:Int)+(n:Int)) else e k
   split
   ·rename_i q;subst q;omega
   ·exact Int.le_refl _)
  have h3:=u _ (by show _<=if j=j then max (e j) ((off:Int)+(n:Int)) else e j;rw [if_pos rfl];omega) (s1 _ (by show _<=if j=j then max (e j) ((off:Int)+(n:Int)) else e j;rw [if_pos rfl];omega) t);exact fun i x k a b c=>by
   have:=h3 i x k a b c
   show _<if k=j then max f.size ((off:Int)+(n:Int)) else e k
   rw [d];exact this
 ·rw [h2 l];exact hD
theorem InP.dw {p t:Nat} {u:Bool} {l:Lr} {gp:Gr} {n:Int} (h:InP C j p t k u y l gp C' n err) (hj:C.files[j]?=some y) (hD:Dw C):Dw C':=by
 rcases h with ⟨_,rfl,_⟩ | ⟨_,_,i,ac,_,_,_,rfl⟩
 ·exact hD
 ·refine hD.of (fun e b=>b.set (i:=i) (x':=⟨j,p,iI y p,t,0,0,0⟩) rfl (fun c _ a=>?_)) (rP.set hj rfl rfl)
  rcases a with a | a
  ·exact absurd (by show (iI y p).dirty=0;unfold iI;split <;> rfl) a
  ·exact absurd rfl a
abbrev nP (F G Z:Nat) (S:Nat->Prop) (w:World) (e:Ending) (w':World):Prop:=eK (fun C'=>fN F G Z C') S w e w'
theorem eK.inv {P:Ck->Prop} {e:Ending} (hP:∀C',P C'->fN F G Z C') (h:eK P S w e w'):nP F G Z S w e w':=by
 obtain ⟨C',er,a,b,c,d,e',f,g,h1,h2,h3,h4⟩:=h;exact ⟨C',er,a,b,c,d,e',f,g,hP _ h1,h2,h3,h4⟩
def iw_ (F G Z:Nat) (S:Nat->Prop) (w:World) (e:Ending) (w':World):Prop:=∃C' err a b c d e' f g rq,fN F G Z C'/\e = .returned (.tuple #[bK a b c d e' f g,rq,I_ err])/\x_ w' S a b c d e' f g C'/\s_ w w'
section
variable (C:Ck) (i:Nat) (x:Fr) (a b c d e f g:Value) (S:Nat->Prop) (w:World) (h:x_ w S a b c d e f g C) (hI:fN F G Z C) (hx:C.frames[i]?=some x) (hf:x.file≠-1) (hS:∀z,w.heap.size<=z->S z)
include h hI hx hf hS
theorem hx_ (n:Int) (hn:-1<=n/\n<=1):C_ 167 #[bK a b c d e f g,I_ ((i:Int)+1),I_ n] w (nP F G Z S w):=by
 obtain ⟨j,y,hu,_⟩:=hI.used hx hf;exact (hy_ n h hI.ok hu O_ hS).mono fun e w' he=>eK.inv (fun C'=>hI.putP hu) he
theorem am_ (n:Int) (hn:1<=n/\n<=3):C_ 90 #[bK a b c d e f g,I_ ((i:Int)+1),I_ n] w (nP F G Z S w):=by
 obtain ⟨j,y,hu,_⟩:=hI.used hx hf;exact (rZ n h hI.ok hu hn hS).mono fun e w' he=>eK.inv (fun C'=>hI.putP hu) he
theorem wI (t:ByteArray) (ok:Bool) (ht:t.size=16):C_ 91 #[bK a b c d e f g,I_ ((i:Int)+1),.string t,.bool ok] w (nP F G Z S w):=by
 obtain ⟨j,y,hu,_⟩:=hI.used hx hf;exact (cY_ t ok h hI.ok hu ht hS).mono fun e w' he=>eK.inv (fun C'=>hI.putP hu) he
theorem iU_ (n:Int):C_ 17 #[bK a b c d e f g,I_ ((i:Int)+1),I_ n] w (nP F G Z S w):=by
 obtain ⟨j,y,hu,_⟩:=hI.used hx hf;exact (iW_ n h hI.ok hu (hI.file j y hu.fl).err hS).mono fun e w' he=>eK.inv (fun C'=>hI.putQ hu) he
theorem fG_:C_ 11 #[bK a b c d e f g,I_ ((i:Int)+1)] w (iw_ F G Z S w):=by
 obtain ⟨j,y,l,_⟩:=hI.used hx hf;obtain ⟨s,p,k⟩:=(hI.file j y l.fl).slot;refine (fH_ s h hI.ok l p k hI.pok hS).mono fun e w' o=>?_;obtain ⟨C',er,a,b,c,d,m,f,g,rq,h1,h2,h3,n⟩:=o;exact ⟨C',er,a,b,c,d,m,f,g,rq,hI.putB l h1,h2,h3,n⟩
theorem fV_:C_ 166 #[bK a b c d e f g,I_ ((i:Int)+1)] w (nP F G Z S w):=by
 obtain ⟨j,y,m,_⟩:=hI.used hx hf;obtain ⟨t,k,l,s,z,n,r,o⟩:=hI.goneH m;refine (fW_ n h hI.ok m r o hS).mono fun e w' p=>eK.inv (fun C' u=>?_) p
 rcases u with rfl | ⟨v,zz,hv,rfl⟩
 ·exact hI
 ·exact ⟨hI.gone m r hv _ (by rw [kL];exact hI.nk),hI.dw.of (fun e p=>p.set (i:=i) (x':=gV) rfl (fun A q=>by have:(-1:Int)=A:=q;omega)) (rP.set m.fl rfl rfl)⟩
end
theorem jK {F G:Nat} (hI:fN F G Z C) (hj:j<F):∃y sz,C.files[j]?=some y/\y.size=((sz:Nat):Int)/\sz<=128:=by
 have hl:j<C.files.length:=by rw [hI.nf];exact hj
 obtain ⟨sz,h1,h2⟩:=(hI.file j _ (cY hl)).size;exact ⟨_,sz,cY hl,h1,h2⟩
def InQ (F G Z:Nat) (j p:Nat) (C':Ck) (n err:Int):Prop:=fN F G Z C'/\(err=0->∃(i:Nat) (x:Fr) (y':Fl),n=(i:Int)+1/\C'.files[j]?=some y'/\fG C' i x j y'/\x.page=p)
section
variable (C:Ck) (j:Nat) (a b c d e f g:Value) (S:Nat->Prop) (w:World) (h:x_ w S a b c d e f g C) (hI:fN F G Z C) (hj:j<F) (hS:∀z,w.heap.size<=z->S z)
include h hI hj hS
theorem gp_ (off n:Nat) (h2:off+n<=128):C_ 38 #[bK a b c d e f g,I_ j,I_ off,I_ n] w (nP F G Z S w):=by
 obtain ⟨y,sz,o,i,_⟩:=jK hI hj;refine (bZ_ j off n sz y h hI.tocF o i h2 hS).mono fun e w' r=>?_;obtain ⟨C',er,a,b,c,d,q,f,g,⟨h1,s⟩,u,v,x⟩:=r;refine ⟨C',er,a,b,c,d,q,f,g,⟨h1,?_⟩,u,v,x⟩
 rcases s with ⟨_,rfl⟩ | ⟨_,_,hc⟩
 ·exact hI.dw
 ·obtain ⟨l,t,p⟩:=hI.dw;refine ⟨l,hc.1 l (fun k m=>?_) t,p.of hc.2.1⟩;rw [<-p _ _ o,i];unfold bG at m
  split at m <;> omega
theorem bi_ (sn:Nat) (h2:sn<=128):C_ 35 #[bK a b c d e f g,I_ j,I_ sn] w (nP F G Z S w):=by
 obtain ⟨y,sz,hy,hsz,_⟩:=jK hI hj;exact (bj_ j sn sz y h hI.tocF hy hsz h2 hS).mono fun e w' he=>eK.inv (fun C' hC=>⟨hC.1,hC.2 hI.dw⟩) he
theorem fT_ (pr pa p:Nat) (wr0:Bool) (hpr:pr<8) (hpa:pa<64) (hp8:p<8):C_ 168 #[bK a b c d e f g,I_ pr,I_ pa,I_ j,I_ p,.bool wr0] w (nP F G Z S w):=by
 obtain ⟨y,sz,hy,hsz,_⟩:=jK hI hj;exact (fU_ pr pa j p sz y wr0 h hI.tocF hy hsz hpr hpa hp8 hS).mono fun e w' he=>eK.inv (fun C' hC=>⟨hC.1,hC.2 hI.dw⟩) he
theorem dO_ (off:Nat) (s:ByteArray) (h1:1<=s.size) (h2:off+s.size<=128):C_ 34 #[bK a b c d e f g,I_ j,I_ off,.string s] w (nP F G Z S w):=by
 obtain ⟨y,sz,k,i,_⟩:=jK hI hj;refine (tP C j off sz y s a b c d e f g S w h hI.tocF k i h1 h2 hS).mono fun e w' n=>?_;obtain ⟨C',er,a,b,c,d,l,f,g,h1,h2,h3,m⟩:=n;exact ⟨C',er,a,b,c,d,l,f,g,⟨h1.1,h1.dw k hI.dw⟩,h2,h3,m⟩
theorem zS (p t k:Nat) (u:Bool) (hp:p<8) (ht:t<G) (hk:k<Z):C_ 72 #[bK a b c d e f g,I_ j,I_ p,I_ t,I_ k,.bool u] w (gR_ (InQ F G Z j p) S w):=by
 obtain ⟨y,sz,m,v,_⟩:=jK hI hj;have hl:t<C.lists.length:=by rw [hI.nl];exact ht
 have o:t<C.groups.length:=by rw [hI.ng];exact ht
 have hc:t<C.clocks.length:=by rw [hI.nk];exact ht
 refine (tZ C j p t k u y _ _ _ a b c d e f g S w h hI.tocF m hp (cY hl) (cY o) (cY hc) (by rw [hI.nz];exact hk) hS).mono fun e w' s=>?_;obtain ⟨C',n,er,a,b,c,d,q,f,g,h1,h2,h3,r⟩:=s;have l:=h1.dw m hI.dw;obtain ⟨z,A⟩:=h1.inv hI.tocF m hp ht (cY hl) (cY o);refine ⟨C',n,er,a,b,c,d,q,f,g,⟨⟨z,l⟩,fun h0=>?_⟩,h2,h3,r⟩;obtain ⟨i,x,y',B,D,E,H,_⟩:=A h0;exact ⟨i,x,y',B,D,E,H⟩
end
end
section
variable {τ:Type} {S:Nat->Prop}
abbrev GH (τ:Type):=Option Nat × Option τ
def KG (S:Nat->Prop) (g:GH τ) (w:World) (g':GH τ) (w':World):Prop:=
 w.heap.size<=w'.heap.size/\(∀z,S z->g'.1≠some z->z<w.heap.size->w'.heap[z]?=w.heap[z]?)/\(g'.1=g.1\/g.1=none/\∀z,g'.1=some z->w.heap.size<=z)/\(g'.2=g.2\/g.2=none)
theorem KG.refl (g:GH τ) (w:World):KG S g w g w:=⟨bE _,fun _ _ _ _=>rfl,.inl rfl,.inl rfl⟩
theorem KG.of_ks {g:GH τ} (h:r_ S w w'):KG S g w g w':=⟨h.1,fun z hz _ hl=>h.2 z hz hl,.inl rfl,.inl rfl⟩
theorem KG.of_below {g:GH τ} (h:s_ w w'):KG S g w g w':= .of_ks (.of_below h)
theorem KG.ans {r:Option Nat} {t:τ} (h:s_ w w'):KG S (r,none) w (r,some t) w':=⟨h.size,fun z hz _ hl=>h.block z hl,.inl rfl,.inr rfl⟩
theorem KG.alloc {r:Option τ} (o:Obj):KG S (none,r) w (some w.heap.size,r) (w.alloc o):=⟨A_,fun z _ _ hl=>(aP (w) w |>.alloc (bE _) o).block z hl,.inr ⟨rfl,fun z hz=>by injection hz with hz;omega⟩,.inl rfl⟩
theorem KG.store {r:Option τ} (cs:Array Value):KG S (some Z,r) w (some Z,r) (w.setRow Z cs):=⟨by simp [World.setRow],fun z _ hn _=>setRow_other _ _ _ _ (fun e=>hn (by rw [e])),.inl rfl,.inl rfl⟩
def Sg (S:Nat->Prop) (g:GH τ) (z:Nat):Prop:=S z/\g.1≠some z
theorem KG.s {g g':GH τ} (h:KG S g w g' w'):r_ (Sg S g') w w':=⟨h.1,fun z hz hl=>h.2.1 z hz.1 hz.2 hl⟩
theorem KG.up {g g':GH τ} (h:KG S g w g' w'):∀z,z<w.heap.size->Sg S g z->Sg S g' z:=fun z hl hz=>⟨hz.1,fun e=>by
 rcases h.2.2.1 with h1 | ⟨h1,h2⟩
 ·exact hz.2 (h1 ▸ e)
 ·have:=h2 z e;omega⟩
structure SG (S:Nat->Prop) (τ:Type) where
 p:GH τ->Value->World->Prop
 st:∀v g w g' w',KG S g w g' w'->p g v w->p g' v w'
def SG.any:SG S τ:=⟨fun _ _ _=>True,fun _ _ _ _ _ _ h=>h⟩
def SG.eq (x:Value):SG S τ:=⟨fun _ v _=>v=x,fun _ _ _ _ _ _ h=>h⟩
def SG.int:SG S τ:=⟨fun _ v _=>∃k:Int,v = I_ k,fun _ _ _ _ _ _ h=>h⟩
def SG.box:SG S τ:=⟨fun g v _=>∃z,v = P_ z/\g.1=some z,fun _ g _ g' _ h ⟨z,h1,h2⟩=>⟨z,h1,by
 rcases h.2.2.1 with h3 | ⟨h3,_⟩
 ·rw [h3];exact h2
 ·rw [h3] at h2;cases h2⟩⟩
structure RQ (τ:Type) where
 q:World->(Nat->Prop)->τ->Value->Prop
 st:∀w w' S t v,r_ S w w'->q w S t v->q w' S t v
 wk:∀w S S' t v,(∀b,b<w.heap.size->S b->S' b)->q w S t v->q w S' t v
def SG.res (R:RQ τ):SG S τ where
 p g v w:=∃t,g.2=some t/\R.q w (Sg S g) t v
 st v g w g' w' h:=fun ⟨t,h1,h2⟩=>by
  refine ⟨t,?_,R.st _ _ _ _ _ h.s (R.wk _ _ _ _ _ h.up h2)⟩
  rcases h.2.2.2 with h3 | h3
  ·rw [h3];exact h1
  ·rw [h3] at h1;cases h1
def RQ.flat (f:τ->Value):RQ τ:=⟨fun _ _ t v=>v=f t,fun _ _ _ _ _ _ h=>h,fun _ _ _ _ _ _ h=>h⟩
def GG (ls:List (SG S τ)) (g:GH τ) (j:Nat) (v:Value) (w:World):Prop:=(ls.getD j SG.any).p g v w
theorem GG.keep {ls:List (SG S τ)} {g g':GH τ} (h:KG S g w g' w') (j:Nat) (v:Value) (hg:GG ls g j v w):GG ls g' j v w':=(ls.getD j SG.any).st v g w g' w' h hg
structure CG (bx cl s:Nat) (B:World->Prop) (N:Nat) (o:Obj) (I:τ->Prop) (D:τ->World->Nat->Prop) (g:GH τ) (d:Nat->Bool) (x:World):Prop where
 b:B x
 nb:d bx=false->g.1=none
 nc:d cl=false->g.2=none
 bo:∀z,g.1=some z->N<=z/\z<x.heap.size/\(d s=false->x.heap[z]?=some o)
 an:∀t,g.2=some t->I t
 st:d s=true->∃z t,g=(some z,some t)/\D t x z
theorem nds {a p:Bool} (hp:a=true->p=false) (h:p=true):a=false:=by
 cases ha:a with
 | false=>rfl
 | true=>rw [hp ha] at h;cases h
theorem N_ {d:Nat->Bool} {i j:Nat} (h:(j == i)=false):aI d i j=d j:=by unfold aI;rw [h,Bool.or_false]
theorem cI (d:Nat->Bool) (i:Nat):aI d i i=true:=by simp [aI]
section
variable {bx cl s i:Nat} {B:World->Prop} {N:Nat} {o:Obj} {I:τ->Prop} {D:τ->World->Nat->Prop} {g:GH τ} {d:Nat->Bool} {x y:World}
theorem CG.pure (h:CG bx cl s B N o I D g d x) (i:Nat) (h1:(bx == i)=false) (h2:(cl == i)=false) (h3:(s == i)=false):CG bx cl s B N o I D g (aI d i) x:=
 ⟨h.b,fun e=>h.nb (by rwa [N_ h1] at e),fun e=>h.nc (by rwa [N_ h2] at e),fun z hz=>by rw [N_ h3];exact h.bo z hz,h.an,fun e=>h.st (by rwa [N_ h3] at e)⟩
theorem CG.grown {r:Option Nat} (h:CG bx cl s B N o I D g d x) (i:Nat) (h1:(bx == i)=false) (h2:(cl == i)=false) (h3:(s == i)=false) (hd:d s=false) (hg:x.grownBy y r) (hr:∀k,r=some k->k<N) (hB:B y):CG bx cl s B N o I D g (aI d i) y:=
 ⟨hB,fun e=>h.nb (by rwa [N_ h1] at e),fun e=>h.nc (by rwa [N_ h2] at e),fun z c=>by
  obtain ⟨f,a,j⟩:=h.bo z c;exact ⟨f,gX a hg.size,fun _=>(hg.block z a (fun b=>by have:=hr z b.symm;omega)).trans (j hd)⟩,h.an,fun e=>by rw [N_ h3,hd] at e;cases e⟩
theorem CG.step (h:CG bx cl s B N o I D g d x) (i:Nat) (h1:(bx == i)=false) (h2:(cl == i)=false) (h3:(s == i)=false) (hd:d s=false) (hb:s_ x y) (hB:B y):CG bx cl s B N o I D g (aI d i) y:=
 h.grown i h1 h2 h3 hd (X_ hb none) (fun k hk=>by cases hk) hB
theorem CG.boxed {r:Option τ} (h:CG bx cl s B N o I D (none,r) d x) (h2:(cl == bx)=false) (h3:(s == bx)=false) (hd:d s=false) (hN:N<=x.heap.size) (o':Obj) (ho:(x.alloc o').heap[x.heap.size]?=some o) (hB:B (x.alloc o')):CG bx cl s B N o I D (some x.heap.size,r) (aI d bx) (x.alloc o'):=
 ⟨hB,fun e=>(by rw [cI] at e;cases e),fun e=>h.nc (by rwa [N_ h2] at e),fun z hz=>by
  injection hz with hz
  subst hz;exact ⟨hN,A_,fun _=>ho⟩,h.an,fun e=>by rw [N_ h3,hd] at e;cases e⟩
theorem CG.called {r:Option Nat} {t:τ} (h:CG bx cl s B N o I D (r,none) d x) (h1:(bx == cl)=false) (h3:(s == cl)=false) (hd:d s=false) (hb:s_ x y) (hB:B y) (hI:I t):CG bx cl s B N o I D (r,some t) (aI d cl) y:=
 ⟨hB,fun e=>h.nb (by rwa [N_ h1] at e),fun e=>(by rw [cI] at e;cases e),fun z c=>by
  obtain ⟨f,b,g⟩:=h.bo z c;exact ⟨f,gX b hb.size,fun _=>(hb.block z b).trans (g hd)⟩,fun i a=>by injection a with a;subst a;exact hI,fun e=>by rw [N_ h3,hd] at e;cases e⟩
theorem CG.stored {z:Nat} {t:τ} (h:CG bx cl s B N o I D (some z,some t) d x) (hB:B (x.setRow z cs)) (hD:D t (x.setRow z cs) z):CG bx cl s B N o I D (some z,some t) (aI d s) (x.setRow z cs):=
 ⟨hB,fun e=>absurd (h.nb (by unfold aI at e;simp at e;exact e.1)) A_,fun e=>absurd (h.nc (by unfold aI at e;simp at e;exact e.1)) A_,fun f a=>by
  obtain ⟨b,c,_⟩:=h.bo f a;exact ⟨b,by simpa [World.setRow] using c,fun e=>(by rw [cI] at e;cases e)⟩,h.an,fun _=>⟨z,t,rfl,hD⟩⟩
end
theorem oA {A:Act} {l:List Oper} (m s:Nat) (pl:Nat->Bool) (C:GH τ->(Nat->Bool)->World->Prop) (ls:List (SG S τ))
  (hm:P.follows .mixedOrders=true) (hB:mI l.toArray m s pl=true) (hs:A.tmps.size=m) (hC:C (none,none) (fun _=>false) {W with drawn:=W.drawn+1}) (hs0:(List.range l.toArray.size).all (fun i=>(l.toArray[i]?).all (fun o=>o.dst.isSome)||i == s)=true) (hs1:∀g w,GG ls g s undef w)
  (h:dH P l.toArray C (GG ls) s pl (fun a'=>∀g d w',(∀j,j<l.toArray.size->d j=true)->C g d w'->(∀j,j<l.toArray.size->GG ls g j (fB l.toArray a' j) w')->wpList P l.toArray Q [] a' w') 0 l A):(Code.region id l.toArray true).wp P Q A W:=
 bX m s pl C (GG ls) (none,none) hm hB hs hC (fun i o a b g v w f=>by
  have c:i<l.toArray.size:=(Array.getElem?_eq_some_iff.1 a).1;have:=List.all_eq_true.1 hs0 i (List.mem_range.2 c);rw [a] at this;simp [b] at this;subst this;exact hs1 g w) h
end
section
def iy_ (l:List Int) (S:Nat->Prop) (w:World) (e:Ending) (w':World):Prop:=∃v,e = .returned v/\LO Y_ 3 w' (w) S v l/\s_ w w'
theorem gg_ (off n:Nat) (S:Nat->Prop) (w:World) (h1:1<=n) (h2:off+n<=128):C_ 88 #[I_ off,I_ n] w (iy_ (aJ off n) S w):=by
 have r:=fun w'=>kA (off:Int) (n:Int) w' O_ O_ O_ O_;have H:¬((n:Int)<1):=O_
 have y:((off:Int):Int).tdiv 16=((off / 16:Nat):Int):=by rw [tv_ O_];rfl
 have z:(off:Int) / 16=((off / 16:Nat):Int):=by rfl
 obtain ⟨a,q,C,D⟩:∃a:Nat,off / 16=a/\a*16<=off/\off<a*16+16:=⟨off / 16,rfl,O_,O_⟩;have B:=H_ (show aJ off n=yJ a ((off+n+15) / 16 - a) by rw [<-q];rfl);rw [q] at y z;clear q;go_enter func88,ntmps88
 go_upto_region 5 with (go_at_call 93;(with_reducible refine CM (r _) ?_);rintro e w1 ⟨rfl,rfl⟩)
 clear y z
 go_loopw [5,6] (fun u i wx=>∃k:Nat,i = I_ ((a+k:Nat):Nat)/\k<=9/\(k=0\/(a+k)*16<off+n+16)/\LO Y_ 3 wx (w) S u (yJ a k)/\s_ w wx) (fun _ i _=>100 - (intOf i).toNat)
 case atStart=>exact ⟨0,rfl,O_,.inl rfl,LO.nil _ _ _ _ _,aP _ _⟩
 case round=>
  obtain ⟨k,rfl,G,v,x,o⟩:=hrel;have p:=H_ x;have m:=H_ o;clear x o
  by_cases l:(a+k)*16<off+n
  ·have g:=H_ (af_ a k);obtain ⟨j,f⟩:=bL (a+k);rw [<-f] at g l ⊢;have c:=H_ f;have E:j<=8:=O_
   have F:((j:Int)*16)<(off:Int)+(n:Int):=O_
   clear f
   go_wp2_with (at_builtin;(refine M_ cV rfl (.tmp 25) (.tmp 27) rfl S rfl (p.alloc _) (by have:=m.size;simp;omega) (by rw [sT];omega) #[I_ (j:Int)] rfl (l_ _ _ _ rfl) (j:Int) rfl ?_);intro v4 w4 d s t)
   go_roundw
   case rel=>exact ⟨k+1,by have:=c.out;go_num,by have:=c.out;omega,by have:=c.out;omega,by rw [g.out];exact d,(a_ m.out _).grown s (a_ m.out _).size (fun b o=>(p.own o).1)⟩
   case measure=>exact bV
  ·have A:=H_ (show aJ off n=yJ a k by rw [B.out];congr 1;omega);obtain ⟨j,f⟩:=bL (a+k);rw [<-f] at l ⊢;have F:¬((j:Int)*16)<(off:Int)+(n:Int):=O_
   have E:j<=20:=O_
   clear f;go_wp2;go_ret;exact ⟨_,rfl,by rw [A.out];exact p,m.out⟩
section
variable {F G Z:Nat} {S:Nat->Prop} {W w Wk wx wy:World} {bt X R N:Nat} {K:Option Nat} {a b c d e f g:Value} {C:Ck}
structure PB (F G Z:Nat) (S:Nat->Prop) (W w Wk:World) (bt X R N:Nat) (K:Option Nat) (a b c d e f g:Value) (C:Ck) (wx:World):Prop where
 pc:PC F G Z S W w Wk bt X R K a b c d e f g C wx
 old:x_ wx (fun z=>Sx S X R K z/\z<N) a b c d e f g C
 xn:X<N
 rn:R<N
 kn:∀z,K=some z->z<N
 wn:w.heap.size<=N
 nn:N<=wx.heap.size
theorem PC.pb (h:PC F G Z S W w Wk bt X R K a b c d e f g C wx):PB F G Z S W w Wk bt X R (wx) K a b c d e f g C wx:=
 ⟨h,h.at_.weak (fun z hz h=>⟨h,hz⟩),n_ h.box,n_ h.res,fun z hz=>(h.kk z hz).1,h.gb.size,bE _⟩
theorem PB.step (h:PB F G Z S W w Wk bt X R N K a b c d e f g C wx) (hb:s_ wx wy):PB F G Z S W w Wk bt X R N K a b c d e f g C wy:=
 ⟨h.pc.step hb,h.old.step hb,h.xn,h.rn,h.kn,h.wn,eF h.nn hb.size⟩
theorem PB.aside (h:PB F G Z S W w Wk bt X R N K a b c d e f g C wx) {z:Nat} (hz:N<=z) (cs:Array Value):PB F G Z S W w Wk bt X R N K a b c d e f g C (wx.setRow z cs):=by
 have k:=h.old.kept (r_.of_setRow wx z cs (fun q=>by omega));have h1:=h.xn;have h2:=h.rn;have h3:=h.wn;have i:=h.pc;refine ⟨⟨i.inv,k.weak (fun z _ hz=>hz.1),(setRow_other _ _ _ _ O_).trans i.box,(setRow_other _ _ _ _ O_).trans i.res,i.tp.gb (eU _ _ _) (by have:=i.bw;omega),xK i.gb O_,fun l j=>?_,i.xw,i.rw_,i.bw,i.xr,i.nS,i.fS⟩,k,h1,h2,h.kn,h3,by simpa [World.setRow] using h.nn⟩;obtain ⟨m,n,o,p⟩:=i.kk l j;have:=h.kn l j;exact ⟨by simpa [World.setRow] using m,n,o,(setRow_other _ _ _ _ O_).trans p⟩
end
theorem b3_ {W1 wx:World} {u:Value} {L:List Int} (ho:LO Y_ 3 wx (W1) (fun z=>W1.heap.size<=z) u L) (hl:1<=L.length) (ha:∀z ∈ L,0<=z/\z<8) (hn:L.length<=20) (hb:s_ W1 wx) :
  ∃(gl cl:Nat) (L:List Int),u = S_ (some ⟨gl,0,none⟩) L.length cl/\W1<=gl/\gl<wx/\(∀(k:Nat) (z:Int),L[k]?=some z->wx.cell? ⟨gl,k,none⟩=some (I_ z))/\(∀z ∈ L,0<=z/\z<8)/\L.length<=20/\s_ W1 wx:=by
 obtain ⟨gl,cl,rfl,_,_,h1,b⟩:=ho.lw hl;refine ⟨gl,cl,L,rfl,h1,b.lt,fun k z c=>?_,ha,hn,hb⟩;obtain ⟨r,a,hc⟩:=b.at_ c;have a:r=[I_ z]:=a;subst a;have:=hc 0 _ rfl;rw [Nat.mul_one,Nat.add_zero] at this;exact this
def RQ.ck3:RQ (Ck × Int × Int):=⟨fun w S t v=>∃a b c d e f g,v = .tuple #[bK a b c d e f g,I_ t.2.1,I_ t.2.2]/\x_ w S a b c d e f g t.1,fun _ _ _ _ _ hk ⟨a,b,c,d,e,f,g,h1,h2⟩=>⟨a,b,c,d,e,f,g,h1,h2.kept hk⟩,fun _ _ _ _ _ hS ⟨a,b,c,d,e,f,g,h1,h2⟩=>⟨a,b,c,d,e,f,g,h1,h2.weak hS⟩⟩
def RQ.ck {τ:Type} (f0:τ->Ck):RQ τ:=⟨fun w S t v=>∃a b c d e f g,v=bK a b c d e f g/\x_ w S a b c d e f g (f0 t),fun _ _ _ _ _ hk ⟨a,b,c,d,e,f,g,h1,h2⟩=>⟨a,b,c,d,e,f,g,h1,h2.kept hk⟩,fun _ _ _ _ _ hS ⟨a,b,c,d,e,f,g,h1,h2⟩=>⟨a,b,c,d,e,f,g,h1,h2.weak hS⟩⟩
theorem bs_ {a:Int} (ha:0<=a/\a<=3):0<=bits .andNot .i64 3 a/\bits .andNot .i64 3 a<=3:=by
 obtain rfl | rfl | rfl | rfl:a=0\/a=1\/a=2\/a=3:=O_
 all_goals decide
theorem wT.used {x:Fr} (h:wT C i j x y C') (hu:fG C i x j y):∃x2,C'.frames[i]?=some x2/\x2.file≠-1:=by
 rcases h with rfl | ⟨x',_,_,h2,_,_,rfl⟩
 ·exact ⟨x,hu.fr,by rw [hu.ix];omega⟩
 ·exact ⟨x',V_ hu.fr,by rw [h2,hu.ix];omega⟩
end
section
structure Pl where
 dev:Int
 slot:Int
def Pl.row (x:Pl):List Value:=[I_ x.dev,I_ x.slot]
def PlR:RR Pl 2:=RR.flat Pl.row (fun a=>⟨rfl,fun u hu=>by
 simp only[Pl.row,qL,List.not_mem_nil,or_false] at hu
 rcases hu with rfl | rfl <;> rfl⟩)
structure yN (L:List Pl):Prop where
 each:∀x ∈ L,0<=x.dev/\x.dev<4/\0<=x.slot/\x.slot<7
 pos:1<=L.length
 few:L.length<=8
 dup:∀(i k:Nat) (x y:Pl),k<i->L[i]?=some x->L[k]?=some y->y.dev≠x.dev\/y.slot≠x.slot
theorem PlA.cells {A:Option Addr} {cap:Nat} {L:List Pl} (h:LA PlR w S (S_ A n cap) L) {x:Pl} (hi:L[i]?=some x):∃b o,A=some ⟨b,o,none⟩/\b<w.heap.size/\w.cell? ⟨b,o+i*2,none⟩=some (I_ x.dev)/\w.cell? ⟨b,o+i*2+1,none⟩=some (I_ x.slot):=by
 obtain ⟨b,o,cap',r,hv,c1,c2,hb,hS,hp,hc⟩:=h.at_ hi;injection hv with e1 _ _
 have hp:r=x.row:=hp;subst hp;exact ⟨b,o,e1,hb,hc 0 _ rfl,hc 1 _ rfl⟩
theorem eM_ {L:List Pl} (h:LA PlR w S v L) (ok:yN L):C_ 81 #[v] w (cG true w):=by
 obtain ⟨A,cap,rfl,N,r⟩:=h.form;obtain ⟨j,l1,l2,l⟩:=ok;obtain ⟨H,F,E⟩:=eI h j l;have n1:(1:Int)<=(L.length:Int):=O_
 have n2:(L.length:Int)<=8:=O_
 have z:=fun w'=>b7_ w';unfold maxLen at r;clear h j l;go_enter func81,ntmps81;go_wp2
 go_loopw [3,4] (fun i _ wx=>∃k:Nat,i = I_ k/\k<=L.length/\s_ w wx) (fun i _ _=>L.length - (intOf i).toNat)
 case atStart=>exact ⟨0,rfl,O_,aP _ _⟩
 case round=>
  obtain ⟨k,rfl,Z,g⟩:=hrel;have a:=H_ g;clear g
  by_cases t:k<L.length
  ·obtain ⟨x,m⟩:∃x,L[k]?=some x:=⟨_,cY t⟩;obtain ⟨b,o,rfl,M,c0,c1⟩:=PlA.cells (H.step a.out) m;obtain ⟨Q,R,U,V⟩:=F.out x (gL m);have f:=H_ m;have P:(k:Int)<(L.length:Int):=O_
   have G:decide (x.dev<0)=false:=dF O_;have I:decide (4<=x.dev)=false:=dF O_;have J:decide (x.slot<0)=false:=dF O_;have K:decide (7<=x.slot)=false:=dF O_;clear m
   go_upto_region 4 with fail
   go_quiet ((go_at_call 146;exact Calls.quiet_of_eq (z _)));have d:=H_ (below_drewN a.out nq);clear a G I J K Q R U V c0 c1;go_wp2
   go_loopw [4] (fun i wx=>∃q:Nat,i = I_ q/\q<=k/\s_ w wx) (fun i _=>k - (intOf i).toNat)
   case atStart=>exact ⟨0,rfl,O_,d.out⟩
   case round=>
    obtain ⟨q,rfl,hq,g⟩:=hrel;have a:=H_ g;clear g d
    by_cases u:q<k
    ·obtain ⟨y,B⟩:∃y,L[q]?=some y:=⟨_,cY O_⟩;obtain ⟨W,o1,n,C,c0,c1⟩:=PlA.cells (H.step a.out) f.out;obtain ⟨X,o2,p,D,c2,Y⟩:=PlA.cells (H.step a.out) B;injection n with n
     injection n with e11 e12
     injection p with p
     injection p with e21 e22
     subst e11 e12 e21 e22;have c:=E k q x y u f B;have qk:(q:Int)<(k:Int):=O_
     have ql:(q:Int)<(L.length:Int):=O_
     clear B
     by_cases s:y.dev=x.dev
     ·have O:¬y.slot=x.slot:=by
       rcases c with h | h
       ·exact absurd s h
       ·exact h
      clear c
      go_upto_region 9 with fail
      go_quiet (fail);go_wp2;go_roundw
      case rel=>exact ⟨q+1,by go_num,O_,below_drewN a.out nq⟩
      case measure=>exact bV
     ·clear c
      go_upto_region 9 with fail
      go_quiet (fail);go_wp2;go_roundw
      case rel=>exact ⟨q+1,by go_num,O_,below_drewN a.out nq⟩
      case measure=>exact bV
    ·obtain rfl:k=q:=O_
     go_wp2;go_roundw
     case rel=>exact ⟨k+1,by go_num,O_,a.out⟩
     case measure=>exact bV
  ·obtain rfl:k=L.length:=O_
   go_wp2;go_ret
   exact ⟨rfl,a.out⟩
end
section
abbrev GP:=Option (Value × Bool)
def KPh (g:GP) (w:World) (g':GP) (w':World):Prop:=(g=none/\g'=none/\s_ w w')\/(g'≠none/\∀v p,g=some (v,p)->∃p',g'=some (v,p'))
structure PF where
 p:GP->Value->World->Prop
 st:∀v g w g' w',KPh g w g' w'->p g v w->p g' v w'
def PF.any:PF:=⟨fun _ _ _=>True,fun _ _ _ _ _ _ h=>h⟩
def PF.eq (x:Value):PF:=⟨fun _ v _=>v=x,fun _ _ _ _ _ _ h=>h⟩
def PF.p0 (q:SP):PF:=⟨fun g v w=>g=none->q.p v w,fun v g w g' w' h hp hg=>by
 rcases h with ⟨h1,_,h3⟩ | ⟨h1,_⟩
 ·exact q.st v w w' h3 (hp h1)
 ·exact absurd hg h1⟩
def PF.res:PF:=⟨fun g v _=>∃p,g=some (v,p),fun v g w g' w' h ⟨p,hp⟩=>by
 rcases h with ⟨h1,_,_⟩ | ⟨_,h2⟩
 ·rw [h1] at hp;cases hp
 ·exact h2 v p hp⟩
def GF (ls:List PF) (g:GP) (j:Nat) (v:Value) (w:World):Prop:=(ls.getD j PF.any).p g v w
theorem GF.keep {ls:List PF} {g g':GP} (h:KPh g w g' w') (j:Nat) (v:Value) (hg:GF ls g j v w):GF ls g' j v w':=(ls.getD j PF.any).st v g w g' w' h hg
structure yG (s t:Nat) (P0:World->Prop) (P1 P2:Value->World->Prop) (g:GP) (d:Nat->Bool) (x:World):Prop where
 n0:d s=false->g=none
 n1:d t=false->∀v,g≠some (v,true)
 c0:g=none->P0 x
 c1:∀v,g=some (v,false)->P1 v x
 c2:∀v,g=some (v,true)->P2 v x
 fin:d t=true->∃v,g=some (v,true)
section
variable {s t:Nat} {P0:World->Prop} {P1 P2:Value->World->Prop} {g:GP} {d:Nat->Bool} {x y:World}
theorem yG.start (h:P0 x):yG s t P0 P1 P2 none (fun _=>false) x:=⟨fun _=>rfl,fun _ v h=>(by cases h),fun _=>h,fun v h=>(by cases h),fun v h=>(by cases h),fun h=>(by cases h)⟩
theorem yG.pure (h:yG s t P0 P1 P2 g d x) (i:Nat) (h1:(s == i)=false) (h2:(t == i)=false):yG s t P0 P1 P2 g (aI d i) x:=
 ⟨fun e=>h.n0 (by rwa [N_ h1] at e),fun e=>h.n1 (by rwa [N_ h2] at e),h.c0,h.c1,h.c2,fun e=>h.fin (by rwa [N_ h2] at e)⟩
theorem yG.step (h:yG s t P0 P1 P2 none d x) (i:Nat) (h1:(s == i)=false) (h2:(t == i)=false) (hP:P0 y):yG s t P0 P1 P2 none (aI d i) y:=
 ⟨fun e=>rfl,fun e v h=>(by cases h),fun _=>hP,fun v h=>(by cases h),fun v h=>(by cases h),fun e=>(by
  obtain ⟨v,hv⟩:=h.fin (by rwa [N_ h2] at e)
  cases hv)⟩
theorem yG.app (h:yG s t P0 P1 P2 none d x) (h2:(t == s)=false) (hP:P1 v y):yG s t P0 P1 P2 (some (v,false)) (aI d s) y:=
 ⟨fun e=>(by rw [cI] at e;cases e),fun e v h=>(by injection h with h;injection h with _ h;cases h),fun e=>(by cases e),fun a e=>(by injection e with e;injection e with e _;subst e;exact hP),fun v h=>(by injection h with h;injection h with _ h;cases h),fun e=>(by
  obtain ⟨v,hv⟩:=h.fin (by rwa [N_ h2] at e)
  cases hv)⟩
theorem yG.sto (h:yG s t P0 P1 P2 (some (v,false)) d x) (h2:(s == t)=false) (hP:P2 v y):yG s t P0 P1 P2 (some (v,true)) (aI d t) y:=
 ⟨fun e=>absurd (h.n0 (by rwa [N_ h2] at e)) A_,fun e=>(by rw [cI] at e;cases e),fun e=>(by cases e),fun a e=>(by injection e with e;injection e with _ e;cases e),fun a e=>(by injection e with e;injection e with e _;subst e;exact hP),fun _=>⟨v,rfl⟩⟩
end
theorem yD {A:Act} {l:List Oper} (m s t:Nat) (pl:Nat->Bool) (P0:World->Prop) (P1 P2:Value->World->Prop) (ls:List PF)
  (hm:P.follows .mixedOrders=true) (hB:mI l.toArray m s pl=true) (hs:A.tmps.size=m) (hC:P0 {W with drawn:=W.drawn+1}) (hs0:(List.range l.toArray.size).all (fun i=>(l.toArray[i]?).all (fun o=>o.dst.isSome)||i == t)=true) (hs1:∀g w,GF ls g t undef w)
  (h:dH P l.toArray (yG s t P0 P1 P2) (GF ls) s pl (fun a'=>∀g d w',(∀j,j<l.toArray.size->d j=true)->yG s t P0 P1 P2 g d w'->(∀j,j<l.toArray.size->GF ls g j (fB l.toArray a' j) w')->wpList P l.toArray Q [] a' w') 0 l A):(Code.region id l.toArray true).wp P Q A W:=
 bX m s pl (yG s t P0 P1 P2) (GF ls) none hm hB hs (yG.start hC) (fun i o a b g v w f=>by
  have c:i<l.toArray.size:=(Array.getElem?_eq_some_iff.1 a).1;have:=List.all_eq_true.1 hs0 i (List.mem_range.2 c);rw [a] at this;simp [b] at this;subst this;exact hs1 g w) h
end
section
def jP (p:Pl):Fl:=⟨p.dev,p.slot,eH,0,0,0,0,0,0,0,0,0⟩
def xL:Lr:=⟨[],[],[]⟩
def pQ (Ls:List Pl) (sz:List Int) (gs:List Gr):Ck:=⟨Ls.map jP,List.replicate (fI (bN 1 sz)) gV,bN 1 sz,gs,List.replicate gs.length xL,List.replicate gs.length 0,[]⟩
theorem cH_ {p:Pl}:jI.p w S (jP p) ((jP p).rowT 0 none 0):=
 ⟨0,none,0,fun i=> .inl rfl,aM.zero,bE _,.nil _,rfl⟩
theorem iL:∀(l:List Int) (a:Int),(∀n ∈ l,1<=n)->(fI (bN a l):Int)=cT l
 | [],_,_=>rfl
 | x :: l,a,h=>by
  have ih:=iL l (a+x) (fun n c=>h n (List.mem_cons_of_mem _ c));have d:=h x (List.mem_cons_self ..);have e:cT (x :: l)=x+cT l:=by unfold cT;rw [List.foldl_cons,mW];omega
  have b:fI (bN a (x :: l))=x.toNat+fI (bN (a+x) l):=by
   show fI (cJ_ a x :: bN (a+x) l)=_
   unfold fI;rw [List.map_cons,List.sum_cons]
   congr 1
   exact cb_ a x.toNat
  rw [e,b];omega
theorem cz_ (p:Int):J_ eH p=0:=by unfold J_;split <;> rfl
theorem bP_:∀(l:List Int) (a:Int) (z:Zn) (f:Int),(∀n ∈ l,1<=n)->z ∈ bN a l->f ∈ z.free->a<=f/\f<a+cT l
 | [],_,z,f,_,h,_=>by cases h
 | x :: l,a,z,f,hn,h,hf=>by
  have hx:=hn x (List.mem_cons_self ..);have e:cT (x :: l)=x+cT l:=by unfold cT;rw [List.foldl_cons,mW];omega
  have c:0<=cT l:=by rw [<-iL l 0 (fun n b=>hn n (List.mem_cons_of_mem _ b))];omega
  rcases List.mem_cons.1 h with rfl | h
  ·have:=cc_ (show f ∈ wN a x.toNat from hf);omega
  ·have:=bP_ l (a+x) z f (fun n b=>hn n (List.mem_cons_of_mem _ b)) h hf;omega
theorem bK_ {F G Z:Nat} {Ls:List Pl} (hF:Ls.length=F) (hG:gs.length=G) (hZ:sz.length=Z) (hf:1<=F/\F<=3/\1<=G/\G<=2/\1<=Z/\Z<=2) (hP:yN Ls) (hz:tE sz) (hg:gD gs):cF F G Z (pQ Ls sz gs) where
 few:=hf
 nf:=by simp [pQ,hF]
 nr:=by
  have:=iL sz 1 hz.each;have h1:=hz.all;have h2:1<=cT sz:=by
   have a:sz[0]?=some sz[0]:=cY hz.pos;have:=hz.each _ (gL a);have:=(hz.part 0 O_).2.2 _ a;have:=(hz.part 0 O_).1;omega
  simp only[pQ,rL_];omega
 ng:=hG
 nl:=by simp [pQ,hG]
 nk:=by simp [pQ,hG]
 nz:=by simp [pQ,kH,hZ]
 ten:=fun i x a=>by
  have a:(List.replicate _ gV)[i]?=some x:=a;obtain rfl:=(List.mem_replicate.1 (gL a)).2
  show (0:Int)<G
  omega
 file:=fun j y b=>by
  have b:(Ls.map jP)[j]?=some y:=b;rw [gP_] at b;obtain ⟨p,g,rfl⟩:=Option.map_eq_some_iff.1 b;obtain ⟨_,_,h3,m⟩:=hP.each p (gL g);exact ⟨⟨0,rfl,O_⟩,⟨p.slot.toNat,by show p.slot=_;omega,O_⟩,⟨by show (0:Int)<=0;omega,by show (0:Int)<=1000000;omega,Iff.rfl⟩,⟨⟨Int.le_refl 0,by show (0:Int)<=255;omega⟩,rfl,rfl,rfl,rfl⟩⟩
 frame:=fun i x a=>by
  have a:(List.replicate _ gV)[i]?=some x:=a;obtain rfl:=(List.mem_replicate.1 (gL a)).2;exact .inl rfl
 find:=fun j y p b h0=>by
  have b:(Ls.map jP)[j]?=some y:=b;rw [gP_] at b;obtain ⟨q,n,rfl⟩:=Option.map_eq_some_iff.1 b;have h0:0<J_ eH p:=h0;rw [cz_] at h0;omega
 free:=fun k z d f c=>by
  have d:(bN 1 sz)[k]?=some z:=d;have:=bP_ sz 1 z f hz.each (gL d) c;have h2:=iL sz 1 hz.each;refine ⟨(f - 1).toNat,gV,O_,?_,rfl⟩
  show (List.replicate _ gV)[_]?=_
  rw [List.getElem?_replicate,if_pos O_]
 zok:=hz.zones
 zsum:=by
  show sR (bN 1 sz)=((List.replicate _ gV).length:Int)+1
  rw [wE,rL_,iL sz 1 hz.each];omega
 gok:=hg
 lok:=fun t l hl=>by
  have hl:(List.replicate _ xL)[t]?=some l:=hl;obtain rfl:=(List.mem_replicate.1 (gL hl)).2;exact ⟨fun x a=>(by cases a),List.nodup_nil,fun x a=>(by cases a),List.Pairwise.nil⟩
 pok:=⟨fun p g=>(by cases g),List.Pairwise.nil⟩
theorem vZ (a:Value) (k n:Nat) (hk:0<k):(madeCells (Array.replicate k a) (n*k)).toList=(List.replicate n (List.replicate k a)).flatten:=by
 rw [List.flatten_replicate_replicate];apply List.ext_getElem?;intro i
 by_cases h:i<n*k
 ·have b:i % k<k:=Nat.mod_lt _ hk;simp [madeCells,h,List.getElem?_replicate,b]
 ·simp [madeCells,h,List.getElem?_replicate]
end
section
def iC_ (P:Ck->Prop) (S:Nat->Prop) (w:World) (en:Ending) (w':World):Prop:=∃C a b c d e f g,P C/\en = .returned (.tuple #[bK a b c d e f g,I_ 0])/\x_ w' S a b c d e f g C/\s_ w w'
def SP.box (N:Nat) (o:Obj):SP:=⟨fun v w=>∃g,v = P_ g/\N<=g/\w.heap[g]?=some o,fun v w w' hb ⟨g,h1,h2,h3⟩=>⟨g,h1,h2,h_ h3 hb⟩⟩
def NwR (N n:Nat) (gs:List Gr) (v2 v5 v8:Value) (w:World):Prop:=LO pB 72 w N (fun _=>False) v2 gs/\LO sJ 119 w N (fun _=>False) v5 (List.replicate n xL)/\LO Y_ 3 w N (fun _=>False) v8 (List.replicate n 0)
def SP.nw (N n:Nat) (gs:List Gr) (vz:Value):SP:=⟨fun v w=>∃v2 v5 v8,v = .agg #[S_ none 0 0,S_ none 0 0,vz,v2,v5,v8,S_ none 0 0]/\NwR N n gs v2 v5 v8 w,fun v w w' hb ⟨v2,v5,v8,h1,h2,h3,h4⟩=>⟨v2,v5,v8,h1,h2.step hb,h3.step hb,h4.step hb⟩⟩
theorem hG_ {g:Nat} (h:w.ownsRow base 119 3 (S_ (some ⟨g,0,none⟩) n n) n (madeCells (Value.agg #[S_ none 0 0,S_ none 0 0,S_ none 0 0]).cells (n*3)).toList):LO sJ 119 w base (fun _=>False) (S_ (some ⟨g,0,none⟩) n n) (List.replicate n xL):=by
 refine ⟨List.replicate n [S_ none 0 0,S_ none 0 0,S_ none 0 0],?_,?_⟩
 ·rw [rL_];have:=vZ (S_ none 0 0) 3 n O_;rw [show (Value.agg #[S_ none 0 0,S_ none 0 0,S_ none 0 0]).cells=Array.replicate 3 (Value.slice none 0 0) from rfl,this] at h;exact h
 ·clear h
  induction n with
  | zero=>exact trivial
  | succ n ih=>exact ⟨⟨_,_,_,rfl,LA.nil _ _ _,LA.nil _ _ _,LA.nil _ _ _⟩,ih⟩
theorem ga_ {g:Nat} (h:w.ownsRow base 3 1 (S_ (some ⟨g,0,none⟩) n n) n (madeCells (Value.int i64 0).cells (n*1)).toList):LO Y_ 3 w base (fun _=>False) (S_ (some ⟨g,0,none⟩) n n) (List.replicate n 0):=by
 refine ⟨List.replicate n [I_ 0],?_,?_⟩
 ·rw [rL_];have:=vZ (I_ 0) 1 n O_;rw [show (Value.int i64 0).cells=Array.replicate 1 (Value.int i64 0) from rfl,this] at h;exact h
 ·clear h
  induction n with
  | zero=>exact trivial
  | succ n ih=>exact ⟨rfl,ih⟩
theorem LO.ne_box {R:RR α k} {t:TypeId} {L:List α} {fr:Nat × Nat} (h:LO R e w base S v L) (hb:w.heap[Z]?=some (.cells cs t fr)) (hne:e≠t):v.ownBlock≠some Z:=by
 obtain ⟨rows,⟨_,h2⟩,_⟩:=h
 rcases h2 with ⟨rfl,_⟩ | ⟨g,cap,cur,rfl,_,hg,_⟩
 ·simp [Value.ownBlock]
 ·intro a;simp only[Value.ownBlock,Option.some.injEq] at a;subst a;rw [hg] at hb;injection hb with hb
  injection hb with _ hb _
  exact hne hb
theorem LO.laV {R:RR α k} {S':Nat->Prop} {L:List α} (h:LO R e w base S v L) (hS:∀b,b<w.heap.size->S b->S' b) (hb:∀b,v.ownBlock=some b->S' b):LA R w S' v L:=by
 obtain ⟨rows,w1,w2⟩:=h;rw [<-w2.len] at w1;exact ⟨rows,RW.of_own w1 w2.shp hb,w2.imp fun a r h=>R.wk _ _ _ _ _ (fun b hb h=>hS b hb h.1) h⟩
def NB (Z:Nat) (vf vr vz vg vl vc:Value) (wx:World):Prop:=wx.heap[Z]?=some (.cells #[vf,vr,vz,vg,vl,vc,S_ none 0 0] 30 (0,0))
structure NS (w:World) (S:Nat->Prop) (B Z:Nat) (zs:List Zn) (gs:List Gr) (n:Nat) (vz vg vl vc:Value) (vf vr:Value) (fs:List Fl) (nr:Nat) (wx:World):Prop where
 res:wx.heap[w.heap.size]?=some (bM)
 f:LO jI 64 wx B (fun _=>False) vf fs
 r:LO rO 85 wx B (fun _=>False) vr (List.replicate nr gV)
 fr:∀b,vf.ownBlock=some b->vr.ownBlock≠some b
 z:LA pD wx (fun z=>S z/\z<B/\z≠w.heap.size/\z≠Z) vz zs
 g:LA pB wx (fun z=>S z/\z<B/\z≠w.heap.size/\z≠Z) vg gs
 l:LA sJ wx (fun z=>S z/\z<B/\z≠w.heap.size/\z≠Z) vl (List.replicate n xL)
 c:LA Y_ wx (fun z=>S z/\z<B/\z≠w.heap.size/\z≠Z) vc (List.replicate n 0)
 bl:s_ w wx
 bb:w.heap.size<B/\Z<B/\B<=wx.heap.size
 zw:w.heap.size<Z
theorem er_ {V x:World} {zs:List Zn} {vz vg vl vc:Value} (hS:∀z,w.heap.size<=z->S z) (hR:V.heap[w.heap.size]?=some (bM)) (hW:s_ w V) (hz:LA pD V (fun z=>S z/\z≠w.heap.size) vz zs) (hC:s_ V x) (hZ1:V.heap.size<=Z) (hZ:x.heap[Z]?=some (bM))
  (hg:LO pB 72 x (V) (fun _=>False) vg gs) (hl:LO sJ 119 x (V) (fun _=>False) vl (List.replicate n xL)) (hc:LO Y_ 3 x (V) (fun _=>False) vc (List.replicate n 0)) :
  NS w S (x) Z zs gs n vz vg vl vc (S_ none 0 0) (S_ none 0 0) [] 0 (x.setRow Z #[S_ none 0 0,S_ none 0 0,vz,vg,vl,vc,S_ none 0 0])/\NB Z (S_ none 0 0) (S_ none 0 0) vz vg vl vc (x.setRow Z #[S_ none 0 0,S_ none 0 0,vz,vg,vl,vc,S_ none 0 0]):=by
 have g:w.heap.size<V.heap.size:=n_ hR;have d:=n_ hZ;have c:s_ w x:=e_ hW hC;have up:∀{α:Type} {k:Nat} {R:RR α k} {e:TypeId} {v:Value} {L:List α},e≠30->LO R e x (V) (fun _=>False) v L->LA R (x.setRow Z #[S_ none 0 0,S_ none 0 0,vz,vg,vl,vc,S_ none 0 0]) (fun z=>S z/\z<x.heap.size/\z≠w.heap.size/\z≠Z) v L:=fun {α k R e v L} he h=>by
  have f:=h.ne_box hZ he;exact LA.kept (h.laV (fun _ _ h=>h.elim) (fun b a=>⟨hS b (by have:=(h.own a).1;omega),(h.own a).2,by have:=(h.own a).1;omega,fun e=>f (by rw [a,e])⟩)) (r_.of_setRow x Z _ (fun h=>h.2.2.2 rfl))
 refine ⟨⟨?_,LO.nil _ _ _ _ _,LO.nil _ _ _ _ _,fun b a=>(by cases a),?_,up cE hg,up cE hl,up cE hc,d_ c O_ _,⟨O_,d,by simp [World.setRow]⟩,O_⟩,setRow_heap _ _ _ _ _ _ hZ⟩
 ·exact (setRow_other _ _ _ _ O_).trans (h_ hR hC)
 ·exact LA.kept ((hz.weak (S':=fun z=>S z/\z<x.heap.size/\z≠w.heap.size/\z≠Z) (fun z i h=>⟨h.1,by have:=hC.size;omega,h.2,O_⟩)).step hC) (r_.of_setRow x Z _ (fun h=>h.2.2.2 rfl))
section
variable {w wx wy:World} {S:Nat->Prop} {B Z n:Nat} {zs:List Zn} {gs:List Gr} {vz vg vl vc vf vr:Value} {fs:List Fl} {nr:Nat}
theorem NS.step (h:NS w S B Z zs gs n vz vg vl vc vf vr fs nr wx) (hb:s_ wx wy):NS w S B Z zs gs n vz vg vl vc vf vr fs nr wy:=
 ⟨h_ h.res hb,h.f.step hb,h.r.step hb,h.fr,h.z.step hb,h.g.step hb,h.l.step hb,h.c.step hb,e_ h.bl hb,⟨h.bb.1,h.bb.2.1,eF h.bb.2.2 hb.size⟩,h.zw⟩
theorem NS.other (h:NS w S B Z zs gs n vz vg vl vc vf vr fs nr wx) {r:Option Nat} (hg:wx.grownBy wy r) (hr:∀b,r=some b->B<=b\/b=Z) {vf':Value} {fs':List Fl} {nr':Nat} (hf:LO jI 64 wy B (fun _=>False) vf' fs') (hr':LO rO 85 wy B (fun _=>False) vr' (List.replicate nr' gV)) (hfr:∀b,vf'.ownBlock=some b->vr'.ownBlock≠some b):NS w S B Z zs gs n vz vg vl vc vf' vr' fs' nr' wy:=by
 obtain ⟨i,j,k⟩:=h.bb;have d:=h.zw;have a:r_ (fun z=>S z/\z<B/\z≠w.heap.size/\z≠Z) wx wy:=⟨hg.size,fun z f hl=>hg.block z hl fun e=>by
  rcases hr z e.symm with h | h
  ·have:=f.2.1;omega
  ·exact f.2.2.2 h⟩
 refine ⟨(hg.block _ (n_ h.res) fun e=>?_).trans h.res,hf,hr',hfr,h.z.kept a,h.g.kept a,h.l.kept a,h.c.kept a,h.bl.grown hg h.bl.size (fun b m=>?_),⟨i,j,eF k hg.size⟩,d⟩
 ·rcases hr _ e.symm with h | h <;> omega
 ·rcases hr b m with h | h <;> omega
theorem NB.other (h:NB Z vf vr vz vg vl vc wx) {r:Option Nat} (hg:wx.grownBy wy r) (hr:r≠some Z):NB Z vf vr vz vg vl vc wy:=
 (hg.block _ (n_ h) (fun e=>hr e.symm)).trans h
theorem NS.push (h:NS w S B Z zs gs n vz vg vl vc vf vr fs nr wx) (hB:NB Z vf vr vz vg vl vc wx) (hg:wx.grownBy wy vr.ownBlock) (hown:LO rO 85 wy B (fun _=>False) vr' (List.replicate nr gV ++ [gV])) (hat:∀b,vr'.ownBlock=some b->vr.ownBlock=some b\/b=wx.heap.size) :
  NS w S B Z zs gs n vz vg vl vc vf vr' fs (nr+1) wy/\NB Z vf vr vz vg vl vc wy:=by
 have a:=h.bb;refine ⟨h.other hg (fun b a=> .inl (h.r.own a).1) (h.f.kept hg ?_) (by rw [List.replicate_succ'];exact hown) (fun b a e=>?_),hB.other hg (fun e=>by have:=(h.r.own e).1;omega)⟩
 ·cases hv:vr.ownBlock with
  | none=>exact .inl rfl
  | some b=>exact .inr ⟨b,rfl,fun h=>h,fun e=>h.fr b e hv⟩
 ·rcases hat b e with e | e
  ·exact h.fr b a e
  ·have:=(h.f.own a).2;omega
theorem NS.set1 (h:NS w S B Z zs gs n vz vg vl vc vf vr' fs nr wx) (hB:NB Z vf vr vz vg vl vc wx):NS w S B Z zs gs n vz vg vl vc vf vr' fs nr (wx.setCell ⟨Z,1,none⟩ vr')/\NB Z vf vr' vz vg vl vc (wx.setCell ⟨Z,1,none⟩ vr'):=by
 have a:=h.bb;have c:=y_ wx ⟨Z,1,none⟩ vr';exact ⟨h.other c (fun b a=> .inr (by injection a with a;exact a.symm)) (h.f.kept c (.inr ⟨Z,rfl,fun h=>h,fun e=>by have:=(h.f.own e).1;omega⟩)) (h.r.kept c (.inr ⟨Z,rfl,fun h=>h,fun e=>by have:=(h.r.own e).1;omega⟩)) h.fr,W_ hB vr'⟩
theorem NS.cache (h:NS w S B Z zs gs n vz vg vl vc vf vr fs nr wx) (hS:∀z,w.heap.size<=z->S z):x_ wx (fun z=>S z/\z≠w.heap.size) vf vr vz vg vl vc (S_ none 0 0) ⟨fs,List.replicate nr gV,zs,gs,List.replicate n xL,List.replicate n 0,[]⟩:=by
 have d:=h.bb;have up:∀z,z<wx.heap.size->(S z/\z<B/\z≠w.heap.size/\z≠Z)->S z/\z≠w.heap.size:=fun z _ h=>⟨h.1,h.2.2.1⟩;exact ⟨h.f.laV (fun _ _ h=>h.elim) (fun b a=>⟨hS b (by have:=(h.f.own a).1;omega),by have:=(h.f.own a).1;omega⟩),h.r.laV (fun _ _ h=>h.elim) (fun b a=>⟨hS b (by have:=(h.r.own a).1;omega),by have:=(h.r.own a).1;omega⟩),h.z.weak up,h.g.weak up,h.l.weak up,h.c.weak up,LA.nil _ _ _⟩
end
theorem dM_ {Ls:List Pl} {v1 v2 v3:Value} (S:Nat->Prop) (h1:LA PlR w S v1 Ls) (hP:yN Ls) (h2:LA Y_ w S v2 sz) (hz:tE sz) (h3:LA pB w S v3 gs) (hG:gD gs) (h0:∀g ∈ gs,g.charge=0) (hS:∀z,w.heap.size<=z->S z) :
  C_ 28 #[v1,v2,v3] w (iC_ (fun C=>C=pQ Ls sz gs) S w):=by
 have an:=fun w' (n:s_ w w')=>eM_ (h1.step n) hP;have am:=fun w' (n:s_ w w')=>oI (h3.step n) hG;have ap:=fun w' (n:s_ w w') (a2:w.heap.size<w'.heap.size)=>h1_ (fun z=>S z/\z≠w.heap.size) ((h2.weak (fun z hz h=>⟨h,O_⟩)).step n) hz (fun z (hz':w'.heap.size<=z)=>⟨hS z O_,O_⟩);obtain ⟨A1,c1,rfl,q1,q2⟩:=h1.form;obtain ⟨A3,c3,rfl,q3,q4⟩:=h3.form;obtain ⟨H1,H3,H0⟩:=eI h1 h3 h0;have br:=hP.few;have bq:gs.length<=4:=hG.few;clear h1 h2 h3 h0;have HR:=H_ (i_ w (bM));have HW:=H_ (a_ (aP (w) w) (bM));go_enter func28,ntmps28
 go_upto_region 1 with fail
 generalize w.alloc (bM)=W1 at HR HW
 go_upto_region 3 with (first
  | (go_at_call 81;refine CM (an _ HW) ?_;rintro e w1 ⟨rfl,ag⟩;obtain ⟨ab,a4⟩:=jN HR HW ag;clear ag)
  | (go_at_call 82;refine CM (am _ a4) ?_;rintro e w2 ⟨rfl,ah⟩;obtain ⟨ac,ae⟩:=jN ab a4 ah;clear ah))
 clear HR HW ab a4 an am;go_wp2
 go_loopw [8] (fun i wx=>∃k:Nat,i = I_ k/\k<=gs.length/\s_ w wx/\wx.heap[w.heap.size]?=some (bM)) (fun i _=>gs.length - (intOf i).toNat)
 case atStart=>exact ⟨0,rfl,O_,ae.out,ac.out⟩
 case round=>
  clear ac ae;obtain ⟨k,rfl,hk,n,hr⟩:=hrel;have L:=H_ n;have HR:=H_ hr;clear n hr
  by_cases a2:k<gs.length
  ·obtain ⟨g,U⟩:∃g,gs[k]?=some g:=⟨_,cY a2⟩;obtain ⟨b,o,rfl,a9,y0,y1,y2⟩:=GrA.cells (H3.step L.out) U;have ak:=H0 g (gL U);rw [ak] at y2;have k1:(k:Int)<(gs.length:Int):=O_
   clear U ak y0 y1;go_wp2;go_roundw
   case rel=>exact ⟨k+1,by go_num,O_,L.out,HR.out⟩
   case measure=>exact bV
  ·obtain rfl:k=gs.length:=O_
   go_upto_region 11 with (first
    | (go_at_call 83;refine CM (ap _ L.out (n_ HR)) ?_;rintro e w3 ⟨vz,rfl,ao,ai⟩;obtain ⟨ad,a5⟩:=jN HR L ai;have a6:=H_ ao;clear ai ao))
   clear L HR ap;obtain ⟨bm,bd,b9,ba,bc⟩:=info_parts bO_;obtain ⟨be,b8,b5,b6,b7⟩:=info_parts zU;obtain ⟨E,J,G,rfl⟩:=a6.cap
   go_cut [11] (fun s11 wx=>∃(B Z:Nat) (Q R P:Value),s11 = P_ Z/\NS w S B Z (bN 1 sz) gs gs.length (S_ E J G) Q R P (S_ none 0 0) (S_ none 0 0) [] 0 wx/\NB Z (S_ none 0 0) (S_ none 0 0) (S_ E J G) Q R P wx)
   case first=>
    obtain ⟨V,hV⟩:=bL w3;subst hV;refine aD 11 84 [SP.eq (S_ E J G),SP.eq (S_ A3 gs.length c3),SP.lo pB 72 (V) (fun _=>False) gs,SP.eq (S_ A3 gs.length c3),SP.eq (I_ (gs.length:Int)),SP.lo sJ 119 (V) (fun _=>False) (List.replicate gs.length xL),SP.eq (S_ A3 gs.length c3),SP.eq (I_ (gs.length:Int)),SP.lo Y_ 3 (V) (fun _=>False) (List.replicate gs.length 0),SP.nw (V) gs.length gs (S_ E J G),SP.box (V) (bM)] q_ q_ rfl ?_;simp only[vG];refine qC fun v0=>qC fun v1=>?_;simp only[ly];refine f_ (fun x a s K t=>?_) (fun v2=>?_)
    ·obtain rfl:v1=_:=s 1 q_;have m:s_ V x:=a;refine aS (ops:=#[]) rfl (cH pB bC_ rfl _ _ rfl rfl _ S gs rfl ((H3.step a5.out).step m) O_ fun v' w' A U=>?_);have n:=(aP (x) x).grown U (bE _) (fun b n=>by cases n);exact t _ _ (e_ m n) n ⟨(A.weak (fun _ _ h=>h)).base_le m.size,by have:=n.size;have:=m.size;omega⟩
    simp only[ly];refine qC fun v3=>qC fun v4=>?_;simp only[ly];refine f_ (fun x a s K t=>?_) (fun v5=>?_)
    ·obtain rfl:v4=_:=s 4 q_;have m:s_ V x:=a;refine aS (ops:=#[]) rfl (wpList_make_full x rfl (.tmp 49) (.tmp 49) 27 rfl (x) 119 bm (Value.agg #[S_ none 0 0,S_ none 0 0,S_ none 0 0]) 3 underlying27 bd b9 ba .i64 .i64 gs.length gs.length gs.length rfl rfl rfl rfl (by rw [bc];omega) (by unfold maxLen;omega) (bE _) fun w' A U=>?_);have n:=(aP (x) x).grown U (bE _) (fun b n=>by cases n);exact t _ _ (e_ m n) n ⟨(hG_ A).base_le m.size,by have:=n.size;have:=m.size;omega⟩
    simp only[ly];refine qC fun v6=>qC fun v7=>?_;simp only[ly];refine f_ (fun x a s K t=>?_) (fun v8=>?_)
    ·obtain rfl:v7=_:=s 7 q_;have m:s_ V x:=a;refine aS (ops:=#[]) rfl (wpList_make_full x rfl (.tmp 52) (.tmp 52) 22 rfl (x) 3 be (Value.int i64 0) 1 underlying22 b8 b5 b6 .i64 .i64 gs.length gs.length gs.length rfl rfl rfl rfl (by rw [b7];omega) (by unfold maxLen;omega) (bE _) fun w' A U=>?_);have n:=(aP (x) x).grown U (bE _) (fun b n=>by cases n);exact t _ _ (e_ m n) n ⟨(ga_ A).base_le m.size,by have:=n.size;have:=m.size;omega⟩
    simp only[ly];refine f_ (fun x a s K t=>?_) (fun v9=>?_)
    ·obtain rfl:v0=_:=s 0 q_;obtain ⟨g2,_⟩:=s 2 q_;obtain ⟨g5,_⟩:=s 5 q_;obtain ⟨g8,_⟩:=s 8 q_;obtain ⟨B2,n2,k2,e2⟩:=g2.cap;obtain ⟨B5,n5,k5,e5⟩:=g5.cap;obtain ⟨B8,n8,k8,e8⟩:=g8.cap;subst e2 e5 e8;go_simp;exact t _ _ a B_ ⟨_,_,_,rfl,g2,g5,g8⟩
    simp only[ly];refine f_ (fun x a s K t=>?_) (fun v10=>?_)
    ·have m:s_ V x:=a;go_simp;exact t _ _ (a_ m _) (a_ B_ _) ⟨_,rfl,m.size,heap_alloc_new _ _⟩
    simp only[ly];refine aK ?_;intro x a hG;obtain ⟨bu,bv,bw,e9,g2,g5,g8⟩:=hG 9 O_;obtain rfl:v9=_:=e9;obtain ⟨Z,ay,b2,hZ⟩:=hG 10 O_;obtain rfl:v10=_:=ay;have m:s_ V x:=a;obtain ⟨HC,HZ,ar,au,av⟩:=h5_ m hZ g2 g5 g8;obtain ⟨B2,n2,k2,e2⟩:=g2.cap;obtain ⟨B5,n5,k5,e5⟩:=g5.cap;obtain ⟨B8,n8,k8,e8⟩:=g8.cap;subst e2 e5 e8;clear hG a m hZ g2 g5 g8
    go_wp2_with (refine Q_ rfl (.tmp 11) (.tmp 54) rfl rfl rfl rfl HZ rfl ?_)
    go_meet
    case rel=>exact ⟨x,Z,_,_,_,rfl,er_ hS ad a5 a6 HC b2 HZ ar au av⟩
   case rest=>
    clear ad a5 a6;obtain ⟨B,Z,Q,R,P,rfl,y,D⟩:=hcut;have O:=H_ y;have L:=H_ D;clear y D
    go_upto_region 12 with fail
    go_wp2
    go_loopw [12] (fun s12 wx=>∃(k:Nat) (vf:Value),s12 = I_ k/\k<=Ls.length/\NS w S B Z (bN 1 sz) gs gs.length (S_ E J G) Q R P vf (S_ none 0 0) ((Ls.take k).map jP) 0 wx/\NB Z vf (S_ none 0 0) (S_ E J G) Q R P wx) (fun s12 _=>Ls.length - (intOf s12).toNat)
    case atStart=>exact ⟨0,_,rfl,O_,O.out,L.out⟩
    case round=>
     clear O L;obtain ⟨k,vf,rfl,hk,y,D⟩:=hrel;obtain ⟨F1,f2,f3,rfl⟩:=y.f.cap;have O:=H_ y;have L:=H_ D;clear y D
     by_cases a2:k<Ls.length
     ·obtain ⟨p,I⟩:∃p,Ls[k]?=some p:=⟨_,cY a2⟩;obtain ⟨b,o,rfl,b3,p0,p1⟩:=PlA.cells H1.out I;have ax:=H_ I;have k1:(k:Int)<(Ls.length:Int):=O_
      clear I
      go_upto_region 15 with fail
      refine yD 84 8 10 (fun i=>decide (i<=7)) (fun x=>NS w S B Z (bN 1 sz) gs gs.length (S_ E J G) Q R P (S_ F1 f2 f3) (S_ none 0 0) ((Ls.take k).map jP) 0 x/\NB Z (S_ F1 f2 f3) (S_ none 0 0) (S_ E J G) Q R P x) (fun v x=>NS w S B Z (bN 1 sz) gs gs.length (S_ E J G) Q R P v (S_ none 0 0) ((Ls.take (k+1)).map jP) 0 x/\NB Z (S_ F1 f2 f3) (S_ none 0 0) (S_ E J G) Q R P x) (fun v x=>NS w S B Z (bN 1 sz) gs gs.length (S_ E J G) Q R P v (S_ none 0 0) ((Ls.take (k+1)).map jP) 0 x/\NB Z v (S_ none 0 0) (S_ E J G) Q R P x)
       [PF.eq (P_ Z),PF.eq (S_ F1 f2 f3),PF.eq (S_ (some ⟨b,o,none⟩) Ls.length c1),PF.eq (I_ (k:Int)),PF.eq (.pointer (some ⟨b,o+k*2,none⟩)),PF.eq (.agg #[I_ p.dev,I_ p.slot]),PF.eq (.agg #[I_ p.dev,I_ p.slot,I_ 0,S_ none 0 0,I_ 0,I_ 0,I_ 0,I_ 0,I_ 0,I_ 0,I_ 0,I_ 0,I_ 0,I_ 0,I_ 0]),PF.p0 (SP.blk 1 #[I_ p.dev,I_ p.slot,I_ 0,S_ none 0 0,I_ 0,I_ 0,I_ 0,I_ 0,I_ 0,I_ 0,I_ 0,I_ 0,I_ 0,I_ 0,I_ 0] 64),PF.res,PF.eq (P_ Z),PF.any] q_ q_ rfl ⟨O.step (B_.drew),L.other (gS _ 1 none) A_⟩ q_ (fun _ _=>trivial) ?_
      refine k_ (fun g d xw W I a s K t=>?_) (fun v0=>?_)
      ·skip
       go_simp;exact t g _ xw (a.pure 0 rfl rfl) (fun _ _ h=>h) rfl
      simp only[ly];refine k_ (fun g d xw W I a s K t=>?_) (fun v1=>?_)
      ·obtain rfl:v0=_:=s 0 q_;have H:=(a.c0 (a.n0 (nds I rfl))).2;unfold NB at H;have x0:=sF H;clear H;go_simp;exact t g _ xw (a.pure 1 rfl rfl) (fun _ _ h=>h) rfl
      simp only[ly];refine k_ (fun g d xw W I a s K t=>?_) (fun v2=>?_)
      ·skip
       go_simp;exact t g _ xw (a.pure 2 rfl rfl) (fun _ _ h=>h) rfl
      simp only[ly];refine k_ (fun g d xw W I a s K t=>?_) (fun v3=>?_)
      ·skip
       go_simp;exact t g _ xw (a.pure 3 rfl rfl) (fun _ _ h=>h) rfl
      simp only[ly];refine k_ (fun g d xw W I a s K t=>?_) (fun v4=>?_)
      ·obtain rfl:v2=_:=s 2 q_;obtain rfl:v3=_:=s 3 q_;go_simp;exact t g _ xw (a.pure 4 rfl rfl) (fun _ _ h=>h) rfl
      simp only[ly];refine k_ (fun g d xw W I a s K t=>?_) (fun v5=>?_)
      ·obtain rfl:v4=_:=s 4 q_;have a9:=(a.c0 (a.n0 (nds I rfl))).1.bl;obtain ⟨l0,l1⟩:=kt2 (a9.block _ b3) p0 p1;clear a9;go_simp;exact t g _ xw (a.pure 5 rfl rfl) (fun _ _ h=>h) rfl
      simp only[ly];refine k_ (fun g d xw W I a s K t=>?_) (fun v6=>?_)
      ·obtain rfl:v5=_:=s 5 q_;go_simp;exact t g _ xw (a.pure 6 rfl rfl) (fun _ _ h=>h) rfl
      simp only[ly];refine k_ (fun g d xw W I a s K t=>?_) (fun v7=>?_)
      ·obtain rfl:v6=_:=s 6 q_;obtain rfl:g=none:=a.n0 (nds I rfl);obtain ⟨y,D⟩:=a.c0 rfl;go_simp;exact t none _ _ (a.step 7 rfl rfl ⟨y.step (a_ B_ _),D.other (gA_ _ _ none) A_⟩) (fun j u h=>GF.keep (.inl ⟨rfl,rfl,a_ B_ _⟩) j u h) (fun _=>⟨_,rfl,heap_alloc_new _ _⟩)
      simp only[ly];refine k_ (fun g d xw W I a s K t=>?_) (fun v8=>?_)
      ·obtain rfl:g=none:=a.n0 W;obtain ⟨y,D⟩:=a.c0 rfl;obtain rfl:v1=_:=s 1 q_;obtain ⟨gb,e7,aj⟩:=s 7 q_ rfl;obtain rfl:v7=_:=e7;refine aS (ops:=#[]) rfl (M_ dZ_ rfl (.tmp 62) (.tmp 68) rfl (fun _=>False) rfl y.f y.bb.2.2 (by simp;omega) _ rfl aj (jP p) (cH_) (fun v' w' A U bp=>?_));refine t (some (v',false)) v' w' (a.app rfl ⟨?_,D.other U (fun e=>by have:=(y.f.own e).1;have:=y.bb;omega)⟩) (fun j u h=>GF.keep (.inr ⟨A_,fun v p e=>by cases e⟩) j u h) ⟨false,rfl⟩;refine y.other U (fun b n=> .inl (y.f.own n).1) ?_ (LO.nil _ _ _ _ _) (fun b _ e=>by cases e);rw [bB ax.out,List.map_append];exact A
      simp only[ly];refine k_ (fun g d xw W I a s K t=>?_) (fun v9=>?_)
      ·skip
       go_simp;exact t g _ xw (a.pure 9 rfl rfl) (fun _ _ h=>h) rfl
      simp only[ly];refine k_ (fun g d xw W I a s K t=>?_) (fun v10=>?_)
      ·obtain ⟨pp,eg⟩:=s 8 q_;obtain rfl:v9=_:=s 9 q_;subst eg;have e2:pp=false:=by
        cases pp with
        | false=>rfl
        | true=>exact absurd rfl (a.n1 W v8)
       subst e2;obtain ⟨y,D⟩:=a.c1 v8 rfl;obtain ⟨G1,a7,a8,rfl⟩:=y.f.cap;have H:=D;unfold NB at H;have x0:=b_ H 0;have fz:=t_ H 0;simp only[zl] at x0;go_simp;exact t (some (S_ G1 a7 a8,true)) undef _ (a.sto rfl ⟨y.other (y_ xw ⟨Z,0,none⟩ (S_ G1 a7 a8)) (fun b n=> .inr (by injection n with n;exact n.symm)) (y.f.kept (y_ xw ⟨Z,0,none⟩ (S_ G1 a7 a8)) (.inr ⟨Z,rfl,fun h=>h,fun e=>by have:=(y.f.own e).1;have:=y.bb;omega⟩)) (LO.nil _ _ _ _ _) (fun b _ e=>by cases e),W_ H _⟩) (fun j u h=>GF.keep (.inr ⟨A_,fun v p e=>⟨true,by cases e;rfl⟩⟩) j u h) trivial
      simp only[ly];refine dI ?_;intro g d wz X a hG;obtain ⟨v,rfl⟩:=a.fin (X 10 A_);obtain ⟨y,D⟩:=a.c2 v rfl;clear hG X;go_wp2;go_roundw
      case rel=>exact ⟨k+1,v,by go_num,O_,y,D⟩
      case measure=>exact bV
     ·obtain rfl:k=Ls.length:=O_
      rw [List.take_length] at O;obtain ⟨nn,aa⟩:=bL (fI (bN 1 sz));have bn:nn<=64:=by have:=iL sz 1 hz.each;have:=hz.all;omega
      have aq:=H_ (show ∀w' vr q,NS w S B Z (bN 1 sz) gs gs.length (S_ E J G) Q R P (S_ F1 f2 f3) vr (Ls.map jP) q w'->C_ 84 #[S_ E J G] w' (sD nn w') from fun w' vr q h=>by rw [aa];exact gC_ h.z hz.zones);have aw:=H_ aa;clear aa;go_wp2
      go_loopw [13] (fun s13 wx=>∃(q:Nat) (vr:Value),s13 = I_ q/\q<=nn/\NS w S B Z (bN 1 sz) gs gs.length (S_ E J G) Q R P (S_ F1 f2 f3) vr (Ls.map jP) q wx/\NB Z (S_ F1 f2 f3) vr (S_ E J G) Q R P wx) (fun s13 _=>nn - (intOf s13).toNat)
      case atStart=>exact ⟨0,_,rfl,O_,O.out,L.out⟩
      case round=>
       clear O L;obtain ⟨q,vr,rfl,hq,y,D⟩:=hrel;obtain ⟨G1,g2,g3,rfl⟩:=y.r.cap;have al:=aq _ _ _ y;have O:=H_ y;have L:=H_ D;clear y
       by_cases bs:q<nn
       ·have bt:(q:Int)<(nn:Int):=O_
        unfold NB at D;clear D
        go_wp2_with (first
         | (go_at_call 84;refine CM al ?_;rintro e w5 ⟨rfl,N⟩;have F:=H_ (O.step N);have a0:=H_ (L.other (X_ N none) A_);have M:=a0.out;unfold NB at M;have x1:=b_ M 1;simp only[zl] at x1;clear N M)
         | (at_builtin;(refine M_ d0_ rfl (.tmp 78) (.tmp 80) rfl (fun _=>False) rfl (F.r.alloc _) (by have:=F.bb;simp;omega) (by simp;omega) (nO (-1) 0 ⟨#[]⟩ 0 0 0 0 0 0) rfl (l_ _ _ _ rfl) gV rfl ?_);intro v4 w4 Y b4 af;obtain ⟨G4,h4,i4,rfl⟩:=Y.cap;have a3:=H_ ((F.step (a_ B_ _)).push (a0.other (gA_ _ _ none) A_) b4 Y af);have a1:=a3.out.2;unfold NB at a1;have z1:=b_ a1 1;have fz:=t_ a1 1;simp only[zl] at z1;clear a1))
        go_roundw
        case rel=>
         obtain ⟨r1,r2⟩:=a3.out.1.set1 a3.out.2;exact ⟨q+1,_,by go_num,O_,r1,r2⟩
        case measure=>exact bV
       ·obtain rfl:q=nn:=O_
        unfold NB at D;clear D;have bo:=H_ (O.cache hS)
        go_wp2_with (first
         | (go_at_call 84;refine CM al ?_;rintro e w5 ⟨rfl,N⟩;have F:=H_ (O.step N);have a0:=H_ (L.other (X_ N none) A_);have M:=a0.out;unfold NB at M;obtain ⟨x0,x1,x2,x3,x4,x5,x6⟩:=T_ M;obtain ⟨az,b0,b1,rfl⟩:=O.g.cap;obtain ⟨bi,bj,bk,rfl⟩:=O.l.cap;obtain ⟨bf,bg,bh,rfl⟩:=O.c.cap;clear N M)
         | (refine Q_ rfl (.tmp 6) (.tmp 83) rfl rfl rfl rfl F.res rfl ?_))
        show bodyPost prog f28 _ _ _ _
        refine bodyPost_ret (aG rfl rfl rfl (setRow_heap _ _ _ _ _ _ F.res)) rfl ?_;refine ⟨pQ Ls sz gs,_,_,_,_,_,_,_,rfl,rfl,?_,d_ F.bl (bE _) _⟩;have:=((F.cache hS).kept (r_.of_setRow w5 (w) (D_ F1 f2 f3 G1 g2 g3 E J G az b0 b1 bi bj bk bf bg bh none 0 0) (fun h=>h.2 rfl))).weak (S':=S) (fun z _ h=>h.1);unfold pQ;rw [<-aw.out];exact this
end
section
variable {F G Z:Nat}
theorem gq_ (j off n:Nat) {a b c d e f g:Value} {bt:Nat} (h:x_ w S a b c d e f g C0) (hI:fN F G Z C0) (hj:j<F) (h1:1<=n) (h2:off+n<=128) (hT:Tp W bt w) (hn:¬S bt) (hS:∀z,w.heap.size<=z->S z) :
  C_ 163 #[bK a b c d e f g,I_ j,I_ off,I_ n] w (ds_ F G Z S W bt w):=by
 have ce:=hT.lt;obtain ⟨A1,m1,c1,A2,m2,c2,A3,m3,c3,A4,m4,c4,A5,m5,c5,A6,m6,c6,A7,m7,c7,rfl,rfl,rfl,rfl,rfl,rfl,rfl⟩:=x_.caps h;obtain ⟨X,hX⟩:=bL w.heap.size;have B:=H_ (PC.start h hI hT hX hn hS);clear h hI hT;go_enter func163,ntmps163;obtain ⟨R,hR⟩:=bL (X+1);rw [<-hR] at B;have cb:w.heap.size<=X/\w.heap.size<=R/\X≠R:=O_
 go_upto_region 1 with fail
 rw [<-hX,<-hR];generalize (w.alloc _).alloc _=W1 at B;clear hX hR;obtain ⟨y0,sz,hy,b9,bu⟩:=jK B.inv hj;have b8:=fun w'=>gg_ off n (fun z=>W1.heap.size<=z) w' h1 h2;have b4:1<=(aJ off n).length/\(aJ off n).length<=9:=by unfold aJ;rw [sT];omega
 have ac:∀z ∈ aJ off n,0<=z/\z<8:=fun z O=>by
  unfold aJ yJ at O;simp only[List.mem_map,List.mem_range] at O;obtain ⟨q,hq,rfl⟩:=O;omega
 have a4:=H_ ac;clear ac
 go_upto_region 2 with (go_at_call 88;refine CM (b8 _) ?_;rintro e w2 ⟨vl,rfl,b6,aw⟩)
 have HO:=H_ b6;have HB:=H_ aw;clear b6 aw b8;have a3:=H_ (B.step HB.out);have ba:=fun en w' (N:s_ W1 w')=>e4_ j sz y0 en (B.at_.step N) B.inv.ok hy b9 bu;clear hy b9;have A:=a3.out;obtain ⟨x0,x1,x2,x3,x4,x5,x6⟩:=T_ A.box;clear A
 go_upto_region 3 with (go_at_call 89;refine CM (ba _ _ HB.out) ?_;rintro e w3 ⟨tp,ts,rfl,bc,_,_,_,ai⟩)
 have af:=H_ (HO.step ai);have ad:=jC HB ai;clear ai ba HO HB a3 x0 x1 x2 x3 x4 x5 x6
 go_upto_if 32 with fail
 go_cut [9] (fun s9 wx=>∃(I cl:Nat) (L:List Int),s9 = S_ (some ⟨I,0,none⟩) L.length cl/\W1<=I/\I<wx/\(∀(k:Nat) (z:Int),L[k]?=some z->wx.cell? ⟨I,k,none⟩=some (I_ z))/\(∀z ∈ L,0<=z/\z<8)/\L.length<=20/\s_ W1 wx)
 case first=>
  rcases bc with rfl | ⟨q,rfl,hq⟩
  ·go_wp2;go_meet
   case rel=>exact b3_ af.out b4.1 a4.out O_ ad.out
  ·have HO:=af;have HB:=ad
   go_wp2_with (at_builtin;(refine M_ cV rfl (.tmp 33) (.tmp 35) rfl (fun z=>W1.heap.size<=z) rfl (HO.alloc _) (by have:=HB.size;simp;omega) O_ #[I_ (q:Int)] rfl (l_ _ _ _ rfl) (q:Int) rfl ?_);intro v4 w4 am br c9)
   go_meet
   case rel=>
    have bl:∀z ∈ aJ off n ++ [(q:Int)],0<=z/\z<8:=fun z O=>by
     rcases List.mem_append.1 O with O | O
     ·exact a4 z O
     ·obtain rfl:z=(q:Int):=by simpa using O
      omega
    have b3:1<=(aJ off n ++ [(q:Int)]).length/\(aJ off n ++ [(q:Int)]).length<=20:=by simp;omega
    have a7:s_ W1 w4:=(a_ HB.out _).grown br (a_ HB.out _).size (fun b N=>(HO.own N).1);exact b3_ am b3.1 bl b3.2 a7
 case rest=>
  obtain ⟨I,cl,L,rfl,bq,cf,ay,hL,ca,a7⟩:=hcut;have ae:=H_ ay;have HL:=H_ hL;have a5:=H_ (B.own (K:=some I) a7 (fun z O=>by injection O with O;omega))
  clear ay hL a7 bq B af ad a4 bc b4 y0
  go_upto_region 5 with fail
  go_wp2
  go_loopw [12,13,14,15,16,17,18] (fun s12 s13 s14 s15 s16 s17 s18 wx=>∃k:Nat,s12 = I_ (k:Int)/\k<=L.length/\PCs F G Z S W w wc bt X R (some I) wx) (fun s12 _ _ _ _ _ _ _=>L.length - (intOf s12).toNat)
  case atStart=>exact ⟨0,rfl,O_,_,_,_,_,_,_,_,_,a5.out⟩
  case round=>
   clear a5;obtain ⟨k,rfl,hk,a,b,c,d,e,f,g,C,A⟩:=hrel;obtain ⟨A1,m1,c1,rfl⟩:=A.at_.files.cap;obtain ⟨A2,m2,c2,rfl⟩:=A.at_.frames.cap;obtain ⟨A3,c3,rfl,_,_⟩:=A.at_.zones.form;obtain ⟨A4,m4,c4,rfl⟩:=A.at_.groups.cap;obtain ⟨A5,m5,c5,rfl⟩:=A.at_.lists.cap;obtain ⟨A6,m6,c6,rfl⟩:=A.at_.clocks.cap;obtain ⟨A7,m7,c7,rfl⟩:=A.at_.ptes.cap;obtain ⟨zn,bd⟩:∃zn,C.zones.length=zn+1:=⟨C.zones.length - 1,by have:=A.inv.nz;have:=A.inv.few;omega⟩;have c0:zn<Z:=by have:=A.inv.nz;omega
   have ch:zn<=1:=by have:=A.inv.nz;have:=A.inv.few;omega
   have bi:0<G:=by have:=A.inv.few;omega
   rw [bd] at A;obtain ⟨Wk,bk⟩:=bL wc;subst bk;have B:=H_ A;clear A bd;obtain ⟨V,hV⟩:=bL wr;subst hV
   by_cases b5:k<L.length
   ·obtain ⟨p,Q,bs⟩:∃p:Nat,L[k]?=some (p:Int)/\p<8:=by
     have:=HL _ (gM_ b5);exact ⟨L[k].toNat,by rw [cY b5];congr 1;omega,O_⟩
    have l0:V.cell? ⟨I,k,none⟩=some (I_ (p:Int)):=(g_ (B.kk I rfl).2.2.2).trans (ae k p Q);have au:=H_ Q;clear Q;obtain ⟨y,sz,hy,_,_⟩:=jK B.inv hj;have a9:=fun w' (h:x_ w' (Sx S X R (some I)) (S_ A1 m1 c1) (S_ A2 m2 c2) (S_ A3 (zn+1) c3) (S_ A4 m4 c4) (S_ A5 m5 c5) (S_ A6 m6 c6) (S_ A7 m7 c7) C)=>fV j y p h hy;have aq:=H_ (B.inv.findOk hy);have HY:=H_ hy;clear hy;have ci:(k:Int)<(L.length:Int):=O_
    have k0:(0:Int)<=(k:Int):=O_
    have A:=B.out;obtain ⟨x0,x1,x2,x3,x4,x5,x6⟩:=T_ A.box;clear A
    go_upto_region 8 with fail
    go_cut [13,14] (fun s13 s14 wx=>(∃(m:Int) (ok:Bool),s13 = I_ m/\s14 = .bool ok/\(ok=false\/ok=true/\∃(i:Nat) (x:Fr),m=(i:Int)+1/\fG C i x j y))/\PC F G Z S W w Wk bt X R (some I) (S_ A1 m1 c1) (S_ A2 m2 c2) (S_ A3 (zn+1) c3) (S_ A4 m4 c4) (S_ A5 m5 c5) (S_ A6 m6 c6) (S_ A7 m7 c7) C wx)
    case first=>
     have xe:=R_ V;have cc:=n_ B.box;have cd:=(B.kk I rfl).1
     by_cases hv:J_ y.c p<=0
     ·have al:∀z,C_ 59 #[bK (S_ A1 m1 c1) (S_ A2 m2 c2) (S_ A3 (zn+1) c3) (S_ A4 m4 c4) (S_ A5 m5 c5) (S_ A6 m6 c6) (S_ A7 m7 c7),I_ j,I_ p] (ext V z) (fun e ao=>e = .returned (.tuple #[I_ 0,.bool false])/\Below (ext V z).heap.size (ext V z) ao):=fun z=>by
       have:=a9 (ext V z) (B.at_.step (p_ V z));unfold eL uT at this;rw [if_pos hv] at this;exact this
      clear hv a9;refine w_ q_ q_ ?_
      repeat (go_big_quiet_step ((exact E_ (al _))))
      refine wpQuiet_nil ?_;rintro w' ⟨z,rfl⟩;go_wp2;go_meet
      case rel=>exact ⟨⟨0,false,rfl,rfl,.inl rfl⟩,B.step (p_ V z)⟩
     ·obtain ⟨i,x,az,hU,bw⟩:=aq.out p O_;have al:∀z,C_ 59 #[bK (S_ A1 m1 c1) (S_ A2 m2 c2) (S_ A3 (zn+1) c3) (S_ A4 m4 c4) (S_ A5 m5 c5) (S_ A6 m6 c6) (S_ A7 m7 c7),I_ j,I_ p] (ext V z) (fun e ao=>e = .returned (.tuple #[I_ ((i:Int)+1),.bool true])/\Below (ext V z).heap.size (ext V z) ao):=fun z=>by
       have:=a9 (ext V z) (B.at_.step (p_ V z));unfold eL uT at this;rw [if_neg hv,az] at this;exact this
      have HU:=H_ hU;clear hv a9 hU az bw;refine w_ q_ q_ ?_
      repeat (go_big_quiet_step ((exact E_ (al _))))
      refine wpQuiet_nil ?_;rintro w' ⟨z,rfl⟩;go_wp2;go_meet
      case rel=>exact ⟨⟨_,true,rfl,rfl,.inr ⟨rfl,i,x,rfl,HU⟩⟩,B.step (p_ V z)⟩
    case rest=>
     clear B l0 x0 x1 x2 x3 x4 x5 x6 a9 aq V;obtain ⟨⟨m,ok,rfl,rfl,b7⟩,A⟩:=hcut;have ag:=H_ b7;have B:=H_ A;clear b7 A
     go_upto_region 9 with fail
     go_cut [54] (fun s54 wx=>s54 = .bool (!ok)/\PC F G Z S W w Wk bt X R (some I) (S_ A1 m1 c1) (S_ A2 m2 c2) (S_ A3 (zn+1) c3) (S_ A4 m4 c4) (S_ A5 m5 c5) (S_ A6 m6 c6) (S_ A7 m7 c7) C wx)
     case first=>
      go_wp2;go_meet
      case rel=>exact ⟨rfl,B⟩
     case rest=>
      clear B;obtain ⟨rfl,A⟩:=hcut;have B:=H_ A;clear A
      go_upto_if 54 with fail
      go_cut [13,15,16,17] (fun s13 s15 s16 s17 wx=>∃(i:Nat) (a b c d e f g:Value) (C:Ck) (x:Fr) (y:Fl),s13 = I_ ((i:Int)+1)/\fG C i x j y/\PC F G Z S W w Wk bt X R (some I) a b c d e f g C wx)
      case first=>
       cases ok with
       | true=>
        obtain ⟨i,x,rfl,hU⟩:∃(i:Nat) (x:Fr),m=(i:Int)+1/\fG C i x j y:=by
         rcases ag.out with h | ⟨_,h⟩
         ·cases h
         ·exact h
        go_wp2;go_meet
        case rel=>exact ⟨i,_,_,_,_,_,_,_,_,x,y,rfl,hU,B⟩
       | false=>
        clear ag;obtain ⟨V,hV⟩:=bL wc;subst hV
        go_upto_region 10 with fail
        go_cut [15,16,17] (fun s15 s16 s17 wx=>∃(z:Nat) (t:Ck × Int × Int) (a b c d e f g:Value),s15 = P_ z/\s16 = I_ t.2.1/\s17 = I_ t.2.2/\InQ F G Z j p t.1 t.2.1 t.2.2/\bA wx z #[a,b,c,d,e,f,g] 30/\x_ wx (Sg (Sx S X R (some I)) ((some z,some t):GH (Ck × Int × Int))) a b c d e f g t.1/\PC F G Z S W w Wk bt X R (some I) (S_ A1 m1 c1) (S_ A2 m2 c2) (S_ A3 (zn+1) c3) (S_ A4 m4 c4) (S_ A5 m5 c5) (S_ A6 m6 c6) (S_ A7 m7 c7) C wx)
        case first=>
         refine oA (τ:=Ck × Int × Int) (S:=Sx S X R (some I)) 123 16 (fun i=>decide (i<=12)||decide (i=15)) (CG 15 10 16 (PB F G Z S W w Wk bt X R (V) (some I) (S_ A1 m1 c1) (S_ A2 m2 c2) (S_ A3 (zn+1) c3) (S_ A4 m4 c4) (S_ A5 m5 c5) (S_ A6 m6 c6) (S_ A7 m7 c7) C) (V) (bM) (fun t=>InQ F G Z j p t.1 t.2.1 t.2.2) (fun t x z=>∃a b c d e f g,bA x z #[a,b,c,d,e,f,g] 30/\x_ x (Sg (Sx S X R (some I)) (some z,some t)) a b c d e f g t.1)) [SG.eq (bK (S_ A1 m1 c1) (S_ A2 m2 c2) (S_ A3 (zn+1) c3) (S_ A4 m4 c4) (S_ A5 m5 c5) (S_ A6 m6 c6) (S_ A7 m7 c7)),SG.eq (I_ (j:Int)),SG.eq (S_ (some ⟨I,0,none⟩) L.length cl),SG.eq (I_ (k:Int)),SG.eq (.pointer (some ⟨I,k,none⟩)),SG.eq (I_ (p:Int)),SG.eq (.pointer (some ⟨X,2,none⟩)),SG.eq (S_ A3 (zn+1) c3),SG.eq (I_ ((zn:Int)+1)),SG.eq (I_ (zn:Int)),SG.res RQ.ck3,SG.res RQ.ck3,SG.res (RQ.ck (fun t=>t.1)),SG.res (RQ.flat (fun t=> I_ t.2.1)),SG.res (RQ.flat (fun t=> I_ t.2.2)),SG.box,SG.any,SG.res (RQ.flat (fun t=> I_ t.2.1)),SG.res (RQ.flat (fun t=> I_ t.2.2))] q_ q_ rfl ⟨B.pb.step (B_.drew),fun _=>rfl,fun _=>rfl,fun z h=>(by cases h),fun t h=>(by cases h),fun h=>(by cases h)⟩ q_ (fun _ _=>trivial) ?_;refine k_ (fun g d xw hn Q l E K H=>?_) (fun v0=>?_)
         ·have N:=l.b.pc.box;obtain ⟨x0,x1,x2,x3,x4,x5,x6⟩:=T_ N;go_simp;exact H g _ xw (l.pure 0 rfl rfl rfl) (fun _ _ h=>h) rfl
         simp only[ly];refine qE fun v1=>qE fun v2=>?_;simp only[ly];refine qE fun v3=>qE fun v4=>?_;simp only[ly];refine k_ (fun g d xw hn Q l E K H=>?_) (fun v5=>?_)
         ·obtain rfl:v4=_:=E 4 q_;have l0:=(g_ (l.b.pc.kk I rfl).2.2.2).trans (ae k p au);go_simp;exact H g _ xw (l.pure 5 rfl rfl rfl) (fun _ _ h=>h) rfl
         simp only[ly];refine qE fun v6=>?_;simp only[ly];refine k_ (fun g d xw hn Q l E K H=>?_) (fun v7=>?_)
         ·obtain rfl:v6=_:=E 6 q_;have x2:=b_ l.b.pc.box 2;simp only[zl] at x2;go_simp;exact H g _ xw (l.pure 7 rfl rfl rfl) (fun _ _ h=>h) rfl
         simp only[ly];refine qE fun v8=>?_;simp only[ly];refine k_ (fun g d xw hn Q l E K H=>?_) (fun v9=>?_)
         ·obtain rfl:v8=_:=E 8 q_;have hw:=gJ (x:=(zn:Int)+1 - 1) O_;rw [Int.add_sub_cancel] at hw;go_simp;exact H g _ xw (l.pure 9 rfl rfl rfl) (fun _ _ h=>h) (by first | rfl | (show Value.int _ _=Value.int _ _;simp;done) | (show Value.int _ _=Value.int _ _;congr 1;omega))
         simp only[ly];refine k_ (fun g d xw hn Q l E K H=>?_) (fun v10=>?_)
         ·obtain rfl:v0=_:=E 0 q_;obtain rfl:v1=_:=E 1 q_;obtain rfl:v5=_:=E 5 q_;obtain rfl:v9=_:=E 9 q_;have aj:=nds Q rfl;obtain ⟨r,t⟩:=g;obtain rfl:t=none:=l.nc hn;have bm:=l.b.old.weak (S':=Sg (Sx S X R (some I)) ((r,none):GH (Ck × Int × Int))) (fun z _ h=>⟨h.1,fun e=>by have:=(l.bo z e).1;omega⟩);have bp:∀z,xw.heap.size<=z->Sg (Sx S X R (some I)) ((r,none):GH (Ck × Int × Int)) z:=fun z O=>⟨l.b.pc.fresh z O,fun e=>by have:=(l.bo z e).2.1;omega⟩;go_simp
          go_at_call 72
          refine CM (zS C j _ _ _ _ _ _ _ _ xw bm l.b.pc.inv hj bp p 0 zn true bs bi c0) ?_;rintro e w1 ⟨C1,n1,er,a1,b1,c1,d1,e1,f1,g1,bj,rfl,D,N⟩;exact H (r,some (C1,n1,er)) _ w1 (l.called rfl rfl aj N (l.b.step N) bj) (fun j u h=>GG.keep (KG.ans N) j u h) ⟨(C1,n1,er),rfl,a1,b1,c1,d1,e1,f1,g1,rfl,D⟩
         simp only[ly];refine k_ (fun g d xw hn Q l E K H=>?_) (fun v11=>?_)
         ·obtain ⟨t,Y,a1,b1,c1,d1,e1,f1,g1,M,D⟩:=E 10 q_;obtain rfl:v10=_:=M;go_simp;exact H g _ xw (l.pure 11 rfl rfl rfl) (fun _ _ h=>h) ⟨t,Y,a1,b1,c1,d1,e1,f1,g1,rfl,D⟩
         simp only[ly];refine k_ (fun g d xw hn Q l E K H=>?_) (fun v12=>?_)
         ·obtain ⟨t,Y,a1,b1,c1,d1,e1,f1,g1,M,D⟩:=E 11 q_;obtain rfl:v11=_:=M;go_simp;exact H g _ xw (l.pure 12 rfl rfl rfl) (fun _ _ h=>h) ⟨t,Y,a1,b1,c1,d1,e1,f1,g1,rfl,D⟩
         simp only[ly];refine k_ (fun g d xw hn Q l E K H=>?_) (fun v13=>?_)
         ·obtain ⟨t,Y,a1,b1,c1,d1,e1,f1,g1,M,D⟩:=E 11 q_;obtain rfl:v11=_:=M;go_simp;exact H g _ xw (l.pure 13 rfl rfl rfl) (fun _ _ h=>h) ⟨t,Y,rfl⟩
         simp only[ly];refine k_ (fun g d xw hn Q l E K H=>?_) (fun v14=>?_)
         ·obtain ⟨t,Y,a1,b1,c1,d1,e1,f1,g1,M,D⟩:=E 11 q_;obtain rfl:v11=_:=M;go_simp;exact H g _ xw (l.pure 14 rfl rfl rfl) (fun _ _ h=>h) ⟨t,Y,rfl⟩
         simp only[ly];refine k_ (fun g d xw hn Q l E K H=>?_) (fun v15=>?_)
         ·have aj:=nds Q rfl;obtain ⟨r,t⟩:=g;obtain rfl:r=none:=l.nb hn;go_simp;exact H (some xw.heap.size,t) _ _ (l.boxed rfl rfl aj l.b.nn _ (heap_alloc_new _ _) (l.b.step (a_ B_ _))) (fun j u h=>GG.keep (KG.alloc _) j u h) ⟨_,rfl,rfl⟩
         simp only[ly];refine k_ (fun g d xw hn Q l E K H=>?_) (fun v16=>?_)
         ·obtain ⟨z,M,O⟩:=E 15 q_;obtain rfl:v15=_:=M;obtain ⟨t,Y,a1,b1,c1,d1,e1,f1,g1,M,D⟩:=E 12 q_;obtain rfl:v12=_:=M;obtain ⟨r,t'⟩:=g;obtain rfl:r=some z:=O;obtain rfl:t'=some t:=Y;obtain ⟨E1,u1,q1,E2,u2,q2,E3,u3,q3,E4,u4,q4,E5,u5,q5,E6,u6,q6,E7,u7,q7,rfl,rfl,rfl,rfl,rfl,rfl,rfl⟩:=x_.caps D;refine aE rfl 30 (.tmp 15) (.tmp 67) rfl rfl (D_ E1 u1 q1 E2 u2 q2 E3 u3 q3 E4 u4 q4 E5 u5 q5 E6 u6 q6 E7 u7 q7) rfl rfl 30 _ ((l.bo z rfl).2.2 hn) cD rfl (fQ) ?_;exact H (some z,some t) undef _ (l.stored (l.b.aside (l.bo z rfl).1 _) ⟨_,_,_,_,_,_,_,setRow_heap _ _ _ _ _ _ ((l.bo z rfl).2.2 hn),D.kept (r_.of_setRow _ _ _ (fun h=>h.2 rfl))⟩) (fun j u h=>GG.keep (KG.store _) j u h) trivial
         simp only[ly];refine k_ (fun g d xw hn Q l E K H=>?_) (fun v17=>?_)
         ·obtain ⟨t,Y,M⟩:=E 13 q_;obtain rfl:v13=_:=M;go_simp;exact H g _ xw (l.pure 17 rfl rfl rfl) (fun _ _ h=>h) ⟨t,Y,rfl⟩
         simp only[ly];refine k_ (fun g d xw hn Q l E K H=>?_) (fun v18=>?_)
         ·obtain ⟨t,Y,M⟩:=E 14 q_;obtain rfl:v14=_:=M;go_simp;exact H g _ xw (l.pure 18 rfl rfl rfl) (fun _ _ h=>h) ⟨t,Y,rfl⟩
         simp only[ly];refine dI ?_;intro g d wz a8 l hG;obtain ⟨z,t,rfl,a1,b1,c1,d1,e1,f1,g1,O,D⟩:=l.st (a8 16 A_);obtain ⟨z',be,bz⟩:=hG 15 A_;obtain rfl:v15=_:=be;obtain rfl:z=z':=by injection bz
         obtain ⟨t1,ah,bf⟩:=hG 17 A_;obtain rfl:v17=_:=bf;obtain rfl:t=t1:=by injection ah
         obtain ⟨t2,bh,bg⟩:=hG 18 A_;obtain rfl:v18=_:=bg;obtain rfl:t=t2:=by injection bh
         clear hG a8;go_wp2;go_meet
         case rel=>exact ⟨z,t,_,_,_,_,_,_,_,rfl,rfl,rfl,l.an t rfl,O,D,l.b.pc⟩
        case rest=>
         clear B;obtain ⟨z,⟨C1,n1,er⟩,a1,b1,av,d1,e1,f1,g1,rfl,rfl,rfl,b0,O,D,A⟩:=hcut;obtain ⟨B,ar,HZ⟩:=eI A b0 O;clear A b0
         by_cases ak:er=0
         ·subst ak;obtain ⟨i,x,y',ah,bx,hU,_⟩:=ar.out.2 rfl;obtain rfl:n1=(i:Int)+1:=ah;have HU:=H_ hU;have ap:=H_ (show x_ wc (Sx S X R (some I)) a1 b1 av d1 e1 f1 g1 C1 from D.weak (fun _ _ h=>h.1));clear hU bx D;have D:=ap.out;obtain ⟨E1,u1,q1,E2,u2,q2,E3,u3,q3,E4,u4,q4,E5,u5,q5,E6,u6,q6,E7,u7,q7,rfl,rfl,rfl,rfl,rfl,rfl,rfl⟩:=x_.caps D;obtain ⟨o0,o1,o2,o3,o4,o5,o6⟩:=T_ HZ.out;clear D O
          go_wp2_with (refine Q_ rfl (.tmp 4) (.tmp 72) rfl rfl rfl rfl B.box rfl ?_)
          go_meet
          case rel=>exact ⟨i,_,_,_,_,_,_,_,C1,x,y',rfl,HU,B.store ar.out.1 ap⟩
         ·have d1:(er != 0)=true:=bne_iff_ne.2 ak;clear ak O D;go_wp2;go_roundw
          case rel=>exact ⟨k+1,by go_num,O_,_,_,_,_,_,_,_,_,B.out⟩
          case measure=>exact bV
      case rest=>
       clear B ag;obtain ⟨i,a,b,c,d,e,f,g,C,x,y,rfl,hU,A⟩:=hcut;obtain ⟨A1,m1,c1,rfl⟩:=A.at_.files.cap;obtain ⟨A2,c2,rfl,_,_⟩:=A.at_.frames.form;obtain ⟨A3,m3,c3,rfl⟩:=A.at_.zones.cap;obtain ⟨A4,m4,c4,rfl⟩:=A.at_.groups.cap;obtain ⟨A5,m5,c5,rfl⟩:=A.at_.lists.cap;obtain ⟨A6,m6,c6,rfl⟩:=A.at_.clocks.cap;obtain ⟨A7,m7,c7,rfl⟩:=A.at_.ptes.cap;obtain ⟨bb,o,rfl,a7,y0,y1,y2,y3,y4,y5,y6,y7,y8⟩:=FrA.cells A.at_.frames hU.fr;have cg:=bI hU.fr;have i2:(i:Int)<(C.frames.length:Int):=O_
       have i3:C.frames.length<=64:=A.inv.nr.2;have B:=H_ A;have HU:=H_ hU;clear A hU;obtain ⟨V,hV⟩:=bL wc;subst hV;have A:=B.out;obtain ⟨x0,x1,x2,x3,x4,x5,x6⟩:=T_ A.box;clear A
       go_upto_region 13 with fail
       go_cut [18] (fun s18 wx=>∃nd:Int,s18 = I_ nd/\0<=nd/\nd<=3/\wx.heap[bb]?=V.heap[bb]?/\PC F G Z S W w Wk bt X R (some I) (S_ A1 m1 c1) (S_ (some ⟨bb,o,none⟩) C.frames.length c2) (S_ A3 m3 c3) (S_ A4 m4 c4) (S_ A5 m5 c5) (S_ A6 m6 c6) (S_ A7 m7 c7) C wx)
       case first=>
        go_quiet (fail);go_wp2;go_meet
        case rel=>
         exact ⟨_,rfl,(bs_ (or3 HU.ok.pg.v HU.ok.reading)).1,(bs_ (or3 HU.ok.pg.v HU.ok.reading)).2,rfl,B.step (below_drewN B_ nq)⟩
       case rest=>
        clear B x0 x1 x2 x3 x4 x5 x6 y0 y1 y2 y3 y4 y5 y6 y8;obtain ⟨nd,rfl,n0,n3,ax,A⟩:=hcut;replace y7:=(g_ ax).trans y7;have B:=H_ A;clear A ax;have A:=B.out;obtain ⟨x0,x1,x2,x3,x4,x5,x6⟩:=T_ A.box;clear A
        go_upto_region 14 with fail
        go_cut [102] (fun s102 wx=>∃t:Bool,s102 = .bool t/\(t=true->1<=nd)/\PC F G Z S W w Wk bt X R (some I) (S_ A1 m1 c1) (S_ (some ⟨bb,o,none⟩) C.frames.length c2) (S_ A3 m3 c3) (S_ A4 m4 c4) (S_ A5 m5 c5) (S_ A6 m6 c6) (S_ A7 m7 c7) C wx)
        case first=>
         by_cases ab:nd=0
         ·have d1:(nd != 0)=false:=by simp [ab]
          clear ab;go_wp2;go_meet
          case rel=>exact ⟨_,rfl,(fun h=>by cases h),B.out⟩
         ·have d1:(nd != 0)=true:=bne_iff_ne.2 ab;have n1:1<=nd:=O_
          clear ab;go_wp2;go_meet
          case rel=>exact ⟨_,rfl,(fun _=>n1),B⟩
        case rest=>
         clear B x0 x1 x2 x3 x4 x5 x6 y7;obtain ⟨t,rfl,Y,A⟩:=hcut;have B:=H_ A;clear A
         cases t with
         | false=>
          go_wp2;go_roundw
          case rel=>exact ⟨k+1,by go_num,O_,_,_,_,_,_,_,_,_,B.out⟩
          case measure=>exact bV
         | true=>
          have n1:=Y rfl;clear Y;have A:=B.out;obtain ⟨x0,x1,x2,x3,x4,x5,x6⟩:=T_ A.box;clear A
          go_upto_region 16 with (first
           | (go_at_call 90;refine CM (rZ nd B.at_ B.inv.ok HU ⟨n1,n3⟩ B.fresh) ?_;rintro e w2 ⟨C1,er,a1,b1,av,d1,e1,f1,g1,aa,rfl,D,N⟩;obtain ⟨E1,u1,q1,E2,u2,q2,E3,u3,q3,E4,u4,q4,E5,u5,q5,E6,u6,q6,E7,u7,q7,rfl,rfl,rfl,rfl,rfl,rfl,rfl⟩:=x_.caps D;have a3:=H_ (B.step N))
           | (refine Q_ rfl (.tmp 4) (.tmp 108) rfl rfl rfl rfl a3.box rfl ?_))
          obtain ⟨c8,bv,bn⟩:=aa.used HU.out;have a5:=H_ (a3.store (B.inv.putP HU aa) D);clear B a3 D aa N x0 x1 x2 x3 x4 x5 x6;have B:=a5;clear a5;generalize w2.setRow X (D_ E1 u1 q1 E2 u2 q2 E3 u3 q3 E4 u4 q4 E5 u5 q5 E6 u6 q6 E7 u7 q7)=W3 at B;refine cQ 123 12 (fun i=>decide (i<=10)) [SK.eq (bK (S_ E1 u1 q1) (S_ E2 u2 q2) (S_ E3 u3 q3) (S_ E4 u4 q4) (S_ E5 u5 q5) (S_ E6 u6 q6) (S_ E7 u7 q7)),SK.eq (I_ ((i:Int)+1)),SK.eq (I_ (j:Int)),SK.eq (S_ (some ⟨I,0,none⟩) L.length cl),SK.eq (I_ (k:Int)),SK.eq (.pointer (some ⟨I,k,none⟩)),SK.eq (I_ (p:Int)),SK.s16,SK.ck2 F G Z,SK.ck2 F G Z,SK.ck1 F G Z,SK.int,SK.any] q_ q_ rfl (fun _=>trivial) B ?_;refine c_ rfl rfl (fun xw l E K H=>?_) (fun v0=>?_)
          ·have J:PC F G Z S W w Wk bt X R (some I) _ _ _ _ _ _ _ C1 xw/\_:=l;have N:=J.1.box;obtain ⟨x0,x1,x2,x3,x4,x5,x6⟩:=T_ N;go_simp;exact H _ _ l K_ rfl
          simp only[ly];refine qP fun v1=>qP fun v2=>?_;simp only[ly];refine qP fun v3=>qP fun v4=>qP fun v5=>?_;simp only[ly];refine c_ rfl rfl (fun xw l E K H=>?_) (fun v6=>?_)
          ·obtain rfl:v5=_:=E 5 q_;have J:PC F G Z S W w Wk bt X R (some I) _ _ _ _ _ _ _ C1 xw/\_:=l;have l0:=(g_ (J.1.kk I rfl).2.2.2).trans (ae k p au);go_simp;exact H _ _ l K_ rfl
          simp only[ly];refine c_ rfl rfl (fun xw l E K H=>?_) (fun v7=>?_)
          ·have J:PC F G Z S W w Wk bt X R (some I) _ _ _ _ _ _ _ C1 xw/\_:=l;obtain rfl:v2=_:=E 2 q_;obtain rfl:v6=_:=E 6 q_;go_simp
           go_at_call 165
           refine CM (dS_ (j:Int) (p:Int) xw ⟨O_,by have:=J.1.inv.few;omega⟩ ⟨O_,O_⟩) ?_;rintro e w1 ⟨s,hs,rfl,N⟩;exact H _ _ ⟨J.1.step N,u_ J.2 (X_ N _)⟩ (r_.of_below N) ⟨s,rfl,hs⟩
          simp only[ly];refine c_ rfl rfl (fun xw l E K H=>?_) (fun v8=>?_)
          ·have J:PC F G Z S W w Wk bt X R (some I) _ _ _ _ _ _ _ C1 xw/\_:=l;obtain rfl:v0=_:=E 0 q_;obtain rfl:v1=_:=E 1 q_;obtain ⟨s,M,hs⟩:=E 7 q_;obtain rfl:v7=_:=M;go_simp
           go_at_call 91
           refine CM (wI C1 i c8 _ _ _ _ _ _ _ (Sx S X R (some I)) xw J.1.at_ J.1.inv bv bn J.1.fresh s true hs) ?_;rintro e w1 ⟨C2,a6,a2,b2,a0,d2,e2,f2,g2,U,rfl,P,N⟩;exact H _ _ ⟨J.1.step N,u_ J.2 (X_ N _)⟩ (r_.of_below N) ⟨C2,a2,b2,a0,d2,e2,f2,g2,a6,rfl,U,P⟩
          simp only[ly];refine c_ rfl rfl (fun xw l E K H=>?_) (fun v9=>?_)
          ·obtain ⟨C2,a2,b2,a0,d2,e2,f2,g2,a6,M,U,P⟩:=E 8 q_;obtain rfl:v8=_:=M;go_simp;exact H _ _ l K_ ⟨C2,a2,b2,a0,d2,e2,f2,g2,a6,rfl,U,P⟩
          simp only[ly];refine c_ rfl rfl (fun xw l E K H=>?_) (fun v10=>?_)
          ·obtain ⟨C2,a2,b2,a0,d2,e2,f2,g2,a6,M,U,P⟩:=E 9 q_;obtain rfl:v9=_:=M;go_simp;exact H _ _ l K_ ⟨C2,a2,b2,a0,d2,e2,f2,g2,rfl,U,P⟩
          simp only[ly];refine Z_ rfl (fun w=>r_.refl w) (fun xw E K H=>?_) (fun v11=>?_)
          ·obtain ⟨C2,a2,b2,a0,d2,e2,f2,g2,a6,M,U,P⟩:=E 9 q_;obtain rfl:v9=_:=M;go_simp;exact H _ ⟨_,rfl⟩
          simp only[ly];refine z_ (fun xw l E K H=>?_) (fun v12=>?_)
          ·obtain ⟨C2,a2,b2,a0,d2,e2,f2,g2,M,U,P⟩:=E 10 q_;obtain rfl:v10=_:=M;have J:PC F G Z S W w Wk bt X R (some I) _ _ _ _ _ _ _ C1 xw/\_:=l;obtain ⟨D1,r1,s1,D2,r2,s2,D3,r3,s3,D4,r4,s4,D5,r5,s5,D6,r6,s6,D7,r7,s7,rfl,rfl,rfl,rfl,rfl,rfl,rfl⟩:=x_.caps P;refine aE rfl 30 (.tmp 4) (.tmp 120) rfl rfl (D_ D1 r1 s1 D2 r2 s2 D3 r3 s3 D4 r4 s4 D5 r5 s5 D6 r6 s6 D7 r7 s7) rfl rfl 30 _ J.1.box cD rfl (fQ) ?_;exact H undef _ ⟨_,_,_,_,_,_,_,_,J.1.store U P⟩ (r_.of_setRow _ _ _ (fun h=>h.2.1 rfl)) trivial
          simp only[ly];refine G_ ?_;intro wz hD hG;clear hG;go_wp2;go_roundw
          case rel=>exact ⟨k+1,by go_num,O_,hD⟩
          case measure=>exact bV
   ·obtain rfl:k=L.length:=O_
    have A:=B.out;obtain ⟨x0,x1,x2,x3,x4,x5,x6⟩:=T_ A.box;clear A
    go_wp2_with (refine Q_ rfl (.tmp 8) (.tmp 122) rfl rfl rfl rfl B.res rfl ?_)
    show bodyPost prog f163 _ _ _ _
    refine bodyPost_ret (jT rfl rfl (setRow_heap _ _ _ _ _ _ B.res)) rfl ?_;obtain ⟨q1,q2,q3⟩:=B.done;exact ⟨C,_,_,_,_,_,_,_,B.inv,rfl,q1,q2,q3⟩
end
end Go.Proofs.YtehfhnbpnaiogaaGreatDoor
