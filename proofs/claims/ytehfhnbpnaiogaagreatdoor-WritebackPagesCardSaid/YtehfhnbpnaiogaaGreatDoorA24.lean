/-
  Lemmas and contracts for the laws of this seat, part 24; several texts joined by a program.
-/
import Derived.Test.YtehfhnbpnaiogaaGreatDoorA23
import Derived.Test.YtehfhnbpnaiogaaGreatDoorA00
namespace Go.Proofs.YtehfhnbpnaiogaaGreatDoor
set_option linter.all false
set_option maxRecDepth 100000
set_option maxHeartbeats 16000000
open Go.RowKit Go.Proofs.Tryz IntKind
variable {C:Ck} {F G Z i id j z:Nat} {P:Program} {Q:Exit->Act->World->Prop} {S:Nat->Prop} {W w w':World} {l:List Oper} {r:Option Nat} {v:Value}
section
variable {F G Z:Nat}
abbrev fQ_ (F G Z:Nat) (S:Nat->Prop) (w:World) (e:Ending) (w':World):Prop:=co_ (fun C'=>Inv F G Z C') S w e w'
def co_.inv {P:Ck->Prop} {e:Ending} (hP:∀C',P C'->Inv F G Z C') (h:co_ P S w e w'):fQ_ F G Z S w e w':=by let⟨C',er,a,b,c,d,e',f,g,h1,h2,h3,h4⟩:=h;exact ⟨C',er,a,b,c,d,e',f,g,hP _ h1,h2,h3,h4⟩
def uH_ (F G Z:Nat) (S:Nat->Prop) (w:World) (e:Ending) (w':World):Prop:=∃C' err a b c d e' f g rq,Inv F G Z C'/\e = .returned (.tuple #[ckV a b c d e' f g,rq,I_ err])/\w_ w' S a b c d e' f g C'/\s_ w w'
section
variable (C:Ck) (i:Nat) (x:Fr) (a b c d e f g:Value) (S:Nat->Prop) (w:World) (h:w_ w S a b c d e f g C) (hI:Inv F G Z C) (hx:C.frames[i]?=some x) (hf:x.file≠-1) (hS:∀z,w.heap.size<=z->S z)
include h hI hx hf hS
def sW_ (n:Int) (hn:-1<=n/\n<=1):C_ 167 #[ckV a b c d e f g,I_ ((i:Int)+1),I_ n] w (fQ_ F G Z S w):=by let⟨j,y,hu,_⟩:=hI.used hx hf;exact (s7_ n h hI.ok hu O_ hS).mono fun e w' he=>co_.inv (fun C'=>hI.putP hu) he
def lC_ (n:Int) (hn:1<=n/\n<=3):C_ 90 #[ckV a b c d e f g,I_ ((i:Int)+1),I_ n] w (fQ_ F G Z S w):=by let⟨j,y,hu,_⟩:=hI.used hx hf;exact (ho_ n h hI.ok hu hn hS).mono fun e w' he=>co_.inv (fun C'=>hI.putP hu) he
def i2_ (t:ByteArray) (ok:Bool) (ht:t.size=16):C_ 91 #[ckV a b c d e f g,I_ ((i:Int)+1),.string t,.bool ok] w (fQ_ F G Z S w):=by let⟨j,y,hu,_⟩:=hI.used hx hf;exact (nY_ t ok h hI.ok hu ht hS).mono fun e w' he=>co_.inv (fun C'=>hI.putP hu) he
def uG_ (n:Int):C_ 17 #[ckV a b c d e f g,I_ ((i:Int)+1),I_ n] w (fQ_ F G Z S w):=by let⟨j,y,hu,_⟩:=hI.used hx hf;exact (tZ_ n h hI.ok hu (hI.file j y hu.fl).err hS).mono fun e w' he=>co_.inv (fun C'=>hI.putQ hu) he
def rq_:C_ 11 #[ckV a b c d e f g,I_ ((i:Int)+1)] w (uH_ F G Z S w):=by let⟨j,y,k,_⟩:=hI.used hx hf;let⟨s,q,l⟩:=(hI.file j y k.fl).slot;refine (rZ_ s h hI.ok k q l hI.pok hS).mono fun e w' m=>?_;let⟨o,er,a,b,c,d,p,f,g,rq,h1,h2,h3,n⟩:=m;exact ⟨o,er,a,b,c,d,p,f,g,rq,hI.putB k h1,h2,h3,n⟩
def r4_:C_ 166 #[ckV a b c d e f g,I_ ((i:Int)+1)] w (fQ_ F G Z S w):=by let⟨j,y,m,_⟩:=hI.used hx hf;let⟨t,k,l,r,z,n,p,o⟩:=hI.goneH m;refine (rW_ n h hI.ok m p o hS).mono fun e w' q=>co_.inv (fun u s=>?_) q;rcases s with rfl | ⟨v,zz,hv,rfl⟩;{exact hI};exact hI.gone m p hv _ (by rw [sL_];exact hI.nk)
end
def dX_ (hI:Inv F G Z C) (hj:j<F):∃y sz,C.files[j]?=some y/\y.size=((sz:Nat):Int)/\sz<=128:=by
 have hl:j<C.files.length:=by rw [hI.nf];exact hj
 let⟨sz,h1,h2⟩:=(hI.file j _ (gE_ hl)).size;exact ⟨_,sz,gE_ hl,h1,h2⟩
def InQ (F G Z:Nat) (j p:Nat) (C':Ck) (n err:Int):Prop:=Inv F G Z C'/\(err=0->∃(i:Nat) (x:Fr) (y':Fl),n=(i:Int)+1/\C'.files[j]?=some y'/\FrU C' i x j y'/\x.page=p)
section
variable (C:Ck) (j:Nat) (a b c d e f g:Value) (S:Nat->Prop) (w:World) (h:w_ w S a b c d e f g C) (hI:Inv F G Z C) (hj:j<F) (hS:∀z,w.heap.size<=z->S z)
include h hI hj hS
def rQ_ (off n:Nat) (h2:off+n<=128):C_ 38 #[ckV a b c d e f g,I_ j,I_ off,I_ n] w (fQ_ F G Z S w):=by let⟨y,sz,hy,hsz,_⟩:=dX_ hI hj;exact si_ j off n sz y h hI hy hsz h2 hS
def mI_ (sn:Nat) (h2:sn<=128):C_ 35 #[ckV a b c d e f g,I_ j,I_ sn] w (fQ_ F G Z S w):=by let⟨y,sz,hy,hsz,_⟩:=dX_ hI hj;exact ma_ j sn sz y h hI hy hsz h2 hS
def rE_ (pr pa p:Nat) (wr0:Bool) (hpr:pr<8) (hpa:pa<64) (hp8:p<8):C_ 168 #[ckV a b c d e f g,I_ pr,I_ pa,I_ j,I_ p,.bool wr0] w (fQ_ F G Z S w):=by let⟨y,sz,hy,hsz,_⟩:=dX_ hI hj;exact rP_ pr pa j p sz y wr0 h hI hy hsz hpr hpa hp8 hS
def pE_ (off:Nat) (s:ByteArray) (h1:1<=s.size) (h2:off+s.size<=128):C_ 34 #[ckV a b c d e f g,I_ j,I_ off,.string s] w (fQ_ F G Z S w):=by let⟨y,sz,o,i,_⟩:=dX_ hI hj;refine (kJ_ C j off sz y s a b c d e f g S w h hI o i h1 h2 hS).mono fun e w' k=>?_;let⟨m,er,a,b,c,d,n,f,g,h1,h2,h3,l⟩:=k;exact ⟨m,er,a,b,c,d,n,f,g,h1.1,h2,h3,l⟩
def kD_ (p t k:Nat) (u:Bool) (hp:p<8) (ht:t<G) (hk:k<Z):C_ 72 #[ckV a b c d e f g,I_ j,I_ p,I_ t,I_ k,.bool u] w (sM_ (InQ F G Z j p) S w):=by
 let⟨y,sz,m,z,_⟩:=dX_ hI hj;have l:t<C.lists.length:=by rw [hI.nl];exact ht
 have o:t<C.groups.length:=by rw [hI.ng];exact ht
 have hc:t<C.clocks.length:=by rw [hI.nk];exact ht
 refine (if_ C j p t k u y _ _ _ a b c d e f g S w h hI m hp (gE_ l) (gE_ o) (gE_ hc) (by rw [hI.nz];exact hk) hS).mono fun e w' q=>?_;let⟨B,n,er,a,b,c,d,J,f,g,h1,h2,h3,A⟩:=q;let⟨E,I⟩:=h1.inv hI m hp ht (gE_ l) (gE_ o);refine ⟨B,n,er,a,b,c,d,J,f,g,⟨E,fun h0=>?_⟩,h2,h3,A⟩;let⟨i,x,s,D,r,H,v,_⟩:=I h0;exact ⟨i,x,s,D,r,H,v⟩
end
end
section
variable {τ:Type} {S:Nat->Prop}
abbrev GH (τ:Type):=Option Nat × Option τ
def KG (S:Nat->Prop) (g:GH τ) (w:World) (g':GH τ) (w':World):Prop:=
 w.heap.size<=w'.heap.size/\(∀z,S z->g'.1≠some z->z<w.heap.size->w'.heap[z]?=w.heap[z]?)/\(g'.1=g.1\/g.1=none/\∀z,g'.1=some z->w.heap.size<=z)/\(g'.2=g.2\/g.2=none)
def KG.of_ks {g:GH τ} (h:r_ S w w'):KG S g w g w':=⟨h.1,fun z hz _ hl=>h.2 z hz hl,.inl rfl,.inl rfl⟩
def KG.of_below {g:GH τ} (h:s_ w w'):KG S g w g w':= .of_ks (.of_below h)
def KG.ans {t:τ} (h:s_ w w'):KG S (r,none) w (r,some t) w':=⟨h.size,fun z hz _ hl=>h.block z hl,.inl rfl,.inr rfl⟩
def KG.alloc {r:Option τ} (o:Obj):KG S (none,r) w (some w.heap.size,r) (w.alloc o):=⟨A_,fun z _ _ hl=>(bR_ (w) w |>.alloc (lR_ _) o).block z hl,.inr ⟨rfl,fun z hz=>by injection hz with hz;omega⟩,.inl rfl⟩
def KG.store {r:Option τ} (cs:Array Value):KG S (some Z,r) w (some Z,r) (w.setRow Z cs):=⟨by simp [World.setRow],fun z _ hn _=>setRow_other _ _ _ _ (fun e=>hn (by rw [e])),.inl rfl,.inl rfl⟩
def Sg (S:Nat->Prop) (g:GH τ) (z:Nat):Prop:=S z/\g.1≠some z
def KG.s {g g':GH τ} (h:KG S g w g' w'):r_ (Sg S g') w w':=⟨h.1,fun z hz hl=>h.2.1 z hz.1 hz.2 hl⟩
def KG.up {g g':GH τ} (h:KG S g w g' w'):∀z,z<w.heap.size->Sg S g z->Sg S g' z:=fun z hl hz=>⟨hz.1,fun e=>by
 rcases h.2.2.1 with h1 | ⟨h1,h2⟩
 ·exact hz.2 (h1 ▸ e)
 ·have:=h2 z e;omega⟩
structure SG (S:Nat->Prop) (τ:Type) where
 p:GH τ->Value->World->Prop
 st:∀v g w g' w',KG S g w g' w'->p g v w->p g' v w'
def SG.any:SG S τ:=⟨fun _ _ _=>True,fun _ _ _ _ _ _ h=>h⟩
def SG.eq (x:Value):SG S τ:=⟨fun _ v _=>v=x,fun _ _ _ _ _ _ h=>h⟩
def SG.box:SG S τ:=⟨fun g v _=>∃z,v = P_ z/\g.1=some z,fun _ g _ g' _ h ⟨z,h1,h2⟩=>⟨z,h1,by
 rcases h.2.2.1 with h3 | ⟨h3,_⟩
 ·rw [h3];exact h2
 ·rw [h3] at h2;cases h2⟩⟩
structure RQ (τ:Type) where
 q:World->(Nat->Prop)->τ->Value->Prop
 st:∀w w' S t v,r_ S w w'->q w S t v->q w' S t v
 wk:∀w S S' t v,(∀b,b<w.heap.size->S b->S' b)->q w S t v->q w S' t v
def SG.res (R:RQ τ):SG S τ where
 p g v w:=∃t,g.2=some t/\R.q w (Sg S g) t v
 st v g w g' w' h:=fun ⟨t,h1,h2⟩=>by
  refine ⟨t,?_,R.st _ _ _ _ _ h.s (R.wk _ _ _ _ _ h.up h2)⟩
  rcases h.2.2.2 with h3 | h3
  ·rw [h3];exact h1
  ·rw [h3] at h1;cases h1
def RQ.flat (f:τ->Value):RQ τ:=⟨fun _ _ t v=>v=f t,fun _ _ _ _ _ _ h=>h,fun _ _ _ _ _ _ h=>h⟩
def GG (ls:List (SG S τ)) (g:GH τ) (j:Nat) (v:Value) (w:World):Prop:=(ls.getD j SG.any).p g v w
def GG.keep {ls:List (SG S τ)} {g g':GH τ} (h:KG S g w g' w') (j:Nat) (v:Value) (hg:GG ls g j v w):GG ls g' j v w':=(ls.getD j SG.any).st v g w g' w' h hg
structure CG (bx cl s:Nat) (B:World->Prop) (N:Nat) (o:Obj) (I:τ->Prop) (D:τ->World->Nat->Prop) (g:GH τ) (d:Nat->Bool) (x:World):Prop where
 b:B x
 nb:d bx=false->g.1=none
 nc:d cl=false->g.2=none
 bo:∀z,g.1=some z->N<=z/\z<x.heap.size/\(d s=false->x.heap[z]?=some o)
 an:∀t,g.2=some t->I t
 st:d s=true->∃z t,g=(some z,some t)/\D t x z
def nds {a p:Bool} (hp:a=true->p=false) (h:p=true):a=false:=by cases ha:a with|false=>rfl|true=>rw [hp ha] at h;cases h
def U_ {d:Nat->Bool} (h:(j == i)=false):ac_ d i j=d j:=by unfold ac_;rw [h,Bool.or_false]
def bi_ (d:Nat->Bool) (i:Nat):ac_ d i i=true:=by simp [ac_]
section
variable {bx cl s i:Nat} {B:World->Prop} {N:Nat} {o:Obj} {I:τ->Prop} {D:τ->World->Nat->Prop} {g:GH τ} {d:Nat->Bool} {x y:World}
def CG.pure (h:CG bx cl s B N o I D g d x) (i:Nat) (h1:(bx == i)=false) (h2:(cl == i)=false) (h3:(s == i)=false):CG bx cl s B N o I D g (ac_ d i) x:=
 ⟨h.b,fun e=>h.nb (by rwa [U_ h1] at e),fun e=>h.nc (by rwa [U_ h2] at e),fun z hz=>by rw [U_ h3];exact h.bo z hz,h.an,fun e=>h.st (by rwa [U_ h3] at e)⟩
def CG.grown (h:CG bx cl s B N o I D g d x) (i:Nat) (h1:(bx == i)=false) (h2:(cl == i)=false) (h3:(s == i)=false) (hd:d s=false) (hg:x.grownBy y r) (hr:∀k,r=some k->k<N) (hB:B y):CG bx cl s B N o I D g (ac_ d i) y:=
 ⟨hB,fun e=>h.nb (by rwa [U_ h1] at e),fun e=>h.nc (by rwa [U_ h2] at e),fun z c=>by
  let⟨f,a,b⟩:=h.bo z c;exact ⟨f,lL_ a hg.size,fun _=>(hg.block z a (fun j=>by have:=hr z j.symm;omega)).trans (b hd)⟩,h.an,fun e=>by rw [U_ h3,hd] at e;cases e⟩
def CG.step (h:CG bx cl s B N o I D g d x) (i:Nat) (h1:(bx == i)=false) (h2:(cl == i)=false) (h3:(s == i)=false) (hd:d s=false) (hb:s_ x y) (hB:B y):CG bx cl s B N o I D g (ac_ d i) y:=
 h.grown i h1 h2 h3 hd (ae_ hb none) (fun k hk=>by cases hk) hB
def CG.boxed {r:Option τ} (h:CG bx cl s B N o I D (none,r) d x) (h2:(cl == bx)=false) (h3:(s == bx)=false) (hd:d s=false) (hN:N<=x.heap.size) (o':Obj) (ho:(x.alloc o').heap[x.heap.size]?=some o) (hB:B (x.alloc o')):CG bx cl s B N o I D (some x.heap.size,r) (ac_ d bx) (x.alloc o'):=
 ⟨hB,fun e=>(by rw [bi_] at e;cases e),fun e=>h.nc (by rwa [U_ h2] at e),fun z hz=>by
  injection hz with hz
  subst hz;exact ⟨hN,A_,fun _=>ho⟩,h.an,fun e=>by rw [U_ h3,hd] at e;cases e⟩
def CG.called {t:τ} (h:CG bx cl s B N o I D (r,none) d x) (h1:(bx == cl)=false) (h3:(s == cl)=false) (hd:d s=false) (hb:s_ x y) (hB:B y) (hI:I t):CG bx cl s B N o I D (r,some t) (ac_ d cl) y:=
 ⟨hB,fun e=>h.nb (by rwa [U_ h1] at e),fun e=>(by rw [bi_] at e;cases e),fun z f=>by
  let⟨g,b,c⟩:=h.bo z f;exact ⟨g,lL_ b hb.size,fun _=>(hb.block z b).trans (c hd)⟩,fun i a=>by injection a with a;subst a;exact hI,fun e=>by rw [U_ h3,hd] at e;cases e⟩
def CG.stored {t:τ} {cs:Array Value} (h:CG bx cl s B N o I D (some z,some t) d x) (hB:B (x.setRow z cs)) (hD:D t (x.setRow z cs) z):CG bx cl s B N o I D (some z,some t) (ac_ d s) (x.setRow z cs):=
 ⟨hB,fun e=>absurd (h.nb (by unfold ac_ at e;simp at e;exact e.1)) A_,fun e=>absurd (h.nc (by unfold ac_ at e;simp at e;exact e.1)) A_,fun b a=>by
  let⟨f,c,_⟩:=h.bo b a;exact ⟨f,by simpa [World.setRow] using c,fun e=>(by rw [bi_] at e;cases e)⟩,h.an,fun _=>⟨z,t,rfl,hD⟩⟩
end
def fI_ {A:Act} (m s:Nat) (pl:Nat->Bool) (C:GH τ->(Nat->Bool)->World->Prop) (ls:List (SG S τ))
  (hm:P.follows .mixedOrders=true) (hB:fk_ l.toArray m s pl=true) (hs:A.tmps.size=m) (hC:C (none,none) (fun _=>false) {W with drawn:=W.drawn+1}) (hs0:(List.range l.toArray.size).all (fun i=>(l.toArray[i]?).all (fun o=>o.dst.isSome)||i == s)=true) (hs1:∀g w,GG ls g s undef w)
  (h:bG_ P l.toArray C (GG ls) s pl (fun a'=>∀g d w',(∀j,j<l.toArray.size->d j=true)->C g d w'->(∀j,j<l.toArray.size->GG ls g j (cv_ l.toArray a' j) w')->wpList P l.toArray Q [] a' w') 0 l A):(Code.region id l.toArray true).wp P Q A W:=
 au_ m s pl C (GG ls) (none,none) hm hB hs hC (fun i o a b g v w f=>by
  have c:i<l.toArray.size:=(Array.getElem?_eq_some_iff.1 a).1;have:=List.all_eq_true.1 hs0 i (List.mem_range.2 c);rw [a] at this;simp [b] at this;subst this;exact hs1 g w) h
end
section
def ue_ (l:List Int) (S:Nat->Prop) (w:World) (e:Ending) (w':World):Prop:=∃v,e = .returned v/\LO Z_ 3 w' (w) S v l/\s_ w w'
def rT_ (off n:Nat) (S:Nat->Prop) (w:World) (h1:1<=n) (h2:off+n<=128):C_ 88 #[I_ off,I_ n] w (ue_ (aq_ off n) S w):=by have p:=fun w'=>em_ (off:Int) (n:Int) w' O_ O_ O_ O_;have G:¬((n:Int)<1):=O_;have x:((off:Int):Int).tdiv 16=((off / 16:Nat):Int):=(by rw [tv_ O_];rfl);have t:(off:Int) / 16=((off / 16:Nat):Int):=(by rfl);obtain ⟨a,q,F,C⟩:∃a:Nat,off / 16=a/\a*16<=off/\off<a*16+16:=⟨off / 16,rfl,O_,O_⟩;have D:=H_ (show aq_ off n=pgL a ((off+n+15) / 16 - a) by rw [<-q];rfl);rw [q] at x t;clear q;go_enter func88,ntmps88;go_upto_region 5 with (go_at_call 93;refine CM (p _) ?_;rintro e w1 ⟨rfl,rfl⟩);clear x t;go_loopw [5,6] (fun u i wx=>∃k:Nat,i = I_ ((a+k:Nat):Nat)/\k<=9/\(k=0\/(a+k)*16<off+n+16)/\LO Z_ 3 wx (w) S u (pgL a k)/\s_ w wx) (fun _ i _=>100 - (intOf i).toNat);{exact ⟨0,rfl,O_,.inl rfl,LO.nil _ _ _ _ _,bR_ _ _⟩};obtain ⟨k,rfl,H,z,y,m⟩:=hrel;have r:=H_ y;have o:=H_ m;clear y m;by_cases l:(a+k)*16<off+n;{have g:=H_ (lh_ a k);let⟨j,f⟩:=nm_ (a+k);rw [<-f] at g l ⊢;have c:=H_ f;have A:j<=8:=O_;have B:((j:Int)*16)<(off:Int)+n:=O_;clear f;go_wp2_with (at_builtin;(refine Q_ bp_ rfl (.tmp 25) (.tmp 27) rfl S rfl (r.alloc _) (by have:=o.size;simp;omega) (by rw [hN_];omega) #[I_ j] rfl (m_ _ _ _ rfl) (j:Int) rfl ?_);intro v4 w4 d s v);go_roundw;{exact ⟨k+1,by have:=c.out;go_num,by have:=c.out;omega,by have:=c.out;omega,by rw [g.out];exact d,(b_ o.out _).grown s (b_ o.out _).size (fun b m=>(r.own m).1)⟩};exact MS_};have E:=H_ (show aq_ off n=pgL a k by rw [D.out];congr 1;omega);let⟨j,f⟩:=nm_ (a+k);rw [<-f] at l ⊢;have B:¬((j:Int)*16)<(off:Int)+n:=O_;have A:j<=20:=O_;clear f;go_wp2;go_ret;exact ⟨_,rfl,by rw [E.out];exact r,o.out⟩
section
variable {F G Z:Nat} {S:Nat->Prop} {W w Wk wx wy:World} {bt X R N:Nat} {K:Option Nat} {a b c d e f g:Value} {C:Ck}
structure PB (F G Z:Nat) (S:Nat->Prop) (W w Wk:World) (bt X R N:Nat) (K:Option Nat) (a b c d e f g:Value) (C:Ck) (wx:World):Prop where
 pc:PC F G Z S W w Wk bt X R K a b c d e f g C wx
 old:w_ wx (fun z=>Sx S X R K z/\z<N) a b c d e f g C
 xn:X<N
 rn:R<N
 kn:∀z,K=some z->z<N
 wn:w.heap.size<=N
 nn:N<=wx.heap.size
def PC.pb (h:PC F G Z S W w Wk bt X R K a b c d e f g C wx):PB F G Z S W w Wk bt X R (wx) K a b c d e f g C wx:=
 ⟨h,h.at_.weak (fun z hz h=>⟨h,hz⟩),l_ h.box,l_ h.res,fun z hz=>(h.kk z hz).1,h.gb.size,lR_ _⟩
def PB.step (h:PB F G Z S W w Wk bt X R N K a b c d e f g C wx) (hb:s_ wx wy):PB F G Z S W w Wk bt X R N K a b c d e f g C wy:=
 ⟨h.pc.step hb,h.old.step hb,h.xn,h.rn,h.kn,h.wn,lT_ h.nn hb.size⟩
def PB.aside (h:PB F G Z S W w Wk bt X R N K a b c d e f g C wx) (hz:N<=z) (cs:Array Value):PB F G Z S W w Wk bt X R N K a b c d e f g C (wx.setRow z cs):=by have k:=h.old.kept (r_.of_setRow wx z cs (fun q=>by omega));have h1:=h.xn;have h2:=h.rn;have h3:=h.wn;have i:=h.pc;refine ⟨⟨i.inv,k.weak (fun z _ hz=>hz.1),(setRow_other _ _ _ _ O_).trans i.box,(setRow_other _ _ _ _ O_).trans i.res,i.tp.gb (ci_ _ _ _) (by have:=i.bw;omega),jZ_ i.gb O_,fun l j=>?_,i.xw,i.rw_,i.bw,i.xr,i.nS,i.fS⟩,k,h1,h2,h.kn,h3,by simpa [World.setRow] using h.nn⟩;let⟨p,o,n,m⟩:=i.kk l j;have:=h.kn l j;exact ⟨by simpa [World.setRow] using p,o,n,(setRow_other _ _ _ _ O_).trans m⟩
end
def nd_ {W1 wx:World} {u:Value} {L:List Int} (ho:LO Z_ 3 wx (W1) (fun z=>W1.heap.size<=z) u L) (hl:1<=L.length) (ha:∀z ∈ L,0<=z/\z<8) (hn:L.length<=20) (hb:s_ W1 wx) :
  ∃(gl cl:Nat) (L:List Int),u = S_ (some ⟨gl,0,none⟩) L.length cl/\W1<=gl/\gl<wx/\(∀(k:Nat) (z:Int),L[k]?=some z->wx.cell? ⟨gl,k,none⟩=some (I_ z))/\(∀z ∈ L,0<=z/\z<8)/\L.length<=20/\s_ W1 wx:=by obtain ⟨gl,cl,rfl,_,_,h1,b⟩:=ho.lw hl;refine ⟨gl,cl,L,rfl,h1,b.lt,fun k z c=>?_,ha,hn,hb⟩;let⟨r,a,hc⟩:=b.at_ c;have a:r=[I_ z]:=a;subst a;have:=hc 0 _ rfl;rw [Nat.mul_one,Nat.add_zero] at this;exact this
def RQ.ck3:RQ (Ck × Int × Int):=⟨fun w S t v=>∃a b c d e f g,v = .tuple #[ckV a b c d e f g,I_ t.2.1,I_ t.2.2]/\w_ w S a b c d e f g t.1,fun _ _ _ _ _ hk ⟨a,b,c,d,e,f,g,h1,h2⟩=>⟨a,b,c,d,e,f,g,h1,h2.kept hk⟩,fun _ _ _ _ _ hS ⟨a,b,c,d,e,f,g,h1,h2⟩=>⟨a,b,c,d,e,f,g,h1,h2.weak hS⟩⟩
def RQ.ck {τ:Type} (f0:τ->Ck):RQ τ:=⟨fun w S t v=>∃a b c d e f g,v=ckV a b c d e f g/\w_ w S a b c d e f g (f0 t),fun _ _ _ _ _ hk ⟨a,b,c,d,e,f,g,h1,h2⟩=>⟨a,b,c,d,e,f,g,h1,h2.kept hk⟩,fun _ _ _ _ _ hS ⟨a,b,c,d,e,f,g,h1,h2⟩=>⟨a,b,c,d,e,f,g,h1,h2.weak hS⟩⟩
def nF_ {a:Int} (ha:0<=a/\a<=3):0<=bits .andNot .i64 3 a/\bits .andNot .i64 3 a<=3:=by obtain rfl | rfl | rfl | rfl:a=0\/a=1\/a=2\/a=3:=O_;all_goals decide
def la_.used {C':Ck} {x:Fr} {y:Fl} (h:la_ C i j x y C') (hu:FrU C i x j y):∃x2,C'.frames[i]?=some x2/\x2.file≠-1:=by rcases h with rfl | ⟨x',_,h2,_,_,rfl⟩;{exact ⟨x,hu.fr,by rw [hu.ix];omega⟩};exact ⟨x',as_ hu.fr,by rw [h2,hu.ix];omega⟩
end
section
structure Pl where
 dev:Int
 slot:Int
def Pl.row (x:Pl):List Value:=[I_ x.dev,I_ x.slot]
def PlR:RR Pl 2:=RR.flat Pl.row (fun a=>⟨rfl,fun u hu=>by
 simp only[Pl.row,mC_,List.not_mem_nil,or_false] at hu
 rcases hu with rfl | rfl <;> rfl⟩)
structure kG_ (L:List Pl):Prop where
 each:∀x ∈ L,0<=x.dev/\x.dev<4/\0<=x.slot/\x.slot<7
 pos:1<=L.length
 few:L.length<=8
 dup:∀(i k:Nat) (x y:Pl),k<i->L[i]?=some x->L[k]?=some y->y.dev≠x.dev\/y.slot≠x.slot
def PlA.cells {A:Option Addr} {n cap:Nat} {L:List Pl} (h:LA PlR w S (S_ A n cap) L) {x:Pl} (hi:L[i]?=some x):∃b o,A=some ⟨b,o,none⟩/\b<w.heap.size/\w.cell? ⟨b,o+i*2,none⟩=some (I_ x.dev)/\w.cell? ⟨b,o+i*2+1,none⟩=some (I_ x.slot):=by let⟨b,o,cap',r,hv,c1,c2,hb,hS,hp,hc⟩:=h.at_ hi;injection hv with e1 _ _;have hp:r=x.row:=hp;subst hp;exact ⟨b,o,e1,hb,hc 0 _ rfl,hc 1 _ rfl⟩
def pe_ {L:List Pl} (h:LA PlR w S v L) (ok:kG_ L):C_ 81 #[v] w (aO_ true w):=by obtain ⟨A,cap,rfl,F,u⟩:=h.form;let⟨f,W,l2,d⟩:=ok;let⟨H,R,G⟩:=h3_ h f d;have n1:(1:Int)<=(L.length:Int):=O_;have n2:(L.length:Int)<=8:=O_;have s:=fun w'=>m0_ w';unfold maxLen at u;clear h f d;go_enter func81,ntmps81;go_wp2;go_loopw [3,4] (fun i _ wx=>∃k:Nat,i = I_ k/\k<=L.length/\s_ w wx) (fun i _ _=>L.length - (intOf i).toNat);{exact ⟨0,rfl,O_,bR_ _ _⟩};obtain ⟨k,rfl,hk,g⟩:=hrel;have a:=H_ g;clear g;by_cases r:k<L.length;{obtain ⟨x,m⟩:∃x,L[k]?=some x:=⟨_,gE_ r⟩;obtain ⟨b,o,rfl,N,c0,c1⟩:=PlA.cells (H.step a.out) m;let⟨I,C,Q,D⟩:=R.out x (mG_ m);have j:=H_ m;have M:(k:Int)<L.length:=O_;have J:decide (x.dev<0)=false:=dF O_;have K:decide (4<=x.dev)=false:=dF O_;have E:decide (x.slot<0)=false:=dF O_;have P:decide (7<=x.slot)=false:=dF O_;clear m;go_upto_region 4 with fail;go_quiet ((go_at_call 146;exact Calls.quiet_of_eq (s _)));have l:=H_ (below_drewN a.out nq);clear a J K E P I C Q D c0 c1;go_wp2;go_loopw [4] (fun i wx=>∃q:Nat,i = I_ q/\q<=k/\s_ w wx) (fun i _=>k - (intOf i).toNat);{exact ⟨0,rfl,O_,l.out⟩};obtain ⟨q,rfl,Y,g⟩:=hrel;have a:=H_ g;clear g l;by_cases t:q<k;{obtain ⟨y,n⟩:∃y,L[q]?=some y:=⟨_,gE_ O_⟩;let⟨b1,o1,e1,z,c0,c1⟩:=PlA.cells (H.step a.out) j.out;let⟨U,o2,e2,B,c2,Z⟩:=PlA.cells (H.step a.out) n;injection e1 with e1;injection e1 with e11 e12;injection e2 with e2;injection e2 with e21 e22;subst e11 e12 e21 e22;have c:=G k q x y t j n;have V:(q:Int)<k:=O_;have X:(q:Int)<L.length:=O_;clear n;by_cases p:y.dev=x.dev;{have O:¬y.slot=x.slot:=(by rcases c with h | h;{exact absurd p h};exact h);clear c;go_upto_region 9 with fail;go_quiet (fail);go_wp2;go_roundw;{exact ⟨q+1,by go_num,O_,below_drewN a.out nq⟩};exact MS_};clear c;go_upto_region 9 with fail;go_quiet (fail);go_wp2;go_roundw;{exact ⟨q+1,by go_num,O_,below_drewN a.out nq⟩};exact MS_};obtain rfl:k=q:=O_;go_wp2;go_roundw;{exact ⟨k+1,by go_num,O_,a.out⟩};exact MS_};obtain rfl:k=L.length:=O_;go_wp2;go_ret;exact ⟨rfl,a.out⟩
end
section
abbrev GP:=Option (Value × Bool)
def KPh (g:GP) (w:World) (g':GP) (w':World):Prop:=(g=none/\g'=none/\s_ w w')\/(g'≠none/\∀v p,g=some (v,p)->∃p',g'=some (v,p'))
structure PF where
 p:GP->Value->World->Prop
 st:∀v g w g' w',KPh g w g' w'->p g v w->p g' v w'
def PF.any:PF:=⟨fun _ _ _=>True,fun _ _ _ _ _ _ h=>h⟩
def PF.eq (x:Value):PF:=⟨fun _ v _=>v=x,fun _ _ _ _ _ _ h=>h⟩
def PF.p0 (q:SP):PF:=⟨fun g v w=>g=none->q.p v w,fun v g w g' w' h hp hg=>by
 rcases h with ⟨h1,_,h3⟩ | ⟨h1,_⟩
 ·exact q.st v w w' h3 (hp h1)
 ·exact absurd hg h1⟩
def PF.res:PF:=⟨fun g v _=>∃p,g=some (v,p),fun v g w g' w' h ⟨p,hp⟩=>by
 rcases h with ⟨h1,_,_⟩ | ⟨_,h2⟩
 ·rw [h1] at hp;cases hp
 ·exact h2 v p hp⟩
def GF (ls:List PF) (g:GP) (j:Nat) (v:Value) (w:World):Prop:=(ls.getD j PF.any).p g v w
def GF.keep {ls:List PF} {g g':GP} (h:KPh g w g' w') (j:Nat) (v:Value) (hg:GF ls g j v w):GF ls g' j v w':=(ls.getD j PF.any).st v g w g' w' h hg
structure PhC (s t:Nat) (P0:World->Prop) (P1 P2:Value->World->Prop) (g:GP) (d:Nat->Bool) (x:World):Prop where
 n0:d s=false->g=none
 n1:d t=false->∀v,g≠some (v,true)
 c0:g=none->P0 x
 c1:∀v,g=some (v,false)->P1 v x
 c2:∀v,g=some (v,true)->P2 v x
 fin:d t=true->∃v,g=some (v,true)
section
variable {s t:Nat} {P0:World->Prop} {P1 P2:Value->World->Prop} {g:GP} {d:Nat->Bool} {x y:World}
def PhC.start (h:P0 x):PhC s t P0 P1 P2 none (fun _=>false) x:=⟨fun _=>rfl,fun _ v h=>(by cases h),fun _=>h,fun v h=>(by cases h),fun v h=>(by cases h),fun h=>(by cases h)⟩
def PhC.pure (h:PhC s t P0 P1 P2 g d x) (i:Nat) (h1:(s == i)=false) (h2:(t == i)=false):PhC s t P0 P1 P2 g (ac_ d i) x:=
 ⟨fun e=>h.n0 (by rwa [U_ h1] at e),fun e=>h.n1 (by rwa [U_ h2] at e),h.c0,h.c1,h.c2,fun e=>h.fin (by rwa [U_ h2] at e)⟩
def PhC.step (h:PhC s t P0 P1 P2 none d x) (i:Nat) (h1:(s == i)=false) (h2:(t == i)=false) (hP:P0 y):PhC s t P0 P1 P2 none (ac_ d i) y:=
 ⟨fun e=>rfl,fun e v h=>(by cases h),fun _=>hP,fun v h=>(by cases h),fun v h=>(by cases h),fun e=>(by
  let⟨v,hv⟩:=h.fin (by rwa [U_ h2] at e)
  cases hv)⟩
def PhC.app (h:PhC s t P0 P1 P2 none d x) (h2:(t == s)=false) (hP:P1 v y):PhC s t P0 P1 P2 (some (v,false)) (ac_ d s) y:=
 ⟨fun e=>(by rw [bi_] at e;cases e),fun e v h=>(by injection h with h;injection h with _ h;cases h),fun e=>(by cases e),fun a e=>(by injection e with e;injection e with e _;subst e;exact hP),fun v h=>(by injection h with h;injection h with _ h;cases h),fun e=>(by
  let⟨v,hv⟩:=h.fin (by rwa [U_ h2] at e)
  cases hv)⟩
def PhC.sto (h:PhC s t P0 P1 P2 (some (v,false)) d x) (h2:(s == t)=false) (hP:P2 v y):PhC s t P0 P1 P2 (some (v,true)) (ac_ d t) y:=
 ⟨fun e=>absurd (h.n0 (by rwa [U_ h2] at e)) A_,fun e=>(by rw [bi_] at e;cases e),fun e=>(by cases e),fun a e=>(by injection e with e;injection e with _ e;cases e),fun a e=>(by injection e with e;injection e with e _;subst e;exact hP),fun _=>⟨v,rfl⟩⟩
end
def kr_ {A:Act} (m s t:Nat) (pl:Nat->Bool) (P0:World->Prop) (P1 P2:Value->World->Prop) (ls:List PF)
  (hm:P.follows .mixedOrders=true) (hB:fk_ l.toArray m s pl=true) (hs:A.tmps.size=m) (hC:P0 {W with drawn:=W.drawn+1}) (hs0:(List.range l.toArray.size).all (fun i=>(l.toArray[i]?).all (fun o=>o.dst.isSome)||i == t)=true) (hs1:∀g w,GF ls g t undef w)
  (h:bG_ P l.toArray (PhC s t P0 P1 P2) (GF ls) s pl (fun a'=>∀g d w',(∀j,j<l.toArray.size->d j=true)->PhC s t P0 P1 P2 g d w'->(∀j,j<l.toArray.size->GF ls g j (cv_ l.toArray a' j) w')->wpList P l.toArray Q [] a' w') 0 l A):(Code.region id l.toArray true).wp P Q A W:=
 au_ m s pl (PhC s t P0 P1 P2) (GF ls) none hm hB hs (PhC.start hC) (fun i o a b g v w f=>by
  have c:i<l.toArray.size:=(Array.getElem?_eq_some_iff.1 a).1;have:=List.all_eq_true.1 hs0 i (List.mem_range.2 c);rw [a] at this;simp [b] at this;subst this;exact hs1 g w) h
end
section
def dW_ (p:Pl):Fl:=⟨p.dev,p.slot,b5_,0,0,0,0,0,0,0,0,0⟩
def ka_:Lr:=⟨[],[],[]⟩
def iQ_ (Ls:List Pl) (sz:List Int) (gs:List Gr):Ck:=⟨Ls.map dW_,List.replicate (cA_ (aZ_ 1 sz)) dQ_,aZ_ 1 sz,gs,List.replicate gs.length ka_,List.replicate gs.length 0,[]⟩
def n4_ {p:Pl}:FlR.p w S (dW_ p) ((dW_ p).rowT 0 none 0):=
 ⟨0,none,0,fun i=> .inl rfl,av_.zero,lR_ _,.nil _,rfl⟩
theorem dz_:∀(l:List Int) (a:Int),(∀n ∈ l,1<=n)->(cA_ (aZ_ a l):Int)=bq_ l
 | [],_,_=>rfl
 | x :: l,a,h=>by
  have ih:=dz_ l (a+x) (fun n b=>h n (List.mem_cons_of_mem _ b));have c:=h x (List.mem_cons_self ..);have e:bq_ (x :: l)=x+bq_ l:=by unfold bq_;rw [List.foldl_cons,fn_];omega
  have e2:cA_ (aZ_ a (x :: l))=x.toNat+cA_ (aZ_ (a+x) l):=by
   show cA_ (nM_ a x :: aZ_ (a+x) l)=_
   unfold cA_;rw [List.map_cons,List.sum_cons]
   congr 1
   exact np_ a x.toNat
  rw [e,e2];omega
def oe_ (p:Int):X_ b5_ p=0:=by unfold X_;split <;> rfl
theorem nG_:∀(l:List Int) (a:Int) (z:Zn) (f:Int),(∀n ∈ l,1<=n)->z ∈ aZ_ a l->f ∈ z.free->a<=f/\f<a+bq_ l
 | [],_,z,f,_,h,_=>by cases h
 | x :: l,a,z,f,hn,h,hf=>by
  have hx:=hn x (List.mem_cons_self ..);have e:bq_ (x :: l)=x+bq_ l:=by unfold bq_;rw [List.foldl_cons,fn_];omega
  have c:0<=bq_ l:=by rw [<-dz_ l 0 (fun n b=>hn n (List.mem_cons_of_mem _ b))];omega
  rcases List.mem_cons.1 h with rfl | h
  ·have:=nl_ (show f ∈ upN a x.toNat from hf);omega
  ·have:=nG_ l (a+x) z f (fun n b=>hn n (List.mem_cons_of_mem _ b)) h hf;omega
def jY_ {Ls:List Pl} {sz:List Int} {gs:List Gr} (hF:Ls.length=F) (hG:gs.length=G) (hZ:sz.length=Z) (hf:1<=F/\F<=3/\1<=G/\G<=2/\1<=Z/\Z<=2) (hP:kG_ Ls) (hz:hw_ sz) (hg:cU_ gs):Inv F G Z (iQ_ Ls sz gs) where
 few:=hf
 nf:=by simp [iQ_,hF]
 nr:=by
  have:=dz_ sz 1 hz.each;have h1:=hz.all;have h2:1<=bq_ sz:=by
   have a:sz[0]?=some sz[0]:=gE_ hz.pos;have:=hz.each _ (mG_ a);have:=(hz.part 0 O_).2.2 _ a;have:=(hz.part 0 O_).1;omega
  simp only[iQ_,rL_];omega
 ng:=hG
 nl:=by simp [iQ_,hG]
 nk:=by simp [iQ_,hG]
 nz:=by simp [iQ_,et_,hZ]
 ten:=fun i x a=>by
  have a:(List.replicate _ dQ_)[i]?=some x:=a;obtain rfl:=(List.mem_replicate.1 (mG_ a)).2
  show (0:Int)<G
  omega
 file:=fun j y b=>by
  have b:(Ls.map dW_)[j]?=some y:=b;rw [gP_] at b;obtain ⟨p,m,rfl⟩:=Option.map_eq_some_iff.1 b;let⟨_,_,h3,n⟩:=hP.each p (mG_ m);exact ⟨⟨0,rfl,O_⟩,⟨p.slot.toNat,by show p.slot=_;omega,O_⟩,⟨by show (0:Int)<=0;omega,by show (0:Int)<=1000000;omega,Iff.rfl⟩,⟨⟨Int.le_refl 0,by show (0:Int)<=255;omega⟩,rfl,rfl,rfl,rfl⟩⟩
 frame:=fun i x a=>by
  have a:(List.replicate _ dQ_)[i]?=some x:=a;obtain rfl:=(List.mem_replicate.1 (mG_ a)).2;exact .inl rfl
 find:=fun j y p b h0=>by
  have b:(Ls.map dW_)[j]?=some y:=b;rw [gP_] at b;obtain ⟨q,o,rfl⟩:=Option.map_eq_some_iff.1 b;have h0:0<X_ b5_ p:=h0;rw [oe_] at h0;omega
 free:=fun k z g f d=>by
  have g:(aZ_ 1 sz)[k]?=some z:=g;have:=nG_ sz 1 z f hz.each (mG_ g) d;have h2:=dz_ sz 1 hz.each;refine ⟨(f - 1).toNat,dQ_,O_,?_,rfl⟩
  show (List.replicate _ dQ_)[_]?=_
  rw [List.getElem?_replicate,if_pos O_]
 zok:=hz.zones
 zsum:=by
  show nxt (aZ_ 1 sz)=((List.replicate _ dQ_).length:Int)+1
  rw [jc_,rL_,dz_ sz 1 hz.each];omega
 gok:=hg
 lok:=fun t l c=>by
  have c:(List.replicate _ ka_)[t]?=some l:=c;obtain rfl:=(List.mem_replicate.1 (mG_ c)).2;exact ⟨fun x a=>(by cases a),List.nodup_nil,fun x a=>(by cases a),List.Pairwise.nil⟩
 pok:=⟨fun p m=>(by cases m),List.Pairwise.nil⟩
def jb_ (a:Value) (k n:Nat) (hk:0<k):(madeCells (Array.replicate k a) (n*k)).toList=(List.replicate n (List.replicate k a)).flatten:=by rw [List.flatten_replicate_replicate];apply List.ext_getElem?;intro i;by_cases h:i<n*k;{have b:i % k<k:=Nat.mod_lt _ hk;simp [madeCells,h,List.getElem?_replicate,b]};simp [madeCells,h,List.getElem?_replicate]
end
end Go.Proofs.YtehfhnbpnaiogaaGreatDoor
