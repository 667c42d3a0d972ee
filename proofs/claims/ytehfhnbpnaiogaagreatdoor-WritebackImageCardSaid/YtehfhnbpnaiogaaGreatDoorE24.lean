/-
  Lemmas and contracts for the laws of this seat, part 24; several texts joined by a program.
-/
import Derived.Test.YtehfhnbpnaiogaaGreatDoorE16
import Derived.Test.YtehfhnbpnaiogaaGreatDoorE23
import Derived.Test.YtehfhnbpnaiogaaGreatDoorE00
import Derived.Outline
namespace Go.Proofs.YtehfhnbpnaiogaaGreatDoor
set_option linter.unusedVariables false
set_option linter.unusedSimpArgs false
set_option maxRecDepth 100000
set_option maxHeartbeats 16000000
open Go.RowKit Go.Proofs.Tryz IntKind
variable {C C' C1 C2:Ck} {D:List UInt8} {F G N Z j o t:Nat} {I:World->Prop} {S:Nat->Prop} {W w:World} {ac:Bool} {b e e1 e2 err k n q sz:Int} {cs:List Cv} {i1 i2 r1 r2 rq:Value} {l:List (Nat × Obj)} {s:ByteArray} {x:Fr} {y:Fl} {α:Type}
section
def fz_ (C:Ck) (j:Nat) (y:Fl) (k:Nat):Bool:=(y.size != 0||y.blocks != 0)||(C.frames.take k).any (fun x=>x.file == (j:Int))
end
section
structure Io (C:Ck):Prop where
 of:lS C
 few:C.files.length<=8
 file:∀(j:Nat) (y:Fl),C.files[j]?=some y->(0<=y.slot/\y.slot<7)/\(0<=y.which/\y.which<2)/\jN y.blocks/\0<=y.seq/\y.seq<=65535
theorem cE.io (h:cE F G Z C):Io C where
 of:=h.ofOk
 few:=by have:=h.nf;have:=h.few;omega
 file:=fun j y hy=>by
  obtain ⟨s,hs,hs7⟩:=(h.file j y hy).slot;obtain ⟨h1,h2,h3,_⟩:=(h.file j y hy).st;exact ⟨O_,O_,h1,O_,O_⟩
theorem lS.files (h:lS C) {fs:List Fl} (hn:fs.length=C.files.length):lS {C with files:=fs}:=
 ⟨⟨by show 0<fs.length/\fs.length<=100;rw [hn];exact h.ok.files,h.ok.frames,h.ok.groups,h.ok.lists,h.ok.clocks⟩,h.zn,h.pt,h.free,h.lru⟩
theorem Io.set (h:Io C) {y':Fl} (hy:(0<=y'.slot/\y'.slot<7)/\(0<=y'.which/\y'.which<2)/\jN y'.blocks/\0<=y'.seq/\y'.seq<=65535):Io {C with files:=C.files.set j y'} where
 of:=h.of.files (lL ..)
 few:=by show (C.files.set j y').length<=8;rw [lL];exact h.few
 file:=fun k u hu=>by
  rcases eK hu with ⟨rfl,rfl⟩ | ⟨_,hu⟩
  ·exact hy
  ·exact h.file k u hu
def dG_ (C:Ck) (n sz:Int) (C':Ck) (rq ino:Value) (err:Int):Prop:=
 (∃(j:Nat) (y:Fl),n=(j:Int)/\C.files[j]?=some y/\0<=sz/\sz<=128/\tG C j y sz C' rq ino err)\/((¬(0<=n/\n<(C.files.length:Int))\/sz<0\/128<sz)/\C'=C/\rq=rq0/\ino=qY 0 0 0/\err=2)
def dF_ (C:Ck) (n q s b k:Int) (C':Ck) (err:Int):Prop:=
 (∃(j:Nat) (y:Fl),n=(j:Int)/\C.files[j]?=some y/\qL C j y q s b k C' err)\/(¬(0<=n/\n<(C.files.length:Int))/\C'=C/\err=2)
def cJ_ (C:Ck) (n sz:Int):Bool:=if 0<=n then (match C.files[n.toNat]? with | some y=>d9_ y sz | none=>false) else false
def chQ (a b:ByteArray) (f:Int):Int:=if pk (gA a f) (gA b f) (mD a f) (mD b f)=true then mD b f else mD a f
def chS (a b:ByteArray) (f:Int):Int:=if pk (gA a f) (gA b f) (mD a f) (mD b f)=true then sF b f else sF a f
def chB (a b:ByteArray) (f:Int):Int:=if pk (gA a f) (gA b f) (mD a f) (mD b f)=true then xW b f else xW a f
def chW (a b:ByteArray) (f:Int):Int:=if pk (gA a f) (gA b f) (mD a f) (mD b f)=true then 1 else 0
def dE_ (C:Ck) (n:Int) (a b:ByteArray) (C':Ck) (err:Int):Prop:=
 (∃(j:Nat) (y:Fl),n=(j:Int)/\C.files[j]?=some y/\tD C j y (fz_ C j y C.frames.length) (chQ a b n) (chS a b n) (chB a b n) (chW a b n) C' err)\/(¬(0<=n/\n<(C.files.length:Int))/\C'=C/\err=2)
theorem tG.one (h1:tG C j y sz C1 r1 i1 e1) (h2:tG C j y sz C2 r2 i2 e2):C2=C1/\r2=r1/\i2=i1/\e2=e1:=by
 unfold tG at h1 h2
 split at h1
 ·rename_i h;rw [if_pos h] at h2;obtain ⟨rfl,rfl,rfl,rfl⟩:=h1;exact h2
 ·rename_i h;rw [if_neg h] at h2;obtain ⟨rfl,rfl,rfl,rfl⟩:=h1;exact h2
theorem qL.one {s:Int} (h1:qL C j y q s b k C1 e1) (h2:qL C j y q s b k C2 e2):C2=C1/\e2=e1:=by
 unfold qL at h1 h2
 split at h1
 ·rename_i h;rw [if_pos h] at h2;obtain ⟨rfl,rfl⟩:=h1;exact h2
 rename_i h;rw [if_neg h] at h2
 split at h1
 ·rename_i h;rw [if_pos h] at h2;obtain ⟨rfl,rfl⟩:=h1;exact h2
 ·rename_i h;rw [if_neg h] at h2;obtain ⟨rfl,rfl⟩:=h1;exact h2
theorem tD.one {u:Bool} {s wh:Int} (h1:tD C j y u q s b wh C1 e1) (h2:tD C j y u q s b wh C2 e2):C2=C1/\e2=e1:=by
 unfold tD at h1 h2
 split at h1
 ·rename_i h;rw [if_pos h] at h2;obtain ⟨rfl,rfl⟩:=h1;exact h2
 ·rename_i h;rw [if_neg h] at h2;obtain ⟨rfl,rfl⟩:=h1;exact h2
theorem mW (e:n=(j:Int)) (h:C.files[j]?=some y):0<=n/\n<(C.files.length:Int):=by
 have:=bK h;omega
theorem jX {j':Nat} {y':Fl} (e:n=(j:Int)) (e':n=(j':Int)) (h:C.files[j]?=some y) (h':C.files[j']?=some y'):j'=j/\y'=y:=by
 obtain rfl:j'=j:=O_
 exact ⟨rfl,aP (h'.symm.trans h)⟩
theorem dG_.one (h1:dG_ C n sz C1 r1 i1 e1) (h2:dG_ C n sz C2 r2 i2 e2):C2=C1/\r2=r1/\i2=i1/\e2=e1:=by
 rcases h1 with ⟨j,y,e,hy,h3,h4,hP⟩ | ⟨hn,rfl,rfl,rfl,rfl⟩
 ·rcases h2 with ⟨j',y',e',hy',_,_,hP'⟩ | ⟨hn,_⟩
  ·obtain ⟨rfl,rfl⟩:=jX e e' hy hy';exact hP.one hP'
  ·have:=mW e hy;omega
 ·rcases h2 with ⟨j',y',e',hy',_,_,hP'⟩ | ⟨_,rfl,rfl,rfl,rfl⟩
  ·have:=mW e' hy';omega
  ·exact ⟨rfl,rfl,rfl,rfl⟩
theorem dF_.one {s:Int} (h1:dF_ C n q s b k C1 e1) (h2:dF_ C n q s b k C2 e2):C2=C1/\e2=e1:=by
 rcases h1 with ⟨j,y,e,hy,hP⟩ | ⟨hn,rfl,rfl⟩
 ·rcases h2 with ⟨j',y',e',hy',hP'⟩ | ⟨hn,_⟩
  ·obtain ⟨rfl,rfl⟩:=jX e e' hy hy';exact hP.one hP'
  ·exact absurd (mW e hy) hn
 ·rcases h2 with ⟨j',y',e',hy',hP'⟩ | ⟨_,rfl,rfl⟩
  ·exact absurd (mW e' hy') hn
  ·exact ⟨rfl,rfl⟩
theorem dE_.one {a b:ByteArray} (h1:dE_ C n a b C1 e1) (h2:dE_ C n a b C2 e2):C2=C1/\e2=e1:=by
 rcases h1 with ⟨j,y,e,hy,hP⟩ | ⟨hn,rfl,rfl⟩
 ·rcases h2 with ⟨j',y',e',hy',hP'⟩ | ⟨hn,_⟩
  ·obtain ⟨rfl,rfl⟩:=jX e e' hy hy';exact hP.one hP'
  ·exact absurd (mW e hy) hn
 ·rcases h2 with ⟨j',y',e',hy',hP'⟩ | ⟨_,rfl,rfl⟩
  ·exact absurd (mW e' hy') hn
  ·exact ⟨rfl,rfl⟩
theorem vY.imp {P Q:Ck->Value->Value->Int->Prop} {w':World} {en:Ending} (h:vY P S w en w') (hq:∀C rq i e,P C rq i e->Q C rq i e):vY Q S w en w':=by
 obtain ⟨C',rq,ino,err,a,b,c,d,e,f,g,h1,h2⟩:=h;exact ⟨C',rq,ino,err,a,b,c,d,e,f,g,hq _ _ _ _ h1,h2⟩
section
variable (C:Ck) (n:Int) (a b c d e f g:Value) (S:Nat->Prop) (w:World) (h:x_ w S a b c d e f g C) (hI:Io C) (hS:∀z,w.heap.size<=z->S z)
include h hI hS
theorem df_ (sz:Int):C_ 22 #[cI a b c d e f g,I_ n,I_ sz] w (vY (dG_ C n sz) S w):=by
 by_cases p:¬(0<=n/\n<(C.files.length:Int))\/sz<0\/128<sz
 ·exact (dg_ n sz h hI.of p hS).mono fun _ _ k=>k.imp fun _ _ _ _ i=> .inr ⟨p,i⟩
 ·obtain ⟨j,rfl⟩:=sG (show 0<=n by omega);obtain ⟨y,m⟩:∃y,C.files[j]?=some y:=⟨_,cU O_⟩;obtain ⟨h1,h2,h3,o⟩:=hI.file j y m;have l:zB y.seq sz y.blocks=true:=by unfold zB;exact decide_eq_true ⟨o.1,o.2,O_,O_,h3.1,h3.2⟩
  exact (dh_ j y sz h hI.of m l h1 h2 hS).mono fun _ _ k=>k.imp fun _ _ _ _ i=> .inl ⟨j,y,rfl,m,O_,O_,i⟩
theorem yH (q s t k:Int):C_ 26 #[cI a b c d e f g,I_ n,qY q s t,I_ k] w (gC (dF_ C n q s t k) S w):=by
 by_cases l:0<=n/\n<(C.files.length:Int)
 ·obtain ⟨j,rfl⟩:=sG l.1;obtain ⟨y,o⟩:∃y,C.files[j]?=some y:=⟨_,cU O_⟩;obtain ⟨h1,h2,h3,r⟩:=hI.file j y o;have p:j<8:=by have:=hI.few;omega
  exact (yJ j y q s t k h hI.of o h2 hS).mono fun _ _ m=>m.imp fun _ _ i=> .inl ⟨j,y,rfl,o,i⟩
 ·exact (yI n q s t k h hI.of l hS).mono fun _ _ m=>m.imp fun _ _ i=> .inr ⟨l,i⟩
end
theorem d8_ (h:¬(0<=n/\n<(C.files.length:Int))):cJ_ C n sz=false:=by
 unfold cJ_
 split
 ·rw [xX O_]
 ·rfl
theorem bX_ (h:C.files[j]?=some y):cJ_ C (j:Int) sz=d9_ y sz:=by
 unfold cJ_;rw [if_pos O_,show ((j:Int)).toNat=j by simp,h]
section
variable (C:Ck) (n:Int) (a b c d e f g:Value) (S:Nat->Prop) (w:World) (h:x_ w S a b c d e f g C)
include h
theorem bs_ (sz:Int):C_ 24 #[cI a b c d e f g,I_ n,I_ sz] w (cP (cJ_ C n sz) w):=by
 by_cases i:0<=n/\n<(C.files.length:Int)
 ·obtain ⟨j,rfl⟩:=sG i.1;obtain ⟨y,k⟩:∃y,C.files[j]?=some y:=⟨_,cU O_⟩;rw [bX_ k];exact bu_ j y sz h k
 ·rw [d8_ i];exact bt_ n sz h i
end
theorem ee_ (s:ByteArray) (f:Int):0<=sF s f/\sF s f<=255:=by
 unfold sF
 split
 ·unfold tQ;have:=(s.data.getD 2 0).toNat_lt;omega
 ·omega
theorem id_ (a b:ByteArray) (f:Int):0<=chS a b f/\chS a b f<=255:=by
 unfold chS
 split
 ·exact ee_ b f
 ·exact ee_ a f
def hA_ (C:Ck):Prop:=∀(j t:Nat) (y:Fl),C.files[j]?=some y->X_ t y.c->wA t y=fz_ C j y C.frames.length
section
variable (C:Ck) (n:Int) (a b c d e f g:Value) (S:Nat->Prop) (w:World) (h:x_ w S a b c d e f g C) (hI:Io C) (hU:hA_ C) (hS:∀z,w.heap.size<=z->S z)
include h hI hU hS
theorem gK_ (s t:ByteArray) (hs:s.size<=maxLen) (ht:t.size<=maxLen):C_ 30 #[cI a b c d e f g,I_ n,.string s,.string t] w (gC (dE_ C n s t) S w):=by
 by_cases m:0<=n/\n<(C.files.length:Int)
 ·obtain ⟨j,rfl⟩:=sG m.1;obtain ⟨y,k⟩:∃y,C.files[j]?=some y:=⟨_,cU O_⟩;obtain ⟨A,cap,o,_⟩:=h.files.form;rw [o] at h;obtain ⟨v,o1,q,u,x,_,_,_,p,_⟩:=FlA.cells h.files k;rw [<-o] at h;have:=gQ_ j y s t (chQ s t j) (chS s t j) (chB s t j) (chW s t j) h hI.of k p (fun w'=>(ea_ s t j w' hs ht).mono fun z r i=>⟨_,i.1,i.2⟩) (id_ s t j) hS;rw [hU j q y k p] at this;exact this.mono fun _ _ i=>i.imp fun _ _ l=> .inl ⟨j,y,rfl,k,l⟩
 ·exact (gO_ n s t h hI.of m hS).mono fun _ _ i=>i.imp fun _ _ l=> .inr ⟨m,l⟩
end
end
section
def sK:Ck:=uN [⟨0,0⟩] [8] [⟨8,0,0⟩]
def awY:Fl:=gT ⟨0,0⟩
theorem f0_:sK.files[0]?=some awY:=rfl
theorem h9_ {l:Lr} (h:InP sK 0 0 0 0 false awY l ⟨8,0,0⟩ C' n err):∃ac,C'=oP sK 0 0 0 0 awY l ⟨8,0,0⟩ (cA sK.zones false 0).1 ac/\n=1:=by
 rcases h with ⟨_,_,h | h | h⟩ | ⟨_,_,i,ac,h0,h1,_,h2⟩
 ·exact absurd h bX
 ·exact absurd rfl h
 ·exact absurd (show (cA sK.zones false 0).2.2=0 by decide +kernel) h
 ·have e:(cA sK.zones false 0).2.1=1:=by decide +kernel
  rw [e] at h1;obtain rfl:i=0:=O_
  exact ⟨ac,h2,O_⟩
def qQ:Fl:={awY with c:=(Z_ eC 0 1).1}
theorem xO:D_ qQ.c 0=1:=by decide +kernel
theorem f1_ (k:Nat) (h:k≠0):D_ qQ.c (k:Int)=0:=by
 unfold D_
 split
 ·show (upd eC 0 (1,0) ((k:Int).toNat)).1=0
  unfold upd;rw [if_neg (by simp;exact h)]
  rfl
 ·rfl
def awX:Fr:=⟨0,0,fB awY 0,0,0,0,0⟩
theorem f2_:fB awY 0=uF:=by
 unfold fB;rw [show aC awY 0=true by decide +kernel]
 rfl
theorem f3_:jK (fB awY 0).valid (bD 0 0 3).1 (bD 0 0 3).2 true=0:=by rw [f2_];decide +kernel
theorem zN:W_ 0 3=[0]:=by decide +kernel
theorem a6_ {l:Lr}:dE (oP sK 0 0 0 0 awY l ⟨8,0,0⟩ (cA sK.zones false 0).1 ac) 0 awX 0 qQ where
 fr:=by
  show (sK.frames.set 0 awX)[0]?=some awX
  rw [nU]
  show 0<(List.replicate _ _).length
  rw [rL_]
  decide +kernel
 fl:=rfl
 ix:=rfl
 ok:=⟨⟨bX,bX⟩,⟨bX,bX⟩,by show jC (fB awY 0);exact ap_ _ _,⟨bX,bX⟩,⟨bX,bX⟩,⟨bX,bX⟩⟩
theorem jD_ {l:Lr}:∀p ∈ W_ 0 3,kU (oP sK 0 0 0 0 awY l ⟨8,0,0⟩ (cA sK.zones false 0).1 ac) 0 qQ 0 3 true p:=by
 rw [zN];intro p hp;obtain rfl:=List.mem_singleton.1 hp;exact ⟨0,awX,xO,a6_,rfl,f3_⟩
structure Aw (C:Ck) (x:Fr) (y:Fl):Prop where
 u:dE C 0 x 0 y
 page:x.page=0
 g0:D_ y.c 0=1
 gk:∀k:Nat,k≠0->D_ y.c (k:Int)=0
 dirty:x.pg.dirty≠0
 wr:x.writing=0
 rd:x.reading=0
 bl:y.blocks=0
 sl:y.slot=0
 nf:C.files.length=1
theorem dU_ {l:Lr} (h:WrP F G Z (oP sK 0 0 0 0 awY l ⟨8,0,0⟩ (cA sK.zones false 0).1 ac) 0 0 3 s 0 qQ C2 err):∃x y,Aw C2 x y:=by
 obtain ⟨_,h,_⟩:=h;obtain ⟨_,Cn,n,b,hf,rfl⟩:=h bX jD_;generalize hC:oP sK 0 0 0 0 awY l ⟨8,0,0⟩ (cA sK.zones false 0).1 ac=f at b;have d:dE f 0 awX 0 qQ:=by rw [<-hC];exact a6_
 have o:f.files.length=1:=by rw [<-hC];rfl
 have z:(0+3+15) / 16 - 0 / 16=1:=by decide
 rw [z] at b
 cases b with
 | @step _ i t at' fr ct C x x' y l' p h0 hp hfr hpg hget e4 hl hpt hx=>
  cases h0
  rw [zN] at hp;obtain rfl:(0:Int)=p:=aP hp;obtain rfl:y=qQ:=aP (hfr.fl.symm.trans d.fl);rw [xO] at hget;obtain rfl:i=0:=O_
  obtain rfl:x=awX:=aP (hfr.fr.symm.trans d.fr);have m:0<f.files.length:=bK d.fl;have u:0<f.frames.length:=bK d.fr;have g:(eW f.files 0 qQ x')[0]?=some n:=hf;unfold eW at g;rw [nU m] at g;have j:=aP g;have v:∀k:Int,D_ n.c k=D_ qQ.c k:=fun k=>by
   rw [<-j,hx];exact dG (show gG awX.page=true by decide) (by show (0:Int)<(qQ.c 0).1;decide +kernel) _ _ k
  have r:bD 0 0 3=(0,3):=by decide +kernel
  have a:=hpt.1;have a:bD 0 0 3=((at':Int),(ct:Int)):=a;rw [r] at a;have A:(0:Int)=(at':Int):=congrArg Prod.fst a;have q:fE x':=by
   rw [hx];refine ⟨d.ok.page,d.ok.tenant,kP d.ok.pg ?_,d.ok.holds,d.ok.reading,d.ok.writing⟩;rw [bE_];have:=hpt.2.1;omega
  refine ⟨x',{n with size:=max n.size (((0:Nat):Int)+((3:Nat):Int))},⟨⟨nU u,nU (by show 0<(eW f.files 0 qQ x').length;rw [oR];exact m),by rw [hx];rfl,q⟩,by rw [hx];rfl,(v 0).trans xO,fun k w=>(v k).trans (f1_ k w),e4,by rw [hx];rfl,by rw [hx];rfl,by rw [<-j];rfl,by rw [<-j];rfl,?_⟩⟩
  show ((eW f.files 0 qQ x').set 0 _).length=1
  rw [lL,oR];exact o
section
variable {C:Ck} {x:Fr} {y:Fl}
theorem Aw.sec (h:Aw C x y):iA x y=3:=by
 unfold iA;rw [h.bl,h.page,if_pos (by decide +kernel)]
theorem Aw.beg (h:Aw C x y) (hb:jR C 0 0 x y C' rq err):C'=qR C 0 0 x y 3/\rq = .agg (bJ 0 x.tenant y.dev 2 2 2 (iL x 3) false false 0)/\(iL x 3).size=16/\err=0:=by
 unfold jR at hb;rw [if_neg (by simp [h.wr]),if_neg h.dirty,h.sec] at hb;obtain ⟨h1,h2,h3⟩:=hb;refine ⟨h1,?_,?_,h3⟩
 ·rw [h2];unfold rqP;rw [h.sl,h.page]
  rfl
 ·have a:=h.u.ok.pg.len
  show (x.pg.data.extract 0 16).size=16
  rw [bE_,a]
  rfl
theorem Aw.fr (h:Aw C x y):dE (qR C 0 0 x y 3) 0 ⟨x.file,x.page,bR x.pg 3,x.tenant,x.holds,x.reading,3⟩ 0 {y with c:=aT y.c x.page ((bR x.pg 3).dirty != 0) true} where
 fr:=nU (bK h.u.fr)
 fl:=nU (bK h.u.fl)
 ix:=h.u.ix
 ok:=⟨h.u.ok.page,h.u.ok.tenant,mT h.u.ok.pg ⟨O_,O_⟩,h.u.ok.holds,h.u.ok.reading,⟨by show (0:Int)<=3;omega,by show (3:Int)<=3;omega⟩⟩
theorem Aw.ended (h:Aw C x y) (he:zC (qR C 0 0 x y 3) 1 0 C' err):err=0/\C'.files.length=1/\∃y2,C'.files[0]?=some y2/\y2.blocks=1:=by
 rcases he with ⟨i,j,x2,y2,e,hu,hP⟩ | ⟨hn,_⟩
 ·obtain ⟨rfl,rfl,rfl,rfl⟩:=h.fr.one hu O_;unfold nI at hP;rw [if_neg (by show ¬(3:Int)=0;omega),if_pos rfl] at hP;obtain ⟨rfl,rfl⟩:=hP;refine ⟨rfl,?_,_,nU (bK hu.fl),?_⟩
  ·show ((C.files.set 0 _).set 0 _).length=1
   rw [lL,lL,h.nf]
  ·show bits .or .i64 y.blocks (wrap64 (2 ^ x.page.toNat))=1
   rw [h.bl,h.page]
   decide +kernel
 ·exact absurd h.fr (hn 0 0 _ _ rfl)
theorem Aw.com (h:Aw C x y) (hI:cE F G Z C) {ino:Value} (hc:dG_ C 0 3 C' rq ino err):C'={C with files:=C.files.set 0 {y with seq:=1}}/\rq = .agg (bJ 0 0 y.dev 2 1 1 (iF 1 3 0 0) true true 0)/\ino=qY 1 3 0/\err=0:=by
 obtain ⟨_,h2,h3,_⟩:=(hI.file 0 y h.u.fl).st
 rcases hc with ⟨j,y2,e,hy,_,_,hP⟩ | ⟨hn,_⟩
 ·obtain ⟨rfl,rfl⟩:=jX (show (0:Int)=((0:Nat):Int) by rfl) e h.u.fl hy;unfold tG at hP;rw [if_neg O_] at hP;obtain ⟨a,b,c,d⟩:=hP;rw [h3] at a b c;refine ⟨a,?_,?_,d⟩
  ·rw [b];unfold rqC;rw [h.sl,h2,h.bl]
   rfl
  ·rw [c,h.bl]
   rfl
 ·have:=h.nf;omega
theorem Aw.cmd (h:Aw C x y) (hI:cE F G Z C) (hc:dF_ {C with files:=C.files.set 0 {y with seq:=1}} 0 1 3 0 0 C' err):err=0/\C'.files.length=1/\∃y2,C'.files[0]?=some y2/\y2.which=1:=by
 obtain ⟨_,h2,h3,d,f⟩:=(hI.file 0 y h.u.fl).st;have a:=bK h.u.fl;have b:({C with files:=C.files.set 0 {y with seq:=1}}:Ck).files[0]?=some {y with seq:=1}:=nU a
 rcases hc with ⟨j,y2,e,hy,hP⟩ | ⟨hn,_⟩
 ·obtain ⟨rfl,rfl⟩:=jX (show (0:Int)=((0:Nat):Int) by rfl) e b hy;unfold qL at hP;rw [if_neg O_,if_neg] at hP
  ·obtain ⟨rfl,rfl⟩:=hP;refine ⟨rfl,?_,_,nU (by rw [lL];exact a),?_⟩
   ·show ((C.files.set 0 _).set 0 _).length=1
    rw [lL,lL,h.nf]
   ·show 1 - y.which=1
    omega
  ·have c:lN 1 3 0 ((0:Nat):Int)=0:=by decide +kernel
   unfold dV_;rw [c];simp;omega
 ·have:=h.nf;have:¬(0<=(0:Int)/\(0:Int)<(((C.files.set 0 {y with seq:=1}).length:Nat):Int)):=hn
  rw [lL] at this;omega
theorem Aw.fet (h:Aw C x y) (hf:aZ_ C 1 rq err):rq=rq0/\err=4:=by
 rcases hf with ⟨i,j,x2,y2,e,hu,hP⟩ | ⟨hn,_⟩
 ·obtain ⟨rfl,rfl,rfl,rfl⟩:=h.u.one hu O_;unfold rZ at hP;rw [if_pos h.rd] at hP;exact hP
 ·exact absurd h.u (hn 0 0 _ _ rfl)
theorem Aw.wan (h:Aw C x y):dv_ C 0=[0]:=by
 rw [show (0:Int)=((0:Nat):Int) by rfl,cC_ h.u.fl];unfold nQ;have h0:kN C (D_ y.c ((0:Nat):Int))=true:=by
  rw [show D_ y.c ((0:Nat):Int)=1 from h.g0];unfold kN;rw [show ((1:Int) - 1).toNat=0 from rfl,h.u.fr];have:=h.u.ix;have b:=h.dirty;simp [h.wr,b];omega
 have a:∀k:Nat,k≠0->kN C (D_ y.c (k:Int))=false:=fun k a=>by rw [h.gk k a];simp [kN]
 have hf:(fun p:Nat=>kN C (D_ y.c (p:Int)))=fun p=>decide (p=0):=funext fun p=>by
  by_cases e:p=0
  ·subst e;rw [h0];rfl
  ·rw [a p e];simp [e]
 rw [hf]
 rfl
theorem Aw.chg (h:Aw C x y) (hI:cE F G Z C):cJ_ C 0 3=true:=by
 obtain ⟨_,h2,h3,h4,h5⟩:=(hI.file 0 y h.u.fl).st;rw [show (0:Int)=((0:Nat):Int) by rfl,bX_ h.u.fl];unfold d9_;rw [h4];simp
end
theorem fZ_ (hb:dE_ sK 0 ⟨#[]⟩ (iF 1 3 0 0) C' err):err=0/\C'.files.length=1/\∃y2,C'.files[0]?=some y2/\y2.size=3:=by
 rcases hb with ⟨j,y2,e,hy,hP⟩ | ⟨hn,_⟩
 ·obtain ⟨rfl,rfl⟩:=jX (show (0:Int)=((0:Nat):Int) by rfl) e f0_ hy;unfold tD at hP;rw [if_neg (by decide +kernel)] at hP;obtain ⟨rfl,rfl⟩:=hP;exact ⟨rfl,rfl,_,rfl,by show chS ⟨#[]⟩ (iF 1 3 0 0) 0=3;decide +kernel⟩
 ·exact absurd ⟨O_,bX⟩ hn
end
section
theorem cE.use (h:cE F G Z C):hA_ C:=by
 intro j t y f d;unfold wA fz_;rw [tL_ (aQ _),Bool.or_comm]
 congr 1
 rw [Bool.eq_iff_iff];simp only[decide_eq_true_eq,List.any_eq_true,beq_iff_eq]
 constructor
 ·intro hc;have b:0<fJ (aH 0 (4 ^ t) y.c) 0:=O_
  obtain ⟨e,m,a⟩:=List.countP_pos_iff.1 b;obtain ⟨k,g,r,rfl⟩:=fQ.1 m;have hv:0<(y.c k).1:=by
   unfold ga_ at a;rw [Bool.and_eq_true] at a;exact of_decide_eq_true a.1
  have v:4 ^ t<=4 ^ 4:=Nat.pow_le_pow_right O_ d.1;have n:0<D_ y.c (k:Int):=by
   unfold D_;rw [if_pos (by unfold gG;simp;omega)]
   simpa using hv
  obtain ⟨i,x,h1,h2,h3,_⟩:=h.find j y k f n;exact ⟨x,fF h2,h3⟩
 ·rintro ⟨x,s,hf⟩;obtain ⟨i,o⟩:=List.getElem?_of_mem s;obtain ⟨u,y',l,hv⟩:=h.used o (by rw [hf];omega);obtain rfl:u=j:=by have:=l.ix;omega
  obtain rfl:y'=y:=aP (l.fl.symm.trans f);obtain ⟨a,hc⟩:=eE (c:=y'.c) (p:=x.page) (by rw [hv];omega);have g:x.page.toNat<4 ^ t:=by
   rcases Nat.lt_or_ge x.page.toNat (4 ^ t) with h1 | h1
   ·exact h1
   ·have:=d.2.1 _ h1;rw [this] at hc;exact absurd hc z_
  have:0<fJ (aH 0 (4 ^ t) y'.c) 0:=by
   refine List.countP_pos_iff.2 ⟨_,fQ.2 ⟨x.page.toNat,g,fun e=>?_,rfl⟩,?_⟩
   ·rw [e] at hc;exact absurd hc z_
   ·have q:mkB (y'.c x.page.toNat).2 0=true:=rfl
    simpa [ga_,q] using hc
  omega
end
section
theorem yO {k:Nat} {R:RR α k} (w:World) {e:TypeId} {r:List Value} {x:α} (h:R.p (w.alloc (.cells r.toArray e)) (fun b=>S b/\w.heap.size≠b) x r) (hS:S (w)):LA R (w.alloc (.cells r.toArray e)) S (S_ (some ⟨w,0,none⟩) 1 1) [x]:=by
 have c:(w.alloc (.cells r.toArray e)).heap[w.heap.size]?=some (.cells [r].flatten.toArray e (0,0)):=by simpa using heap_alloc_new w (.cells r.toArray e)
 have:=LO.fresh (R:=R) (base:=w.heap.size) (L:=[x]) (rows:=[r]) c (aQ _) ⟨h,trivial⟩ (by unfold maxLen;simp);exact this.laV (fun _ _ h=>h) (fun b a=>by simp only[Value.ownBlock,Option.some.injEq] at a;exact a ▸ hS)
theorem db_ (w:World) (S:Nat->Prop) (hS:S (w)):LA PlR (w.alloc (.cells #[I_ 0,I_ 0] 53)) S (S_ (some ⟨w,0,none⟩) 1 1) [⟨0,0⟩]:=yO (r:=[I_ 0,I_ 0]) w rfl hS
theorem ck_ (w:World) (S:Nat->Prop) (hS:S (w)) (x:Int):LA M_ (w.alloc (.cells #[I_ x] 3)) S (S_ (some ⟨w,0,none⟩) 1 1) [x]:=yO (r:=[I_ x]) w rfl hS
theorem wS (w:World) (S:Nat->Prop) (hS:S (w)) (x:Int):LA qN (w.alloc (.cells #[I_ x,I_ 0,I_ 0] 72)) S (S_ (some ⟨w,0,none⟩) 1 1) [⟨x,0,0⟩]:=yO (r:=[I_ x,I_ 0,I_ 0]) w rfl hS
theorem eV_:tJ [⟨0,0⟩]:=by
 refine ⟨fun x hx=>?_,bX,bX,fun i k x y hk hx hy=>?_⟩
 ·obtain rfl:=List.mem_singleton.1 hx;decide
 ·have hi:=bK hx;simp only[cL_,List.length_nil] at hi;omega
theorem fq_:tM [8]:=⟨z_,fun n hn=>by obtain rfl:=List.mem_singleton.1 hn;omega,by unfold cQ;simp⟩
theorem eu_:fY [⟨8,0,0⟩]:=⟨fun g hg=>by obtain rfl:=List.mem_singleton.1 hg;decide,bX,bX⟩
theorem xP:cE 1 1 1 sK:=cc_ rfl rfl rfl O_ eV_ fq_ eu_
theorem dT_ (h:LN w l cs W):C_ 28 #[S_ (some ⟨W,0,none⟩) 1 1,S_ (some ⟨W+1,0,none⟩) 1 1,S_ (some ⟨W+1+1,0,none⟩) 1 1] (((W.alloc (.cells #[I_ 0,I_ 0] 53)).alloc (.cells #[I_ 8] 3)).alloc (.cells #[I_ 8,I_ 0,I_ 0] 72)) (fun e W'=>∃v:Cv,e = .returned (.tuple #[cI v.a v.b v.c v.d v.e v.f v.g,I_ 0])/\v.C=sK/\LN w l (v :: cs) W'):=by
 have h3:LN w l cs (((W.alloc (.cells #[I_ 0,I_ 0] 53)).alloc (.cells #[I_ 8] 3)).alloc (.cells #[I_ 8,I_ 0,I_ 0] 72)):=((h.step (b_ B_ _)).step (b_ B_ _)).step (b_ B_ _);have s1:(W.alloc (.cells #[I_ 0,I_ 0] 53)).heap.size=W.heap.size+1:=z_
 have s2:((W.alloc (.cells #[I_ 0,I_ 0] 53)).alloc (.cells #[I_ 8] 3)).heap.size=W.heap.size+1+1:=z_
 have s:=((db_ W (LQ (fun _=>True) l) (h.fresh _ (aQ _))).alloc (.cells #[I_ 8] 3)).alloc (.cells #[I_ 8,I_ 0,I_ 0] 72);have j:=(ck_ (W.alloc (.cells #[I_ 0,I_ 0] 53)) (LQ (fun _=>True) l) (h.fresh _ O_) 8).alloc (.cells #[I_ 8,I_ 0,I_ 0] 72);have i:=wS ((W.alloc (.cells #[I_ 0,I_ 0] 53)).alloc (.cells #[I_ 8] 3)) (LQ (fun _=>True) l) (h.fresh _ O_) 8;rw [s1] at j;rw [s2] at i;refine (ec_ s eV_ j fq_ i eu_ (fun g i=>by obtain rfl:=List.mem_singleton.1 i;rfl) h3.fresh).mono ?_;rintro e W' ⟨C,a1,k,c1,m,n,o,p,q,rfl,hc,r⟩;exact ⟨⟨a1,k,c1,m,n,o,p,C⟩,rfl,q,(h3.step r).add hc⟩
theorem Aw.begA (h:Aw C x y) (hb:tC C 1 C' rq err):C'=qR C 0 0 x y 3/\rq = .agg (bJ 0 x.tenant y.dev 2 2 2 (iL x 3) false false 0)/\(iL x 3).size=16/\err=0:=by
 rcases hb with ⟨i,j,x2,y2,e,hu,hP⟩ | ⟨hn,_⟩
 ·obtain ⟨rfl,rfl,rfl,rfl⟩:=h.u.one hu O_;exact h.beg hP
 ·exact absurd h.u (hn 0 0 _ _ rfl)
theorem Aw.inv (h:Aw C x y) (hI:cE F G Z C):cE F G Z (qR C 0 0 x y 3):=
 hI.putB h.u (.inr ⟨⟨x.file,x.page,bR x.pg 3,x.tenant,x.holds,x.reading,3⟩,h.fr.ok,fun _=> .inl h.dirty,rfl,rfl,rfl,rfl⟩)
theorem Aw.io (h:Aw C x y) (hI:cE F G Z C):Io {C with files:=C.files.set 0 {y with seq:=1}}:=by
 obtain ⟨h1,h2,h3,h4⟩:=hI.io.file 0 y h.u.fl;exact hI.io.set ⟨h1,h2,h3,by show (0:Int)<=1;omega,by show (1:Int)<=65535;omega⟩
theorem Aw.datS (h:Aw C x y):((iL x 3).size:Int)=16:=by
 have hs:=h.u.ok.pg.len
 show ((x.pg.data.extract 0 16).size:Int)=16
 rw [bE_,hs]
 rfl
theorem cI_ (hdb:qM w):C_ 20 #[] w (cP true w):=by
 have a9:=H_ (fun w' (o:q_ w w')=>hdb.step o);have H0:=H_ (LN.start w);obtain ⟨dd,ag⟩:=aZ (iF 1 3 0 0);have a6:=H_ ag;clear hdb ag;go_enter func20,ntmps20
 go_upto_region 1 with fail
 go_cut [1] (fun s1 wx=>∃X v,s1 = P_ X/\v.C=sK/\LN w [(X,oK v)] [v] wx)
 case first=>
  go_wp2_with (first
   | (go_at_call 28;refine CM (dT_ H0) ?_;rintro S w3 ⟨v,rfl,Q,hl⟩;have j:=H_ (hl.push (cG) (w3) rfl);have HC:=H_ Q;clear hl Q)
   | (refine iD rfl (.tmp 1) (.tmp 30) rfl rfl v rfl rfl (j.bk _ _ cO) rfl (j.ck _ cO) ?_))
  go_meet
  case rel=>exact ⟨w3,v,rfl,HC,j.put 0 rfl⟩
 case rest=>
  clear H0;obtain ⟨X,v,rfl,Q,hl⟩:=hcut;have a7:=uH (F:=1) (G:=1) (Z:=1) sK 0 0 0 0 false awY vQ ⟨8,0,0⟩ 0 _ _ _ _ _ _ _ _ wc (Cv.to Q (hl.ck _ cO)) xP rfl O_ rfl rfl rfl (by decide +kernel) hl.fresh;rw [show ((0:Nat):Int)=0 from rfl] at a7;have i:=H_ hl;clear Q hl
  go_upto_region 2 with fail
  have k:=i.bk _ _ cO;obtain ⟨x0,u,A,B,D,E,H⟩:=aF k;clear k
  go_cut [3] from 33 to 37 (fun s3 wx=>∃v,s3 = I_ 1/\(∃l ac,v.C=oP sK 0 0 0 0 awY l ⟨8,0,0⟩ (cA sK.zones false 0).1 ac)/\cE 1 1 1 v.C/\LN w [(X,oK v)] [v] wx)
  case first=>
   go_wp2_with (first
    | (go_at_call 72;refine CM a7 ?_;rintro S w3 ⟨C,nn,er,a,b,c,d,e,f,g,hQ,rfl,hc,o⟩;have R:=(InP.inv hQ xP rfl O_ O_ rfl rfl).1;obtain ⟨ac,ad,rfl⟩:=h9_ hQ;have j:=H_ ((i.step o).add (v:=⟨a,b,c,d,e,f,g,C⟩) hc);have N:=H_ R;have HC:=H_ ad;clear hc o R ad hQ)
    | (refine iD rfl (.tmp 1) (.tmp 35) rfl rfl ⟨a,b,c,d,e,f,g,C⟩ rfl rfl (j.bk _ _ cO) rfl (j.ck _ cO) ?_))
   go_meet
   case rel=>exact ⟨⟨a,b,c,d,e,f,g,C⟩,rfl,⟨_,ac,HC.out⟩,N.out,(j.put 0 rfl).sub (fun c hc=>by obtain rfl:=List.mem_singleton.1 hc;exact .head _)⟩
  case rest=>
   clear i a7 x0 u A B D E H;obtain ⟨v,rfl,⟨l,ac,Q⟩,R,hl⟩:=hcut;rw [Q] at R;have a8:=zV (F:=1) (G:=1) (Z:=1) _ 0 0 0 qQ ⟨#[97,98,99]⟩ _ _ _ _ _ _ _ _ wc (Cv.to Q (hl.ck _ cO)) R a6_.fl rfl bX bX hl.fresh;rw [show ((0:Nat):Int)=0 from rfl] at a8;have i:=H_ hl;clear Q R hl
   go_upto_region 3 with fail
   have k:=i.bk _ _ cO;obtain ⟨x0,u,A,B,D,E,H⟩:=aF k;clear k
   go_cut [] from 39 to 42 (fun wx=>∃v x y,Aw v.C x y/\cE 1 1 1 v.C/\LN w [(X,oK v)] [v] wx)
   case first=>
    go_wp2_with (first
     | (go_at_call 34;refine CM a8 ?_;rintro S w3 ⟨C,er,a,b,c,d,e,f,g,hQ,rfl,hc,o⟩;have R:=hQ.1;obtain ⟨x,y,hA⟩:=dU_ hQ;have j:=H_ ((i.step o).add (v:=⟨a,b,c,d,e,f,g,C⟩) hc);have N:=H_ R;have P:=H_ hA;clear hc o R hA hQ)
     | (refine iD rfl (.tmp 1) (.tmp 41) rfl rfl ⟨a,b,c,d,e,f,g,C⟩ rfl rfl (j.bk _ _ cO) rfl (j.ck _ cO) ?_))
    go_meet
    case rel=>exact ⟨⟨a,b,c,d,e,f,g,C⟩,x,y,P.out,N.out,(j.put 0 rfl).sub (fun c hc=>by obtain rfl:=List.mem_singleton.1 hc;exact .head _)⟩
   case rest=>
    clear i a8 x0 u A B D E H;obtain ⟨v,x,y,hA,R,hl⟩:=hcut;obtain ⟨P,N,i⟩:=eT hA R hl;clear hA R hl
    go_upto_region 4 with fail
    have k:=i.bk _ _ cO;obtain ⟨x0,u,A,B,D,E,H⟩:=aF k;clear k;have n:=aB_ v.C 1 _ _ _ _ _ _ _ _ wc (i.ck _ cO) N i.fresh (a9 _ i.iv)
    go_cut [5,6,7] from 43 to 49 (fun s5 s6 s7 wx=>∃W Y v5,s5 = P_ W/\s6 = P_ Y/\s7 = I_ 0/\v5.C=qR v.C 0 0 x y 3/\LN w [(X,oK v),(W,oK v5),(Y,.cells (bJ 0 x.tenant y.dev 2 2 2 (iL x 3) false false 0) 37 (0,0))] [v5,v] wx)
    case first=>
     go_wp2_with (first
      | (go_at_call 10;refine CM n ?_;rintro S w3 ⟨V,err,a',b',q,r,s,f',t,rq,I,rfl,hc,o⟩;obtain ⟨rfl,rfl,_,rfl⟩:=P.begA I;clear I;have j:=H_ ((i.step o).add (v:=(⟨_,_,_,_,_,_,_,_⟩:Cv)) hc);obtain ⟨p,k2,m⟩:=j.box2 (E_ none 0 0 none 0 0 none 0 0 none 0 0 none 0 0 none 0 0 none 0 0) #[a',b',q,r,s,f',t] lO (bJ 0 x.tenant y.dev 2 2 2 (iL x 3) false false 0) 30 37;obtain ⟨M,O,K2⟩:=eT m p k2;clear m p k2;clear o hc)
      | (refine iD rfl (.tmp 5) (.tmp 47) rfl rfl (⟨a',b',q,r,s,f',t,(qR v.C 0 0 x y 3)⟩:Cv) rfl rfl O rfl (j.ck _ cO) ?_)
      | (refine cV rfl 37 (.tmp 6) (.tmp 48) rfl rfl (w3+1) ((bJ 0 x.tenant y.dev 2 2 2 (iL x 3) false false 0)) rfl rfl 37 (lO) ?_ bT rfl (dX) ?_;exact K2))
     go_meet
     case rel=>exact ⟨w3,w3+1,(⟨a',b',q,r,s,f',t,(qR v.C 0 0 x y 3)⟩:Cv),rfl,rfl,rfl,rfl,M.out⟩
    case rest=>
     clear i n x0 u A B D E H;obtain ⟨W,Y,v5,rfl,rfl,rfl,J,hl⟩:=hcut;have H5:=H_ J;clear J;have i:=H_ hl;clear hl
     go_upto_region 5 with fail
     have k:=i.bk _ _ jQ;obtain ⟨x0,u,A,B,D,E,H⟩:=aF k;clear k;have n:=e9_ (qR v.C 0 0 x y 3) 1 _ _ _ _ _ _ _ _ wc (Cv.to H5 (i.ck _ cO)) (P.inv N) i.fresh 0
     go_cut [8,9] from 51 to 55 (fun s8 s9 wx=>∃X8 v8,s8 = P_ X8/\s9 = I_ 0/\(v8.C.files.length=1/\∃y2,v8.C.files[0]?=some y2/\y2.blocks=1)/\LN w [(X,oK v),(W,oK v5),(Y,.cells (bJ 0 x.tenant y.dev 2 2 2 (iL x 3) false false 0) 37 (0,0)),(X8,oK v8)] [v8,v5,v] wx)
     case first=>
      go_wp2_with (first
       | (go_at_call 16;refine CM n ?_;rintro S w3 ⟨V,err,a',b',q,r,s,f',t,I,rfl,hc,o⟩;obtain ⟨rfl,h1,h2⟩:=P.ended I;clear I;have HF:=H_ (And.intro h1 h2);clear h1 h2;have j:=H_ ((i.step o).add (v:=(⟨_,_,_,_,_,_,_,_⟩:Cv)) hc);obtain ⟨p,m⟩:=j.box1 (E_ none 0 0 none 0 0 none 0 0 none 0 0 none 0 0 none 0 0 none 0 0) #[a',b',q,r,s,f',t] 30;have M:=H_ m;have O:=H_ p;clear m p;clear o hc)
       | (refine iD rfl (.tmp 8) (.tmp 54) rfl rfl (⟨a',b',q,r,s,f',t,V⟩:Cv) rfl rfl O rfl (j.ck _ cO) ?_))
      go_meet
      case rel=>exact ⟨w3,(⟨a',b',q,r,s,f',t,V⟩:Cv),rfl,rfl,HF,M.out⟩
     case rest=>
      clear i n x0 u A B D E H;obtain ⟨X8,v8,rfl,rfl,hF,hl⟩:=hcut;have au:=H_ hF;clear hF;have i:=H_ hl;clear hl
      go_upto_region 6 with fail
      have k:=i.bk _ _ cO;obtain ⟨x0,u,A,B,D,E,H⟩:=aF k;clear k;have n:=df_ v.C 0 _ _ _ _ _ _ _ _ wc (i.ck _ jB) N.io i.fresh 3
      go_cut [10,11,12,13] from 57 to 62 (fun s10 s11 s12 s13 wx=>∃XA XB XC v10,s10 = P_ XA/\s11 = P_ XB/\s12 = P_ XC/\s13 = I_ 0/\v10.C={v.C with files:=v.C.files.set 0 {y with seq:=1}}/\LN w [(X,oK v),(W,oK v5),(Y,.cells (bJ 0 x.tenant y.dev 2 2 2 (iL x 3) false false 0) 37 (0,0)),(X8,oK v8),(XA,oK v10),(XB,.cells (bJ 0 0 y.dev 2 1 1 dd true true 0) 37 (0,0)),(XC,.cells #[I_ 1,I_ 3,I_ 0] 62 (0,0))] [v10,v8,v5,v] wx)
      case first=>
       go_wp2_with (first
        | (go_at_call 22;refine CM n ?_;rintro S w3 ⟨V,rq,bb,err,a',b',q,r,s,f',t,I,rfl,hc,o⟩;have af:=P.com N I;rw [<-a6.out] at af;obtain ⟨rfl,rfl,rfl,rfl⟩:=af;clear I;have j:=H_ ((i.step o).add (v:=(⟨_,_,_,_,_,_,_,_⟩:Cv)) hc);obtain ⟨p,k2,k3,m⟩:=j.box3 (E_ none 0 0 none 0 0 none 0 0 none 0 0 none 0 0 none 0 0 none 0 0) #[a',b',q,r,s,f',t] lO (bJ 0 0 y.dev 2 1 1 dd true true 0) #[I_ 0,I_ 0,I_ 0] #[I_ 1,I_ 3,I_ 0] 30 37 62;obtain ⟨M,O,K2,K3⟩:=sP m p k2 k3;clear m p k2 k3;clear o hc)
        | (refine iD rfl (.tmp 10) (.tmp 59) rfl rfl (⟨a',b',q,r,s,f',t,{v.C with files:=v.C.files.set 0 {y with seq:=1}}⟩:Cv) rfl rfl O rfl (j.ck _ cO) ?_)
        | (refine cV rfl 37 (.tmp 11) (.tmp 60) rfl rfl (w3+1) ((bJ 0 0 y.dev 2 1 1 dd true true 0)) rfl rfl 37 (lO) ?_ bT rfl (dX) ?_;exact K2)
        | (refine cV rfl 62 (.tmp 12) (.tmp 61) rfl rfl (w3+1+1) (#[I_ 1,I_ 3,I_ 0]) rfl rfl 62 (#[I_ 0,I_ 0,I_ 0]) ?_ jI rfl (oO) ?_;exact K3))
       go_meet
       case rel=>exact ⟨w3,w3+1,w3+1+1,(⟨a',b',q,r,s,f',t,{v.C with files:=v.C.files.set 0 {y with seq:=1}}⟩:Cv),rfl,rfl,rfl,rfl,rfl,M.out⟩
      case rest=>
       clear i n x0 u A B D E H;obtain ⟨XA,XB,XC,v10,rfl,rfl,rfl,rfl,J,hl⟩:=hcut;have aq:=H_ J;clear J;have i:=H_ hl;clear hl
       go_upto_region 7 with fail
       have k:=i.bk _ _ M4_;obtain ⟨x0,u,A,B,D,E,H⟩:=aF k;clear k;have k:=i.bk _ _ M6_;obtain ⟨i0,i1,i2⟩:=cL k;clear k;have n:=yH {v.C with files:=v.C.files.set 0 {y with seq:=1}} 0 _ _ _ _ _ _ _ _ wc (Cv.to aq (i.ck _ cO)) (P.io N) i.fresh 1 3 0 0
       unfold qY at n
       go_cut [14,15] from 64 to 68 (fun s14 s15 wx=>∃XE v14,s14 = P_ XE/\s15 = I_ 0/\(v14.C.files.length=1/\∃y2,v14.C.files[0]?=some y2/\y2.which=1)/\LN w [(X,oK v),(W,oK v5),(Y,.cells (bJ 0 x.tenant y.dev 2 2 2 (iL x 3) false false 0) 37 (0,0)),(X8,oK v8),(XA,oK v10),(XB,.cells (bJ 0 0 y.dev 2 1 1 dd true true 0) 37 (0,0)),(XC,.cells #[I_ 1,I_ 3,I_ 0] 62 (0,0)),(XE,oK v14)] [v14,v10,v8,v5,v] wx)
       case first=>
        go_wp2_with (first
         | (go_at_call 26;refine CM n ?_;rintro S w3 ⟨V,err,a',b',q,r,s,f',t,I,rfl,hc,o⟩;obtain ⟨rfl,h1,h2⟩:=P.cmd N.out I;clear I;have HF:=H_ (And.intro h1 h2);clear h1 h2;have j:=H_ ((i.step o).add (v:=(⟨_,_,_,_,_,_,_,_⟩:Cv)) hc);obtain ⟨p,m⟩:=j.box1 (E_ none 0 0 none 0 0 none 0 0 none 0 0 none 0 0 none 0 0 none 0 0) #[a',b',q,r,s,f',t] 30;have M:=H_ m;have O:=H_ p;clear m p;clear o hc)
         | (refine iD rfl (.tmp 14) (.tmp 67) rfl rfl (⟨a',b',q,r,s,f',t,V⟩:Cv) rfl rfl O rfl (j.ck _ cO) ?_))
        go_meet
        case rel=>exact ⟨w3,(⟨a',b',q,r,s,f',t,V⟩:Cv),rfl,rfl,HF,M.out⟩
       case rest=>
        clear i n x0 u A B D E H i0 i1 i2;obtain ⟨XE,v14,rfl,rfl,hF,hl⟩:=hcut;have aa:=H_ hF;clear hF;have i:=H_ hl;clear hl
        go_upto_region 8 with fail
        have k:=i.bk _ _ cO;obtain ⟨x0,u,A,B,D,E,H⟩:=aF k;clear k;have n:=fa_ v.C 1 _ _ _ _ _ _ _ _ wc (i.ck _ M4_) N (a9 _ i.iv)
        go_cut [16,17] from 70 to 74 (fun s16 s17 wx=>∃XF,s16 = P_ XF/\s17 = I_ 4/\LN w [(X,oK v),(W,oK v5),(Y,.cells (bJ 0 x.tenant y.dev 2 2 2 (iL x 3) false false 0) 37 (0,0)),(X8,oK v8),(XA,oK v10),(XB,.cells (bJ 0 0 y.dev 2 1 1 dd true true 0) 37 (0,0)),(XC,.cells #[I_ 1,I_ 3,I_ 0] 62 (0,0)),(XE,oK v14),(XF,lK)] [v14,v10,v8,v5,v] wx)
        case first=>
         go_wp2_with (first
          | (go_at_call 18;refine CM n ?_;rintro S w3 ⟨rq,err,I,rfl,o⟩;obtain ⟨rfl,rfl⟩:=P.fet I;clear I;have j:=H_ ((i.step o));obtain ⟨p,m⟩:=j.box1 lO lO 37;have M:=H_ m;have O:=H_ p;clear m p;clear o)
          | (refine cV rfl 37 (.tmp 16) (.tmp 73) rfl rfl w3 (lO) rfl rfl 37 (lO) ?_ bT rfl (dX) ?_;exact O))
         go_meet
         case rel=>exact ⟨w3,rfl,rfl,M.out⟩
        case rest=>
         clear i n x0 u A B D E H;obtain ⟨XF,rfl,rfl,hl⟩:=hcut;have i:=H_ hl;clear hl
         go_upto_region 9 with fail
         go_cut [18] from 76 to 83 (fun s18 wx=>∃XG v18,s18 = P_ XG/\v18.C=sK/\LN w [(X,oK v),(W,oK v5),(Y,.cells (bJ 0 x.tenant y.dev 2 2 2 (iL x 3) false false 0) 37 (0,0)),(X8,oK v8),(XA,oK v10),(XB,.cells (bJ 0 0 y.dev 2 1 1 dd true true 0) 37 (0,0)),(XC,.cells #[I_ 1,I_ 3,I_ 0] 62 (0,0)),(XE,oK v14),(XF,lK),(XG,oK v18)] [v18,v14,v10,v8,v5,v] wx)
         case first=>
          go_wp2_with (first
           | (go_at_call 28;refine CM (dT_ i) ?_;rintro S w3 ⟨v18,rfl,Q,hl⟩;have j:=H_ hl;obtain ⟨p,m⟩:=hl.box1 (E_ none 0 0 none 0 0 none 0 0 none 0 0 none 0 0 none 0 0 none 0 0) #[v18.a,v18.b,v18.c,v18.d,v18.e,v18.f,v18.g] 30;obtain ⟨M,O,HC⟩:=eT m p Q;clear hl Q m p)
           | (refine iD rfl (.tmp 18) (.tmp 82) rfl rfl v18 rfl rfl (O) rfl (j.ck _ cO) ?_))
          go_meet
          case rel=>exact ⟨w3,v18,rfl,HC,M.out⟩
         case rest=>
          clear i;obtain ⟨XG,v18,rfl,J,hl⟩:=hcut;have ar:=H_ J;clear J;have i:=H_ hl;clear hl
          go_upto_region 10 with fail
          have k:=i.bk _ _ M9_;obtain ⟨x0,u,A,B,D,E,H⟩:=aF k;clear k;have k:=i.bk _ _ M5_;have i6:=a_ k 6;simp only[zl] at i6;clear k;have n:=gK_ sK 0 _ _ _ _ _ _ _ _ wc (Cv.to ar (i.ck _ cO)) xP.io xP.use i.fresh ⟨#[]⟩ dd (show (⟨#[]⟩:ByteArray).size<=maxLen from Nat.zero_le _) (by have:(iF 1 3 0 0).size=8:=(by decide +kernel);rw [<-a6.out] at this;unfold maxLen;omega)
          go_cut [20,21] from 85 to 90 (fun s20 s21 wx=>∃XH v20,s20 = P_ XH/\s21 = I_ 0/\(v20.C.files.length=1/\∃y2,v20.C.files[0]?=some y2/\y2.size=3)/\LN w [(X,oK v),(W,oK v5),(Y,.cells (bJ 0 x.tenant y.dev 2 2 2 (iL x 3) false false 0) 37 (0,0)),(X8,oK v8),(XA,oK v10),(XB,.cells (bJ 0 0 y.dev 2 1 1 dd true true 0) 37 (0,0)),(XC,.cells #[I_ 1,I_ 3,I_ 0] 62 (0,0)),(XE,oK v14),(XF,lK),(XG,oK v18),(XH,oK v20)] [v20,v18,v14,v10,v8,v5,v] wx)
          case first=>
           go_wp2_with (first
            | (go_at_call 30;refine CM n ?_;rintro S w3 ⟨V,err,a',b',q,r,s,f',t,I,rfl,hc,o⟩;rw [a6.out] at I;obtain ⟨rfl,h1,h2⟩:=fZ_ I;clear I;have HF:=H_ (And.intro h1 h2);clear h1 h2;have j:=H_ ((i.step o).add (v:=(⟨_,_,_,_,_,_,_,_⟩:Cv)) hc);obtain ⟨p,m⟩:=j.box1 (E_ none 0 0 none 0 0 none 0 0 none 0 0 none 0 0 none 0 0 none 0 0) #[a',b',q,r,s,f',t] 30;have M:=H_ m;have O:=H_ p;clear m p;clear o hc)
            | (refine iD rfl (.tmp 20) (.tmp 89) rfl rfl (⟨a',b',q,r,s,f',t,V⟩:Cv) rfl rfl O rfl (j.ck _ cO) ?_))
           go_meet
           case rel=>exact ⟨w3,(⟨a',b',q,r,s,f',t,V⟩:Cv),rfl,rfl,HF,M.out⟩
          case rest=>
           clear i n x0 u A B D E H i6;obtain ⟨XH,v20,rfl,rfl,hF,hl⟩:=hcut;have ab:=H_ hF;clear hF;have i:=H_ hl;clear hl
           go_upto_region 11 with fail
           obtain ⟨a1,y8,aj,ah⟩:=au.out;obtain ⟨a,b,c,d,e,f,g,Cx⟩:=v8;have hc:x_ _ _ a b c d e f g Cx:=i.ck _ M4_;obtain ⟨A8,b9,rfl,_,_⟩:=hc.files.form;obtain ⟨b8,bc,_,_,_,rfl,_,_,_,_,_,r8⟩:=FlA.cells hc.files aj;have z8:=r8 7 _ rfl;have a1:Cx.files.length=1:=a1;have k:=i.bk _ _ tI;have p8:=xV k;clear k hc r8;obtain ⟨K,bd,a4,a2⟩:=aa.out;obtain ⟨a,b,c,d,e,f,g,Cx⟩:=v14;have hc:x_ _ _ a b c d e f g Cx:=i.ck _ jB;obtain ⟨b6,b2,rfl,_,_⟩:=hc.files.form;obtain ⟨b0,b4,_,_,_,rfl,_,_,_,_,_,am⟩:=FlA.cells hc.files a4;have ao:=am 13 _ rfl;have K:Cx.files.length=1:=K;have k:=i.bk _ _ M7_;have ax:=xV k;clear k hc am;obtain ⟨L,be,a5,a3⟩:=ab.out;obtain ⟨a,b,c,d,e,f,g,Cx⟩:=v20;have hc:x_ _ _ a b c d e f g Cx:=i.ck _ cO;obtain ⟨b7,b3,rfl,_,_⟩:=hc.files.form;obtain ⟨b1,b5,_,_,_,rfl,_,_,_,_,_,an⟩:=FlA.cells hc.files a5;have ap:=an 6 _ rfl;have L:Cx.files.length=1:=L;have k:=i.bk _ _ (.tail _ (.tail _ (.tail _ (.tail _ (.tail _ (.tail _ (.tail _ (.tail _ (.tail _ (.tail _ (.head _)))))))))));have ay:=xV k;clear k hc an;have k:=i.bk _ _ jB;have q3:=a_ k 3;have q4:=a_ k 4;have q5:=a_ k 5;have q6:=a_ k 6;simp only[zl] at q3 q4 q5 q6;clear k;have k:=i.bk _ _ M5_;have ak:=a_ k 4;have al:=a_ k 8;simp only[zl] at ak al;clear k;have k:=i.bk _ _ M6_;have i1:=a_ k 1;simp only[zl] at i1
           clear k;have ba:=P.datS;rw [a1] at p8;rw [K] at ax;rw [L] at ay;rw [ah] at z8;rw [a2] at ao;rw [a3] at ap;rw [Nat.zero_mul,Nat.add_zero] at z8 ao ap;have ai:=fun w' (o:q_ wc w')=>dj_ v.C 0 _ _ _ _ _ _ _ _ w' (x_.step (i.ck _ M6_) o) N (fun z hz=>i.fresh z (dO o.size hz));have ae:=fun w' (o:q_ wc w')=>bs_ v.C 0 _ _ _ _ _ _ _ _ w' (x_.step (i.ck _ M6_) o) 3;rw [P.wan] at ai;rw [P.chg N.out] at ae;have k:=i.bk _ _ cO;obtain ⟨x0,u,A,B,D,E,H⟩:=aF k;have av:=p_ k;have U:=i.iv;clear k a1 K L ah a2 a3 aj a4 a5
           go_upto_region 12 with fail
           clear q3 q4 q5 q6 ak al i1 p8 z8
           go_wp2_with (first
            | (go_at_call 12;refine CM (ai _ B_) ?_;rintro S w3 ⟨v,rfl,hv,a0⟩;obtain ⟨A9,c9,rfl,_,_⟩:=hv.form;have az:=kt7 (a0.block _ av) x0 u A B D E H;clear x0 u A B D E H;obtain ⟨x0,u,A,B,D,E,H⟩:=az)
            | (go_at_call 24;refine CM (ae _ a0) ?_;rintro S w4 ⟨rfl,aw⟩))
           go_ret;exact ⟨A_ rfl,(U.trans (a0.mono U.size)).trans (aw.mono (dO U.size a0.size))⟩
end
section
abbrev rqR (a0 a1 a2 a3 a4 a5:Int) (d:ByteArray) (b c:Bool) (t:Int):Array Value:=bJ a0 a1 a2 a3 a4 a5 d b c t
theorem pX:∃a0 a1 a2 a3 a4 a5 d b c t,rq0 = .agg (rqR a0 a1 a2 a3 a4 a5 d b c t):=⟨_,_,_,_,_,_,_,_,_,_,rfl⟩
theorem tC.row (h:tC C n C' rq e):∃a0 a1 a2 a3 a4 a5 d b c t,rq = .agg (rqR a0 a1 a2 a3 a4 a5 d b c t):=by
 rcases h with ⟨i,j,x,y,_,_,hP⟩ | ⟨_,_,rfl,_⟩
 ·unfold jR at hP
  split at hP
  ·rw [hP.2.1];exact pX
  split at hP
  ·rw [hP.2.1];exact pX
  ·rw [hP.2.1];exact ⟨_,_,_,_,_,_,_,_,_,_,rfl⟩
 ·exact pX
theorem aZ_.row (h:aZ_ C n rq e):∃a0 a1 a2 a3 a4 a5 d b c t,rq = .agg (rqR a0 a1 a2 a3 a4 a5 d b c t):=by
 rcases h with ⟨i,j,x,y,_,_,hP⟩ | ⟨_,rfl,_⟩
 ·unfold rZ at hP
  split at hP
  ·rw [hP.1];exact pX
  ·rw [hP.1];exact ⟨_,_,_,_,_,_,_,_,_,_,rfl⟩
 ·exact pX
theorem tC.inv (h:tC C n C' rq e) (hI:cE F G Z C):cE F G Z C':=by
 rcases h with ⟨i,j,x,y,_,hu,hP⟩ | ⟨_,rfl,_⟩
 ·exact hI.putB hu (hP.q hu)
 ·exact hI
theorem zC.inv (h:zC C n k C' e) (hI:cE F G Z C):cE F G Z C':=by
 rcases h with ⟨i,j,x,y,_,hu,hP⟩ | ⟨_,rfl,_⟩
 ·exact hI.putQ hu (hP.q hu (hI.file j y hu.fl).err)
 ·exact hI
end
section
theorem jH_ {b:Nat} (hT:Tp W b w):C_ 32 #[P_ b] w fun e w'=>∃q,e = .returned (.bool q)/\q_ w w':=by
 obtain ⟨⟨a,len,cap,k,h1,h2,h3,c⟩,_⟩:=hT;have c0:w.cell? ⟨b,0,none⟩=some (S_ a len cap):=by rw [a_ h1];rfl
 have c1:w.cell? ⟨b,1,none⟩=some (I_ (k:Int)):=by rw [a_ h1];rfl
 go_enter func32,ntmps32;go_wp2;go_quiet (fail);go_wp2;go_ret;exact ⟨_,rfl,below_drewN B_ _⟩
theorem iL_ {k:Nat} {R:RR α k} {g n:Nat} {e:TypeId} {rows:List (List Value)} {L:List α} (hg:w.heap[g]?=some (.cells rows.flatten.toArray e (0,0))) (h:cB (R.p w (fun b=>S b/\g≠b)) L rows) (hn:L.length=n) (hm:n<=maxLen) (hS:S g):LA R w S (S_ (some ⟨g,0,none⟩) n n) L:=by
 subst hn;have:=LO.fresh (base:=g) hg (aQ _) h hm;exact this.laV (fun _ _ h=>h) (fun b hb=>by simp only[Value.ownBlock,Option.some.injEq] at hb;exact hb ▸ hS)
theorem Tp.old {a:Option Addr} {len cap:Nat} {zs:List Int} (h:bP_ .i64 W a len cap zs) (hB:q_ W w):Tp W (w) (w.alloc (.cells #[S_ a len cap,I_ 0] 76)):=by
 refine ⟨⟨a,len,cap,0,heap_alloc_new _ _,Nat.zero_le _,?_,?_⟩,b_ hB _,hB.size⟩
 ·rcases h with ⟨_,rfl,_⟩ | ⟨x,_,h1,h2,_⟩
  ·exact Nat.zero_le _
  ·exact dO h1 h2
 ·intro i j
  rcases h with ⟨_,rfl,_⟩ | ⟨x,rfl,h1,h2,h3,h4,h5⟩
  ·omega
  ·obtain ⟨c,o,g⟩:=x;have hc:=h4 i O_;have d:=h4 0 O_;have f:g=none:=by simpa [Addr.add] using World.cell?_spot d
   subst f;rw [Addr.add_mid] at hc;have b:=World.block_lt_of_cell? W ⟨c,o+i,none⟩ hc;exact ⟨c,o,zs.getD i 0,rfl,iS b hB.size,((b_ hB _).cell b).trans hc⟩
abbrev LT (w:World) (t:Nat):=LZ (Tp w t) (t+1) (fun z=>z≠t)
theorem LT.mk {cs:List Cv} (hT:Tp w t W) (hc:∀c ∈ cs,c.at_ W (LQ (fun z=>z≠t) [])):LT w t [] cs W:=
 ⟨hT,fun W W' h hb=>h.step hb,fun W W' g h hb hg=>h.gb hb hg,fun z hz=>by omega,hT.lt,fun g o hm=>(by cases hm),fun g o hm=>(by cases hm),List.nodup_nil,hc⟩
theorem LT.read {W':World} (h:LT w t l cs W) (hT:Tp w t W') (hg:W.grownBy W' (some t)):LT w t l cs W':=
 ⟨hT,h.st,h.rw_,h.nq,hT.lt,fun g o hm=>iO hg (by have:=h.gt g o hm;omega) (h.bk g o hm),h.gt,h.nd,fun c hc=>x_.kept (h.ck c hc) (hH_ hg (fun q=>q.1 rfl))⟩
section
variable {I:World->Prop} {N:Nat} {Q:Nat->Prop} {W W':World} {l l':List (Nat × Obj)} {cs:List Cv}
theorem LZ.few (h:LZ I N Q l cs W) (hs:l'.Sublist l):LZ I N Q l' cs W:=
 ⟨h.iv,h.st,h.rw_,h.nq,h.nw,fun g o a=>h.bk g o (hs.subset a),fun g o a=>h.gt g o (hs.subset a),(hs.map _).nodup h.nd,fun c hc=>x_.weak (h.ck c hc) (fun z _ b=>⟨b.1,fun a=>b.2 ((hs.map _).subset a)⟩)⟩
end
abbrev tY (D:List UInt8):Obj:= .cells (D.map (fun b=>Value.int .u8 (b.toNat:Int))).toArray 5 (0,0)
theorem eh_ {db:Nat} (h:W.heap[db]?=some (tY D)):xG D db W:=fun k hk=>by rw [a_ h];simp [hk]
theorem jP_:madeCells #[Value.int .u8 0] 1024=((List.replicate 1024 (0:UInt8)).map (fun b=>Value.int .u8 (b.toNat:Int))).toArray:=by
 apply Array.ext';have h:=rA 1024;rw [show (Value.int .u8 0).cells=#[Value.int .u8 0] from rfl,Nat.mul_one] at h;rw [h,List.map_replicate,List.toList_toArray]
 rfl
theorem LZ.disk {Q:Nat->Prop} (h:LZ I N Q l cs W):LZ I N Q (l ++ [(W.heap.size,tY (List.replicate 1024 0))]) cs (W.alloc (.cells (madeCells #[.int .u8 0] 1024) 5)):=by
 rw [jP_];exact h.push _ _ rfl
def spD (D:List UInt8) (o:Nat) (s:ByteArray):List UInt8:=D.take o ++ (s.data.toList ++ D.drop (o+s.size))
theorem g8_ (h:o+s.size<=D.length):(spD D o s).length=D.length:=by
 have:s.data.toList.length=s.size:=Array.length_toList;simp only[spD,aL_,List.length_take,List.length_drop,this];omega
theorem g9_ (h:o+s.size<=D.length):Spl D o s (spD D o s):=fun q=>by
 have hl:s.data.toList.length=s.size:=Array.length_toList;have a:(D.take o).length=o:=by rw [List.length_take];omega
 unfold spD;simp only[List.getD_eq_getElem?_getD]
 by_cases h1:q<o
 ·rw [if_neg O_,gL_ O_,tG_ h1]
 ·rw [List.getElem?_append_right O_,a]
  by_cases h2:q<o+s.size
  ·rw [if_pos ⟨O_,h2⟩,gL_ O_]
  ·rw [if_neg O_,List.getElem?_append_right O_,hl,List.getElem?_drop,show o+s.size+(q - o - s.size)=q by omega]
theorem yP {P:Program} (w:World) (dT sT ty elem:TypeId) (g o dLen dCap:Nat) (s:ByteArray) (D:List UInt8) (t:TypeId)
  (hu:P.underlying dT=some (.slice elem)) (hs:(P.info? elem).map (·.size)=some 1) (hg:w.heap[g]?=some (.cells (D.map (fun b=>Value.int .u8 (b.toNat:Int))).toArray t (0,0))) (hl:s.size<=dLen) (hfit:o+s.size<=D.length) :
  (Builtin.copy_ #[dT,sT] ty #[S_ (some ⟨g,o,none⟩) dLen dCap,.string s]).run P w = .ok (goInt s.size) (w.setRow g ((spD D o s).map (fun b=>Value.int .u8 (b.toNat:Int))).toArray):=by
 have c:s.data.toList.length=s.size:=Array.length_toList;have a:=run_storeCells_at P g o t (s.data.toList.map (fun b=>Value.int .u8 (b.toNat:Int))) 0 _ w hg (by simpa [c] using hfit) (fun v hv=>by
  obtain ⟨b,_,rfl⟩:=List.mem_map.1 hv
  rfl)
 have d:s.extract 0 s.size=s:=z_
 have j:Nat.min s.size dLen=s.size:=Nat.min_eq_left hl;have k:((D.map (fun b=>Value.int .u8 (b.toNat:Int))).toArray.toList.take (o+0) ++ s.data.toList.map (fun b=>Value.int .u8 (b.toNat:Int)) ++ (D.map (fun b=>Value.int .u8 (b.toNat:Int))).toArray.toList.drop (o+0+(s.data.toList.map (fun b=>Value.int .u8 (b.toNat:Int))).length)).toArray=((spD D o s).map (fun b=>Value.int .u8 (b.toNat:Int))).toArray:=by
  unfold spD;simp [c]
 rw [k] at a
 cases hq:P.info? elem with
 | none=>simp [hq] at hs
 | some i=>
  have f:i.size=1:=by simpa [hq] using hs
  have m:(s.data.map (fun b=>Value.int .u8 (b.toNat:Int))).toList=s.data.toList.map (fun b=>Value.int .u8 (b.toNat:Int)):=z_
  simp only[Builtin.copy_,Builtin.lenOf,Builtin.firstCells];have l:(s.data.toList.map (fun b=>Value.int .u8 (b.toNat:Int))).take s.size=s.data.toList.map (fun b=>Value.int .u8 (b.toNat:Int)):=tL_ (by rw [mL_,c];exact aQ _);simp [run_underlying hu,sizeOf,typeInfo,hq,f,j,d,m,a,l]
theorem sH {P:Program} {ops:Array Oper} {rest:List Oper} {o:Oper} {a:Act} {Q:Exit->Act->World->Prop} (hgd:o.guard=none) (d s:Operand) (dT sT:TypeId)
  (ho:o.op = .call {callee:= .builtin .copy,args:=#[d,s],argTypes:=#[dT,sT]}) (elem:TypeId) (hu:P.underlying dT=some (.slice elem)) (hsz:(P.info? elem).map (·.size)=some 1)
  (g off dLen dCap:Nat) (x:ByteArray) (hd:a.eval d = S_ (some ⟨g,off,none⟩) dLen dCap) (hs:a.eval s = .string x)
  (D:List UInt8) (t:TypeId) (hg:w.heap[g]?=some (.cells (D.map (fun b=>Value.int .u8 (b.toNat:Int))).toArray t (0,0))) (hl:x.size<=dLen) (hfit:off+x.size<=D.length)
  (h:wpList P ops Q rest (a.put o.dst (goInt x.size)) (w.setRow g ((spD D off x).map (fun b=>Value.int .u8 (b.toNat:Int))).toArray)):wpList P ops Q (o :: rest) a w:=by
 refine wpList_plain hgd fun K f=>?_;have c:=yP (P:=P) w dT sT o.type elem g off dLen dCap x D t hu hsz hg hl hfit;unfold Oper.wp;simp [execOp,ho,resolve,invoke,builtin,hd,hs,c,Result.andThen];exact f _ _ h
theorem bK_ (w:World) (S:Nat->Prop) (hS:S (w)):LA PlR (w.alloc (.cells #[I_ 0,I_ 0,I_ 0,I_ 1] 53)) S (S_ (some ⟨w,0,none⟩) 2 2) [⟨0,0⟩,⟨0,1⟩]:=
 iL_ (rows:=[[I_ 0,I_ 0],[I_ 0,I_ 1]]) (heap_alloc_new _ _) ⟨rfl,rfl,trivial⟩ rfl (by unfold maxLen;omega) hS
theorem is_ {Q:Nat->Prop} (h:LZ I N Q l cs W):C_ 28 #[S_ (some ⟨W,0,none⟩) 2 2,S_ (some ⟨W+1,0,none⟩) 1 1,S_ (some ⟨W+1+1,0,none⟩) 1 1] (((W.alloc (.cells #[I_ 0,I_ 0,I_ 0,I_ 1] 53)).alloc (.cells #[I_ 8] 3)).alloc (.cells #[I_ 8,I_ 0,I_ 0] 72)) (fun e W'=>∃v:Cv,e = .returned (.tuple #[cI v.a v.b v.c v.d v.e v.f v.g,I_ 0])/\v.C=imC/\LZ I N Q l (v :: cs) W'):=by
 have h3:LZ I N Q l cs (((W.alloc (.cells #[I_ 0,I_ 0,I_ 0,I_ 1] 53)).alloc (.cells #[I_ 8] 3)).alloc (.cells #[I_ 8,I_ 0,I_ 0] 72)):=((h.step (b_ B_ _)).step (b_ B_ _)).step (b_ B_ _);have s1:(W.alloc (.cells #[I_ 0,I_ 0,I_ 0,I_ 1] 53)).heap.size=W.heap.size+1:=z_
 have s2:((W.alloc (.cells #[I_ 0,I_ 0,I_ 0,I_ 1] 53)).alloc (.cells #[I_ 8] 3)).heap.size=W.heap.size+1+1:=z_
 have s:=((bK_ W (LQ Q l) (h.fresh _ (aQ _))).alloc (.cells #[I_ 8] 3)).alloc (.cells #[I_ 8,I_ 0,I_ 0] 72);have j:=(ck_ (W.alloc (.cells #[I_ 0,I_ 0,I_ 0,I_ 1] 53)) (LQ Q l) (h.fresh _ O_) 8).alloc (.cells #[I_ 8,I_ 0,I_ 0] 72);have i:=wS ((W.alloc (.cells #[I_ 0,I_ 0,I_ 0,I_ 1] 53)).alloc (.cells #[I_ 8] 3)) (LQ Q l) (h.fresh _ O_) 8;rw [s1] at j;rw [s2] at i;refine (ec_ s bJ_ j zX i eJ_ (fun g i=>by obtain rfl:=List.mem_singleton.1 i;rfl) h3.fresh).mono ?_;rintro e W' ⟨C,a1,k,c1,m,n,o,p,q,rfl,hc,r⟩;exact ⟨⟨a1,k,c1,m,n,o,p,C⟩,rfl,q,(h3.step r).add hc⟩
theorem Ig.beg (h:Ig D C) {a0 a1 a2 a3 a4 a5 t:Int} {d:ByteArray} {b c:Bool} (hb:tC C n C1 (.agg (rqR a0 a1 a2 a3 a4 a5 d b c t)) 0) :
  cE 2 1 1 C1/\∃sn sc:Nat,a4=(sn:Int)/\a5=(sc:Int)/\1<=sc/\sn+sc<=128/\d.size=sc*8/\∀(D':List UInt8) (C2:Ck) (err:Int),Spl D (sn*8) d D'->zC C1 n 0 C2 err->err=0/\Ig D' C2:=by
 rcases hb with ⟨i,j,x,y,rfl,hu,hP⟩ | ⟨_,_,_,h0⟩
 ·obtain ⟨f,sn,sc,w,u,v,a,q,r,s,g,z,o⟩:=h.back hu hP;simp only[Value.agg.injEq,Array.mk.injEq,List.cons.injEq,Value.int.injEq,Value.string.injEq,Value.bool.injEq,true_and,and_true] at a;obtain ⟨_,_,_,_,k,l,rfl,_⟩:=a;refine ⟨f,sn,sc,k,l,q,r,s,fun D' C2 err p m=>?_⟩
  rcases m with ⟨i',j',x',y',e',hu',hP'⟩ | ⟨hn,_⟩
  ·obtain ⟨rfl,rfl,rfl,rfl⟩:=g.one hu' e';exact o D' C2 err p hP'
  ·exact absurd g (hn i j u v rfl)
 ·cases h0
theorem Ig.byte (h:Ig D C) {i p at_:Nat} (hu:dE C i x j y) (hp:x.page=(p:Int)) (hd:x.pg.dirty=0) (hh:aC y p=false) (ha:at_=(j*18+2+p*2)*8) {b:Nat} (hb:b<16) (hlt:(p:Int)*16+(b:Int)<y.size) (hv:bt x.pg.valid (b / 8)=true) (h1:b<x.pg.data.size) (h2:at_+b<D.length) :
  (((x.pg.data[b]'h1).toNat:Int) != ((D[at_+b]'h2).toNat:Int))=false:=by
 obtain ⟨_,hl⟩:=h.look hu;rw [hp] at hl;have e:=hl hd (by rw [Int.toNat_natCast];exact hh) b hb hlt hv;rw [Int.toNat_natCast,Array.getElem?_eq_getElem (show b<x.pg.data.data.size from h1)] at e;have e:=aP e;have a:x.pg.data[b]'h1=D[at_+b]'h2:=by
  refine (show x.pg.data[b]'h1=x.pg.data.data[b]'h1 from rfl).trans (e.trans ?_);unfold dk;subst ha;rw [List.getD_eq_getElem?_getD,cU h2]
  rfl
 rw [a];simp
end
end Go.Proofs.YtehfhnbpnaiogaaGreatDoor
