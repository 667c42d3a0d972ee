/-
  Lemmas and contracts for the laws of this seat, part 22; several texts joined by a program.
-/
import Derived.Test.YtehfhnbpnaiogaaGreatDoorD21
import Derived.Test.YtehfhnbpnaiogaaGreatDoorD00
import Derived.Outline
namespace Go.Proofs.YtehfhnbpnaiogaaGreatDoor
set_option linter.unusedVariables false
set_option linter.unusedSimpArgs false
set_option maxRecDepth 100000
set_option maxHeartbeats 16000000
open Go.RowKit Go.Proofs.Tryz IntKind
variable {C C':Ck} {F G Z:Nat} {ac:Bool} {err:Int} {l:Lr} {rq:Value} {w:World} {x:Fr} {y:Fl}
section
def sK:Ck:=pQ [⟨0,0⟩] [8] [⟨8,0,0⟩]
def awY:Fl:=jP ⟨0,0⟩
theorem fB_:sK.files[0]?=some awY:=rfl
theorem hk_ {n:Int} (h:InP sK 0 0 0 0 false awY l ⟨8,0,0⟩ C' n err):∃ac,C'=rA sK 0 0 0 0 awY l ⟨8,0,0⟩ (cX sK.zones false 0).1 ac/\n=1:=by
 rcases h with ⟨_,_,h | h | h⟩ | ⟨_,_,i,ac,h0,h1,_,h2⟩
 ·exact absurd h cE
 ·exact absurd rfl h
 ·exact absurd (show (cX sK.zones false 0).2.2=0 by decide +kernel) h
 ·have e:(cX sK.zones false 0).2.1=1:=by decide +kernel
  rw [e] at h1;obtain rfl:i=0:=O_
  exact ⟨ac,h2,O_⟩
def qR:Fl:={awY with c:=(bD eH 0 1).1}
theorem wW:J_ qR.c 0=1:=by decide +kernel
theorem fC_ (k:Nat) (h:k≠0):J_ qR.c (k:Int)=0:=by
 unfold J_
 split
 ·show (upd eH 0 (1,0) ((k:Int).toNat)).1=0
  unfold upd;rw [if_neg (by simp;exact h)]
  rfl
 ·rfl
def awX:Fr:=⟨0,0,iI awY 0,0,0,0,0⟩
theorem fD_:iI awY 0=vW:=by
 unfold iI;rw [show jL awY 0=true by decide +kernel]
 rfl
theorem fE_:mF (iI awY 0).valid (bO 0 0 3).1 (bO 0 0 3).2 true=0:=by rw [fD_];decide +kernel
theorem yU:aJ 0 3=[0]:=by decide +kernel
theorem aF_:fG (rA sK 0 0 0 0 awY l ⟨8,0,0⟩ (cX sK.zones false 0).1 ac) 0 awX 0 qR where
 fr:=by
  show (sK.frames.set 0 awX)[0]?=some awX
  rw [lM]
  show 0<(List.replicate _ _).length
  rw [rL_]
  decide +kernel
 fl:=rfl
 ix:=rfl
 ok:=⟨⟨cE,cE⟩,⟨cE,cE⟩,by show iM (iI awY 0);exact zR _ _,⟨cE,cE⟩,⟨cE,cE⟩,⟨cE,cE⟩⟩
theorem iR_:∀p ∈ aJ 0 3,lU (rA sK 0 0 0 0 awY l ⟨8,0,0⟩ (cX sK.zones false 0).1 ac) 0 qR 0 3 true p:=by
 rw [yU];intro p hp;obtain rfl:=List.mem_singleton.1 hp;exact ⟨0,awX,wW,aF_,rfl,fE_⟩
structure Aw (C:Ck) (x:Fr) (y:Fl):Prop where
 u:fG C 0 x 0 y
 page:x.page=0
 g0:J_ y.c 0=1
 gk:∀k:Nat,k≠0->J_ y.c (k:Int)=0
 dirty:x.pg.dirty≠0
 wr:x.writing=0
 rd:x.reading=0
 bl:y.blocks=0
 sl:y.slot=0
 nf:C.files.length=1
theorem dw_ {C2:Ck} {s:ByteArray} (h:WrP F G Z (rA sK 0 0 0 0 awY l ⟨8,0,0⟩ (cX sK.zones false 0).1 ac) 0 0 3 s 0 qR C2 err):∃x y,Aw C2 x y:=by
 obtain ⟨_,h,_⟩:=h;obtain ⟨_,Cn,n,b,hf,rfl⟩:=h cE iR_;generalize hC:rA sK 0 0 0 0 awY l ⟨8,0,0⟩ (cX sK.zones false 0).1 ac=f at b;have d:fG f 0 awX 0 qR:=by rw [<-hC];exact aF_
 have o:f.files.length=1:=by rw [<-hC];rfl
 have z:(0+3+15) / 16 - 0 / 16=1:=by decide
 rw [z] at b
 cases b with
 | @step _ i t at' fr ct C x x' y l' p h0 hp hfr hpg hget e4 hl hpt hx=>
  cases h0
  rw [yU] at hp;obtain rfl:(0:Int)=p:=bH hp;obtain rfl:y=qR:=bH (hfr.fl.symm.trans d.fl);rw [wW] at hget;obtain rfl:i=0:=O_
  obtain rfl:x=awX:=bH (hfr.fr.symm.trans d.fr);have m:0<f.files.length:=bI d.fl;have u:0<f.frames.length:=bI d.fr;have g:(bP f.files 0 qR x')[0]?=some n:=hf;unfold bP at g;rw [lM m] at g;have j:=bH g;have v:∀k:Int,J_ n.c k=J_ qR.c k:=fun k=>by
   rw [<-j,hx];exact dK (show kF awX.page=true by decide) (by show (0:Int)<(qR.c 0).1;decide +kernel) _ _ k
  have r:bO 0 0 3=(0,3):=by decide +kernel
  have a:=hpt.1;have a:bO 0 0 3=((at':Int),(ct:Int)):=a;rw [r] at a;have A:(0:Int)=(at':Int):=congrArg Prod.fst a;have q:jE x':=by
   rw [hx];refine ⟨d.ok.page,d.ok.tenant,nL d.ok.pg ?_,d.ok.holds,d.ok.reading,d.ok.writing⟩;rw [bE_];have:=hpt.2.1;omega
  refine ⟨x',{n with size:=max n.size (((0:Nat):Int)+((3:Nat):Int))},⟨⟨lM u,lM (by show 0<(bP f.files 0 qR x').length;rw [lD];exact m),by rw [hx];rfl,q⟩,by rw [hx];rfl,(v 0).trans wW,fun k w=>(v k).trans (fC_ k w),e4,by rw [hx];rfl,by rw [hx];rfl,by rw [<-j];rfl,by rw [<-j];rfl,?_⟩⟩
  show ((bP f.files 0 qR x').set 0 _).length=1
  rw [kL,lD];exact o
section
variable {C:Ck} {x:Fr} {y:Fl}
theorem Aw.sec (h:Aw C x y):eQ x y=3:=by
 unfold eQ;rw [h.bl,h.page,if_pos (by decide +kernel)]
theorem Aw.beg (h:Aw C x y) (hb:fM C 0 0 x y C' rq err):C'=pG C 0 0 x y 3/\rq = .agg (aO 0 x.tenant y.dev 2 2 2 (jF x 3) false false 0)/\(jF x 3).size=16/\err=0:=by
 unfold fM at hb;rw [if_neg (by simp [h.wr]),if_neg h.dirty,h.sec] at hb;obtain ⟨h1,h2,h3⟩:=hb;refine ⟨h1,?_,?_,h3⟩
 ·rw [h2];unfold rqP;rw [h.sl,h.page]
  rfl
 ·have a:=h.u.ok.pg.len
  show (x.pg.data.extract 0 16).size=16
  rw [bE_,a]
  rfl
theorem Aw.fr (h:Aw C x y):fG (pG C 0 0 x y 3) 0 ⟨x.file,x.page,cA x.pg 3,x.tenant,x.holds,x.reading,3⟩ 0 {y with c:=jO y.c x.page ((cA x.pg 3).dirty != 0) true} where
 fr:=lM (bI h.u.fr)
 fl:=lM (bI h.u.fl)
 ix:=h.u.ix
 ok:=⟨h.u.ok.page,h.u.ok.tenant,qS h.u.ok.pg ⟨O_,O_⟩,h.u.ok.holds,h.u.ok.reading,⟨by show (0:Int)<=3;omega,by show (3:Int)<=3;omega⟩⟩
theorem Aw.ended (h:Aw C x y) (he:wQ (pG C 0 0 x y 3) 1 0 C' err):err=0/\C'.files.length=1/\∃y2,C'.files[0]?=some y2/\y2.blocks=1:=by
 rcases he with ⟨i,j,x2,y2,e,hu,hP⟩ | ⟨hn,_⟩
 ·obtain ⟨rfl,rfl,rfl,rfl⟩:=h.fr.one hu O_;unfold jW at hP;rw [if_neg (by show ¬(3:Int)=0;omega),if_pos rfl] at hP;obtain ⟨rfl,rfl⟩:=hP;refine ⟨rfl,?_,_,lM (bI hu.fl),?_⟩
  ·show ((C.files.set 0 _).set 0 _).length=1
   rw [kL,kL,h.nf]
  ·show bits .or .i64 y.blocks (wrap64 (2 ^ x.page.toNat))=1
   rw [h.bl,h.page]
   decide +kernel
 ·exact absurd h.fr (hn 0 0 _ _ rfl)
theorem Aw.com (h:Aw C x y) (hI:cF F G Z C) {ino:Value} (hc:di_ C 0 3 C' rq ino err):C'={C with files:=C.files.set 0 {y with seq:=1}}/\rq = .agg (aO 0 0 y.dev 2 1 1 (nM 1 3 0 0) true true 0)/\ino=qZ 1 3 0/\err=0:=by
 obtain ⟨_,h2,h3,_⟩:=(hI.file 0 y h.u.fl).st
 rcases hc with ⟨j,y2,e,hy,_,_,hP⟩ | ⟨hn,_⟩
 ·obtain ⟨rfl,rfl⟩:=kC (show (0:Int)=((0:Nat):Int) by rfl) e h.u.fl hy;unfold sZ at hP;rw [if_neg O_] at hP;obtain ⟨a,b,c,d⟩:=hP;rw [h3] at a b c;refine ⟨a,?_,?_,d⟩
  ·rw [b];unfold rqC;rw [h.sl,h2,h.bl]
   rfl
  ·rw [c,h.bl]
   rfl
 ·have:=h.nf;omega
theorem Aw.cmd (h:Aw C x y) (hI:cF F G Z C) (hc:dh_ {C with files:=C.files.set 0 {y with seq:=1}} 0 1 3 0 0 C' err):err=0/\C'.files.length=1/\∃y2,C'.files[0]?=some y2/\y2.which=1:=by
 obtain ⟨_,h2,h3,d,f⟩:=(hI.file 0 y h.u.fl).st;have a:=bI h.u.fl;have b:({C with files:=C.files.set 0 {y with seq:=1}}:Ck).files[0]?=some {y with seq:=1}:=lM a
 rcases hc with ⟨j,y2,e,hy,hP⟩ | ⟨hn,_⟩
 ·obtain ⟨rfl,rfl⟩:=kC (show (0:Int)=((0:Nat):Int) by rfl) e b hy;unfold qM at hP;rw [if_neg O_,if_neg] at hP
  ·obtain ⟨rfl,rfl⟩:=hP;refine ⟨rfl,?_,_,lM (by rw [kL];exact a),?_⟩
   ·show ((C.files.set 0 _).set 0 _).length=1
    rw [kL,kL,h.nf]
   ·show 1 - y.which=1
    omega
  ·have c:uX 1 3 0 ((0:Nat):Int)=0:=by decide +kernel
   unfold dx_;rw [c];simp;omega
 ·have:=h.nf;have:¬(0<=(0:Int)/\(0:Int)<(((C.files.set 0 {y with seq:=1}).length:Nat):Int)):=hn
  rw [kL] at this;omega
theorem Aw.fet (h:Aw C x y) (hf:az_ C 1 rq err):rq=yK/\err=4:=by
 rcases hf with ⟨i,j,x2,y2,e,hu,hP⟩ | ⟨hn,_⟩
 ·obtain ⟨rfl,rfl,rfl,rfl⟩:=h.u.one hu O_;unfold sC at hP;rw [if_pos h.rd] at hP;exact hP
 ·exact absurd h.u (hn 0 0 _ _ rfl)
theorem Aw.wan (h:Aw C x y):yB C 0=[0]:=by
 rw [show (0:Int)=((0:Nat):Int) by rfl,yC h.u.fl];unfold mO;have h0:jH C (J_ y.c ((0:Nat):Int))=true:=by
  rw [show J_ y.c ((0:Nat):Int)=1 from h.g0];unfold jH;rw [show ((1:Int) - 1).toNat=0 from rfl,h.u.fr];have:=h.u.ix;have b:=h.dirty;simp [h.wr,b];omega
 have a:∀k:Nat,k≠0->jH C (J_ y.c (k:Int))=false:=fun k a=>by rw [h.gk k a];simp [jH]
 have hf:(fun p:Nat=>jH C (J_ y.c (p:Int)))=fun p=>decide (p=0):=funext fun p=>by
  by_cases e:p=0
  ·subst e;rw [h0];rfl
  ·rw [a p e];simp [e]
 rw [hf]
 rfl
theorem Aw.chg (h:Aw C x y) (hI:cF F G Z C):cl_ C 0 3=true:=by
 obtain ⟨_,h2,h3,h4,h5⟩:=(hI.file 0 y h.u.fl).st;rw [show (0:Int)=((0:Nat):Int) by rfl,bw_ h.u.fl];unfold dJ_;rw [h4];simp
end
theorem fA_ (hb:dg_ sK 0 ⟨#[]⟩ (nM 1 3 0 0) C' err):err=0/\C'.files.length=1/\∃y2,C'.files[0]?=some y2/\y2.size=3:=by
 rcases hb with ⟨j,y2,e,hy,hP⟩ | ⟨hn,_⟩
 ·obtain ⟨rfl,rfl⟩:=kC (show (0:Int)=((0:Nat):Int) by rfl) e fB_ hy;unfold sW at hP;rw [if_neg (by decide +kernel)] at hP;obtain ⟨rfl,rfl⟩:=hP;exact ⟨rfl,rfl,_,rfl,by show chS ⟨#[]⟩ (nM 1 3 0 0) 0=3;decide +kernel⟩
 ·exact absurd ⟨O_,cE⟩ hn
end
section
theorem cF.use (h:cF F G Z C):gW_ C:=by
 intro j t y f d;unfold vN fc_;rw [tL_ (bE _),Bool.or_comm]
 congr 1
 rw [Bool.eq_iff_iff];simp only[decide_eq_true_eq,List.any_eq_true,beq_iff_eq]
 constructor
 ·intro hc;have b:0<fT (aX 0 (4 ^ t) y.c) 0:=O_
  obtain ⟨e,m,a⟩:=List.countP_pos_iff.1 b;obtain ⟨k,g,r,rfl⟩:=fZ.1 m;have hv:0<(y.c k).1:=by
   unfold fP_ at a;rw [Bool.and_eq_true] at a;exact of_decide_eq_true a.1
  have v:4 ^ t<=4 ^ 4:=Nat.pow_le_pow_right O_ d.1;have n:0<J_ y.c (k:Int):=by
   unfold J_;rw [if_pos (by unfold kF;simp;omega)]
   simpa using hv
  obtain ⟨i,x,h1,h2,h3,_⟩:=h.find j y k f n;exact ⟨x,gL h2,h3⟩
 ·rintro ⟨x,s,hf⟩;obtain ⟨i,o⟩:=List.getElem?_of_mem s;obtain ⟨u,y',l,hv⟩:=h.used o (by rw [hf];omega);obtain rfl:u=j:=by have:=l.ix;omega
  obtain rfl:y'=y:=bH (l.fl.symm.trans f);obtain ⟨a,hc⟩:=fW (c:=y'.c) (p:=x.page) (by rw [hv];omega);have g:x.page.toNat<4 ^ t:=by
   rcases Nat.lt_or_ge x.page.toNat (4 ^ t) with h1 | h1
   ·exact h1
   ·have:=d.2.1 _ h1;rw [this] at hc;exact absurd hc A_
  have:0<fT (aX 0 (4 ^ t) y'.c) 0:=by
   refine List.countP_pos_iff.2 ⟨_,fZ.2 ⟨x.page.toNat,g,fun e=>?_,rfl⟩,?_⟩
   ·rw [e] at hc;exact absurd hc A_
   ·have q:mkB (y'.c x.page.toNat).2 0=true:=rfl
    simpa [fP_,q] using hc
  omega
end
section
theorem xY {α:Type} {k:Nat} {R:RR α k} (w:World) {S:Nat->Prop} {e:TypeId} {r:List Value} {x:α} (h:R.p (w.alloc (.cells r.toArray e)) (fun b=>S b/\w.heap.size≠b) x r) (hS:S (w)):LA R (w.alloc (.cells r.toArray e)) S (S_ (some ⟨w,0,none⟩) 1 1) [x]:=by
 have c:(w.alloc (.cells r.toArray e)).heap[w.heap.size]?=some (.cells [r].flatten.toArray e (0,0)):=by simpa using heap_alloc_new w (.cells r.toArray e)
 have:=LO.fresh (R:=R) (base:=w.heap.size) (L:=[x]) (rows:=[r]) c (bE _) ⟨h,trivial⟩ (by unfold maxLen;simp);exact this.laV (fun _ _ h=>h) (fun b a=>by simp only[Value.ownBlock,Option.some.injEq] at a;exact a ▸ hS)
theorem cO_ (w:World) (S:Nat->Prop) (hS:S (w)):LA PlR (w.alloc (.cells #[I_ 0,I_ 0] 53)) S (S_ (some ⟨w,0,none⟩) 1 1) [⟨0,0⟩]:=xY (r:=[I_ 0,I_ 0]) w rfl hS
theorem gf_ (w:World) (S:Nat->Prop) (hS:S (w)) (x:Int):LA Y_ (w.alloc (.cells #[I_ x] 3)) S (S_ (some ⟨w,0,none⟩) 1 1) [x]:=xY (r:=[I_ x]) w rfl hS
theorem cN_ (w:World) (S:Nat->Prop) (hS:S (w)) (x:Int):LA pB (w.alloc (.cells #[I_ x,I_ 0,I_ 0] 72)) S (S_ (some ⟨w,0,none⟩) 1 1) [⟨x,0,0⟩]:=xY (r:=[I_ x,I_ 0,I_ 0]) w rfl hS
theorem et_:yN [⟨0,0⟩]:=by
 refine ⟨fun x hx=>?_,cE,cE,fun i k x y hk hx hy=>?_⟩
 ·obtain rfl:=List.mem_singleton.1 hx;decide
 ·have hi:=bI hx;simp only[cL_,List.length_nil] at hi;omega
theorem e2_:tE [8]:=⟨A_,fun n hn=>by obtain rfl:=List.mem_singleton.1 hn;omega,by unfold cT;simp⟩
theorem d6_:gD [⟨8,0,0⟩]:=⟨fun g hg=>by obtain rfl:=List.mem_singleton.1 hg;decide,cE,cE⟩
theorem wX:cF 1 1 1 sK:=bK_ rfl rfl rfl O_ et_ e2_ d6_
theorem dv_ {l:List (Nat × Obj)} {cs:List Cv} {W:World} (h:LN w l cs W):C_ 28 #[S_ (some ⟨W,0,none⟩) 1 1,S_ (some ⟨W+1,0,none⟩) 1 1,S_ (some ⟨W+1+1,0,none⟩) 1 1] (((W.alloc (.cells #[I_ 0,I_ 0] 53)).alloc (.cells #[I_ 8] 3)).alloc (.cells #[I_ 8,I_ 0,I_ 0] 72)) (fun e W'=>∃v:Cv,e = .returned (.tuple #[bK v.a v.b v.c v.d v.e v.f v.g,I_ 0])/\v.C=sK/\LN w l (v :: cs) W'):=by
 have h3:LN w l cs (((W.alloc (.cells #[I_ 0,I_ 0] 53)).alloc (.cells #[I_ 8] 3)).alloc (.cells #[I_ 8,I_ 0,I_ 0] 72)):=((h.step (a_ B_ _)).step (a_ B_ _)).step (a_ B_ _);have s1:(W.alloc (.cells #[I_ 0,I_ 0] 53)).heap.size=W.heap.size+1:=A_
 have s2:((W.alloc (.cells #[I_ 0,I_ 0] 53)).alloc (.cells #[I_ 8] 3)).heap.size=W.heap.size+1+1:=A_
 have s:=((cO_ W (LQ (fun _=>True) l) (h.fresh _ (bE _))).alloc (.cells #[I_ 8] 3)).alloc (.cells #[I_ 8,I_ 0,I_ 0] 72);have j:=(gf_ (W.alloc (.cells #[I_ 0,I_ 0] 53)) (LQ (fun _=>True) l) (h.fresh _ O_) 8).alloc (.cells #[I_ 8,I_ 0,I_ 0] 72);have i:=cN_ ((W.alloc (.cells #[I_ 0,I_ 0] 53)).alloc (.cells #[I_ 8] 3)) (LQ (fun _=>True) l) (h.fresh _ O_) 8;rw [s1] at j;rw [s2] at i;refine (dM_ (LQ (fun _=>True) l) s et_ j e2_ i d6_ (fun g i=>by obtain rfl:=List.mem_singleton.1 i;rfl) h3.fresh).mono ?_;rintro e W' ⟨C,a1,k,c1,m,n,o,p,q,rfl,hc,r⟩;exact ⟨⟨a1,k,c1,m,n,o,p,C⟩,rfl,q,(h3.step r).add hc⟩
theorem Aw.begA (h:Aw C x y) (hb:pA C 1 C' rq err):C'=pG C 0 0 x y 3/\rq = .agg (aO 0 x.tenant y.dev 2 2 2 (jF x 3) false false 0)/\(jF x 3).size=16/\err=0:=by
 rcases hb with ⟨i,j,x2,y2,e,hu,hP⟩ | ⟨hn,_⟩
 ·obtain ⟨rfl,rfl,rfl,rfl⟩:=h.u.one hu O_;exact h.beg hP
 ·exact absurd h.u (hn 0 0 _ _ rfl)
theorem Aw.inv (h:Aw C x y) (hI:cF F G Z C):cF F G Z (pG C 0 0 x y 3):=
 hI.putB h.u (.inr ⟨⟨x.file,x.page,cA x.pg 3,x.tenant,x.holds,x.reading,3⟩,h.fr.ok,fun _=> .inl h.dirty,rfl,rfl,rfl,rfl⟩)
theorem Aw.io (h:Aw C x y) (hI:cF F G Z C):Io {C with files:=C.files.set 0 {y with seq:=1}}:=by
 obtain ⟨h1,h2,h3,h4⟩:=hI.io.file 0 y h.u.fl;exact hI.io.set ⟨h1,h2,h3,by show (0:Int)<=1;omega,by show (1:Int)<=65535;omega⟩
theorem Aw.datS (h:Aw C x y):((jF x 3).size:Int)=16:=by
 have hs:=h.u.ok.pg.len
 show ((x.pg.data.extract 0 16).size:Int)=16
 rw [bE_,hs]
 rfl
theorem mS (hdb:qN w):C_ 20 #[] w (cG true w):=by
 have a8:=H_ (fun w' (o:s_ w w')=>hdb.step o);have H0:=H_ (LN.start w);obtain ⟨dd,af⟩:=bL (nM 1 3 0 0);have a5:=H_ af;clear hdb af;go_enter func20,ntmps20
 go_upto_region 1 with fail
 go_cut [1] (fun s1 wx=>∃X v,s1 = P_ X/\v.C=sK/\LN w [(X,oK v)] [v] wx)
 case first=>
  go_wp2_with (first
   | (go_at_call 28;refine CM (dv_ H0) ?_;rintro S w3 ⟨v,rfl,Q,hl⟩;have j:=H_ (hl.push (bM) (w3) rfl);have HC:=H_ Q;clear hl Q)
   | (refine iJ rfl (.tmp 1) (.tmp 30) rfl rfl v rfl rfl (j.bk _ _ dV) rfl (j.ck _ dV) ?_))
  go_meet
  case rel=>exact ⟨w3,v,rfl,HC,j.put 0 rfl⟩
 case rest=>
  clear H0;obtain ⟨X,v,rfl,Q,hl⟩:=hcut;have a6:=tZ (F:=1) (G:=1) (Z:=1) sK 0 0 0 0 false awY xL ⟨8,0,0⟩ 0 _ _ _ _ _ _ _ _ wc (Cv.to Q (hl.ck _ dV)) wX rfl O_ rfl rfl rfl (by decide +kernel) hl.fresh;rw [show ((0:Nat):Int)=0 from rfl] at a6;have i:=H_ hl;clear Q hl
  go_upto_region 2 with fail
  have k:=i.bk _ _ dV;obtain ⟨x0,u,A,B,D,E,H⟩:=T_ k;clear k
  go_cut [3] from 33 to 37 (fun s3 wx=>∃v,s3 = I_ 1/\(∃l ac,v.C=rA sK 0 0 0 0 awY l ⟨8,0,0⟩ (cX sK.zones false 0).1 ac)/\cF 1 1 1 v.C/\LN w [(X,oK v)] [v] wx)
  case first=>
   go_wp2_with (first
    | (go_at_call 72;refine CM a6 ?_;rintro S w3 ⟨C,nn,er,a,b,c,d,e,f,g,hQ,rfl,hc,o⟩;have R:=(InP.inv hQ wX rfl O_ O_ rfl rfl).1;obtain ⟨ac,ab,rfl⟩:=hk_ hQ;have j:=H_ ((i.step o).add (v:=⟨a,b,c,d,e,f,g,C⟩) hc);have N:=H_ R;have HC:=H_ ab;clear hc o R ab hQ)
    | (refine iJ rfl (.tmp 1) (.tmp 35) rfl rfl ⟨a,b,c,d,e,f,g,C⟩ rfl rfl (j.bk _ _ dV) rfl (j.ck _ dV) ?_))
   go_meet
   case rel=>exact ⟨⟨a,b,c,d,e,f,g,C⟩,rfl,⟨_,ac,HC.out⟩,N.out,(j.put 0 rfl).sub (fun c hc=>by obtain rfl:=List.mem_singleton.1 hc;exact .head _)⟩
  case rest=>
   clear i a6 x0 u A B D E H;obtain ⟨v,rfl,⟨l,ac,Q⟩,R,hl⟩:=hcut;rw [Q] at R;have a7:=tP (F:=1) (G:=1) (Z:=1) _ 0 0 0 qR ⟨#[97,98,99]⟩ _ _ _ _ _ _ _ _ wc (Cv.to Q (hl.ck _ dV)) R aF_.fl rfl cE cE hl.fresh;rw [show ((0:Nat):Int)=0 from rfl] at a7;have i:=H_ hl;clear Q R hl
   go_upto_region 3 with fail
   have k:=i.bk _ _ dV;obtain ⟨x0,u,A,B,D,E,H⟩:=T_ k;clear k
   go_cut [] from 39 to 42 (fun wx=>∃v x y,Aw v.C x y/\cF 1 1 1 v.C/\LN w [(X,oK v)] [v] wx)
   case first=>
    go_wp2_with (first
     | (go_at_call 34;refine CM a7 ?_;rintro S w3 ⟨C,er,a,b,c,d,e,f,g,hQ,rfl,hc,o⟩;have R:=hQ.1;obtain ⟨x,y,hA⟩:=dw_ hQ;have j:=H_ ((i.step o).add (v:=⟨a,b,c,d,e,f,g,C⟩) hc);have N:=H_ R;have P:=H_ hA;clear hc o R hA hQ)
     | (refine iJ rfl (.tmp 1) (.tmp 41) rfl rfl ⟨a,b,c,d,e,f,g,C⟩ rfl rfl (j.bk _ _ dV) rfl (j.ck _ dV) ?_))
    go_meet
    case rel=>exact ⟨⟨a,b,c,d,e,f,g,C⟩,x,y,P.out,N.out,(j.put 0 rfl).sub (fun c hc=>by obtain rfl:=List.mem_singleton.1 hc;exact .head _)⟩
   case rest=>
    clear i a7 x0 u A B D E H;obtain ⟨v,x,y,hA,R,hl⟩:=hcut;obtain ⟨P,N,i⟩:=eI hA R hl;clear hA R hl
    go_upto_region 4 with fail
    have k:=i.bk _ _ dV;obtain ⟨x0,u,A,B,D,E,H⟩:=T_ k;clear k;have n:=pV v.C 1 _ _ _ _ _ _ _ _ wc (i.ck _ dV) N i.fresh (a8 _ i.iv)
    go_cut [5,6,7] from 43 to 49 (fun s5 s6 s7 wx=>∃V W v5,s5 = P_ V/\s6 = P_ W/\s7 = I_ 0/\v5.C=pG v.C 0 0 x y 3/\LN w [(X,oK v),(V,oK v5),(W,.cells (aO 0 x.tenant y.dev 2 2 2 (jF x 3) false false 0) 37 (0,0))] [v5,v] wx)
    case first=>
     go_wp2_with (first
      | (go_at_call 10;refine CM n ?_;rintro S w3 ⟨C',err,a',b',q,r,s,f',t,rq,I,rfl,hc,o⟩;obtain ⟨rfl,rfl,_,rfl⟩:=P.begA I;clear I;have j:=H_ ((i.step o).add (v:=(⟨_,_,_,_,_,_,_,_⟩:Cv)) hc);obtain ⟨p,k2,m⟩:=j.box2 (D_ none 0 0 none 0 0 none 0 0 none 0 0 none 0 0 none 0 0 none 0 0) #[a',b',q,r,s,f',t] jJ (aO 0 x.tenant y.dev 2 2 2 (jF x 3) false false 0) 30 37;obtain ⟨M,O,K2⟩:=eI m p k2;clear m p k2;clear o hc)
      | (refine iJ rfl (.tmp 5) (.tmp 47) rfl rfl (⟨a',b',q,r,s,f',t,(pG v.C 0 0 x y 3)⟩:Cv) rfl rfl O rfl (j.ck _ dV) ?_)
      | (refine cZ rfl 37 (.tmp 6) (.tmp 48) rfl rfl (w3+1) ((aO 0 x.tenant y.dev 2 2 2 (jF x 3) false false 0)) rfl rfl 37 (jJ) ?_ aW rfl (cN) ?_;exact K2))
     go_meet
     case rel=>exact ⟨w3,w3+1,(⟨a',b',q,r,s,f',t,(pG v.C 0 0 x y 3)⟩:Cv),rfl,rfl,rfl,rfl,M.out⟩
    case rest=>
     clear i n x0 u A B D E H;obtain ⟨V,W,v5,rfl,rfl,rfl,J,hl⟩:=hcut;have H5:=H_ J;clear J;have i:=H_ hl;clear hl
     go_upto_region 5 with fail
     have k:=i.bk _ _ lK;obtain ⟨x0,u,A,B,D,E,H⟩:=T_ k;clear k;have n:=eG_ (pG v.C 0 0 x y 3) 1 _ _ _ _ _ _ _ _ wc (Cv.to H5 (i.ck _ dV)) (P.inv N) i.fresh 0
     go_cut [8,9] from 51 to 55 (fun s8 s9 wx=>∃X8 v8,s8 = P_ X8/\s9 = I_ 0/\(v8.C.files.length=1/\∃y2,v8.C.files[0]?=some y2/\y2.blocks=1)/\LN w [(X,oK v),(V,oK v5),(W,.cells (aO 0 x.tenant y.dev 2 2 2 (jF x 3) false false 0) 37 (0,0)),(X8,oK v8)] [v8,v5,v] wx)
     case first=>
      go_wp2_with (first
       | (go_at_call 16;refine CM n ?_;rintro S w3 ⟨C',err,a',b',q,r,s,f',t,I,rfl,hc,o⟩;obtain ⟨rfl,h1,h2⟩:=P.ended I;clear I;have HF:=H_ (And.intro h1 h2);clear h1 h2;have j:=H_ ((i.step o).add (v:=(⟨_,_,_,_,_,_,_,_⟩:Cv)) hc);obtain ⟨p,m⟩:=j.box1 (D_ none 0 0 none 0 0 none 0 0 none 0 0 none 0 0 none 0 0 none 0 0) #[a',b',q,r,s,f',t] 30;have M:=H_ m;have O:=H_ p;clear m p;clear o hc)
       | (refine iJ rfl (.tmp 8) (.tmp 54) rfl rfl (⟨a',b',q,r,s,f',t,C'⟩:Cv) rfl rfl O rfl (j.ck _ dV) ?_))
      go_meet
      case rel=>exact ⟨w3,(⟨a',b',q,r,s,f',t,C'⟩:Cv),rfl,rfl,HF,M.out⟩
     case rest=>
      clear i n x0 u A B D E H;obtain ⟨X8,v8,rfl,rfl,hF,hl⟩:=hcut;have ar:=H_ hF;clear hF;have i:=H_ hl;clear hl
      go_upto_region 6 with fail
      have k:=i.bk _ _ dV;obtain ⟨x0,u,A,B,D,E,H⟩:=T_ k;clear k;have n:=cS_ v.C 0 _ _ _ _ _ _ _ _ wc (i.ck _ lN) N.io i.fresh 3
      go_cut [10,11,12,13] from 57 to 62 (fun s10 s11 s12 s13 wx=>∃XA XB XC v10,s10 = P_ XA/\s11 = P_ XB/\s12 = P_ XC/\s13 = I_ 0/\v10.C={v.C with files:=v.C.files.set 0 {y with seq:=1}}/\LN w [(X,oK v),(V,oK v5),(W,.cells (aO 0 x.tenant y.dev 2 2 2 (jF x 3) false false 0) 37 (0,0)),(X8,oK v8),(XA,oK v10),(XB,.cells (aO 0 0 y.dev 2 1 1 dd true true 0) 37 (0,0)),(XC,.cells #[I_ 1,I_ 3,I_ 0] 62 (0,0))] [v10,v8,v5,v] wx)
      case first=>
       go_wp2_with (first
        | (go_at_call 22;refine CM n ?_;rintro S w3 ⟨C',rq,ba,err,a',b',q,r,s,f',t,I,rfl,hc,o⟩;have ae:=P.com N I;rw [<-a5.out] at ae;obtain ⟨rfl,rfl,rfl,rfl⟩:=ae;clear I;have j:=H_ ((i.step o).add (v:=(⟨_,_,_,_,_,_,_,_⟩:Cv)) hc);obtain ⟨p,k2,k3,m⟩:=j.box3 (D_ none 0 0 none 0 0 none 0 0 none 0 0 none 0 0 none 0 0 none 0 0) #[a',b',q,r,s,f',t] jJ (aO 0 0 y.dev 2 1 1 dd true true 0) #[I_ 0,I_ 0,I_ 0] #[I_ 1,I_ 3,I_ 0] 30 37 62;obtain ⟨M,O,K2,K3⟩:=rW m p k2 k3;clear m p k2 k3;clear o hc)
        | (refine iJ rfl (.tmp 10) (.tmp 59) rfl rfl (⟨a',b',q,r,s,f',t,{v.C with files:=v.C.files.set 0 {y with seq:=1}}⟩:Cv) rfl rfl O rfl (j.ck _ dV) ?_)
        | (refine cZ rfl 37 (.tmp 11) (.tmp 60) rfl rfl (w3+1) ((aO 0 0 y.dev 2 1 1 dd true true 0)) rfl rfl 37 (jJ) ?_ aW rfl (cN) ?_;exact K2)
        | (refine cZ rfl 62 (.tmp 12) (.tmp 61) rfl rfl (w3+1+1) (#[I_ 1,I_ 3,I_ 0]) rfl rfl 62 (#[I_ 0,I_ 0,I_ 0]) ?_ jM rfl (oJ) ?_;exact K3))
       go_meet
       case rel=>exact ⟨w3,w3+1,w3+1+1,(⟨a',b',q,r,s,f',t,{v.C with files:=v.C.files.set 0 {y with seq:=1}}⟩:Cv),rfl,rfl,rfl,rfl,rfl,M.out⟩
      case rest=>
       clear i n x0 u A B D E H;obtain ⟨XA,XB,XC,v10,rfl,rfl,rfl,rfl,J,hl⟩:=hcut;have ap:=H_ J;clear J;have i:=H_ hl;clear hl
       go_upto_region 7 with fail
       have k:=i.bk _ _ M4_;obtain ⟨x0,u,A,B,D,E,H⟩:=T_ k;clear k;have k:=i.bk _ _ M6_;obtain ⟨i0,i1,i2⟩:=cR k;clear k;have n:=xS {v.C with files:=v.C.files.set 0 {y with seq:=1}} 0 _ _ _ _ _ _ _ _ wc (Cv.to ap (i.ck _ dV)) (P.io N) i.fresh 1 3 0 0
       unfold qZ at n
       go_cut [14,15] from 64 to 68 (fun s14 s15 wx=>∃XE v14,s14 = P_ XE/\s15 = I_ 0/\(v14.C.files.length=1/\∃y2,v14.C.files[0]?=some y2/\y2.which=1)/\LN w [(X,oK v),(V,oK v5),(W,.cells (aO 0 x.tenant y.dev 2 2 2 (jF x 3) false false 0) 37 (0,0)),(X8,oK v8),(XA,oK v10),(XB,.cells (aO 0 0 y.dev 2 1 1 dd true true 0) 37 (0,0)),(XC,.cells #[I_ 1,I_ 3,I_ 0] 62 (0,0)),(XE,oK v14)] [v14,v10,v8,v5,v] wx)
       case first=>
        go_wp2_with (first
         | (go_at_call 26;refine CM n ?_;rintro S w3 ⟨C',err,a',b',q,r,s,f',t,I,rfl,hc,o⟩;obtain ⟨rfl,h1,h2⟩:=P.cmd N.out I;clear I;have HF:=H_ (And.intro h1 h2);clear h1 h2;have j:=H_ ((i.step o).add (v:=(⟨_,_,_,_,_,_,_,_⟩:Cv)) hc);obtain ⟨p,m⟩:=j.box1 (D_ none 0 0 none 0 0 none 0 0 none 0 0 none 0 0 none 0 0 none 0 0) #[a',b',q,r,s,f',t] 30;have M:=H_ m;have O:=H_ p;clear m p;clear o hc)
         | (refine iJ rfl (.tmp 14) (.tmp 67) rfl rfl (⟨a',b',q,r,s,f',t,C'⟩:Cv) rfl rfl O rfl (j.ck _ dV) ?_))
        go_meet
        case rel=>exact ⟨w3,(⟨a',b',q,r,s,f',t,C'⟩:Cv),rfl,rfl,HF,M.out⟩
       case rest=>
        clear i n x0 u A B D E H i0 i1 i2;obtain ⟨XE,v14,rfl,rfl,hF,hl⟩:=hcut;have a9:=H_ hF;clear hF;have i:=H_ hl;clear hl
        go_upto_region 8 with fail
        have k:=i.bk _ _ dV;obtain ⟨x0,u,A,B,D,E,H⟩:=T_ k;clear k;have n:=eI_ v.C 1 _ _ _ _ _ _ _ _ wc (i.ck _ M4_) N (a8 _ i.iv)
        go_cut [16,17] from 70 to 74 (fun s16 s17 wx=>∃XF,s16 = P_ XF/\s17 = I_ 4/\LN w [(X,oK v),(V,oK v5),(W,.cells (aO 0 x.tenant y.dev 2 2 2 (jF x 3) false false 0) 37 (0,0)),(X8,oK v8),(XA,oK v10),(XB,.cells (aO 0 0 y.dev 2 1 1 dd true true 0) 37 (0,0)),(XC,.cells #[I_ 1,I_ 3,I_ 0] 62 (0,0)),(XE,oK v14),(XF,jD)] [v14,v10,v8,v5,v] wx)
        case first=>
         go_wp2_with (first
          | (go_at_call 18;refine CM n ?_;rintro S w3 ⟨rq,err,I,rfl,o⟩;obtain ⟨rfl,rfl⟩:=P.fet I;clear I;have j:=H_ ((i.step o));obtain ⟨p,m⟩:=j.box1 jJ jJ 37;have M:=H_ m;have O:=H_ p;clear m p;clear o)
          | (refine cZ rfl 37 (.tmp 16) (.tmp 73) rfl rfl w3 (jJ) rfl rfl 37 (jJ) ?_ aW rfl (cN) ?_;exact O))
         go_meet
         case rel=>exact ⟨w3,rfl,rfl,M.out⟩
        case rest=>
         clear i n x0 u A B D E H;obtain ⟨XF,rfl,rfl,hl⟩:=hcut;have i:=H_ hl;clear hl
         go_upto_region 9 with fail
         go_cut [18] from 76 to 83 (fun s18 wx=>∃XG v18,s18 = P_ XG/\v18.C=sK/\LN w [(X,oK v),(V,oK v5),(W,.cells (aO 0 x.tenant y.dev 2 2 2 (jF x 3) false false 0) 37 (0,0)),(X8,oK v8),(XA,oK v10),(XB,.cells (aO 0 0 y.dev 2 1 1 dd true true 0) 37 (0,0)),(XC,.cells #[I_ 1,I_ 3,I_ 0] 62 (0,0)),(XE,oK v14),(XF,jD),(XG,oK v18)] [v18,v14,v10,v8,v5,v] wx)
         case first=>
          go_wp2_with (first
           | (go_at_call 28;refine CM (dv_ i) ?_;rintro S w3 ⟨v18,rfl,Q,hl⟩;have j:=H_ hl;obtain ⟨p,m⟩:=hl.box1 (D_ none 0 0 none 0 0 none 0 0 none 0 0 none 0 0 none 0 0 none 0 0) #[v18.a,v18.b,v18.c,v18.d,v18.e,v18.f,v18.g] 30;obtain ⟨M,O,HC⟩:=eI m p Q;clear hl Q m p)
           | (refine iJ rfl (.tmp 18) (.tmp 82) rfl rfl v18 rfl rfl (O) rfl (j.ck _ dV) ?_))
          go_meet
          case rel=>exact ⟨w3,v18,rfl,HC,M.out⟩
         case rest=>
          clear i;obtain ⟨XG,v18,rfl,J,hl⟩:=hcut;have aq:=H_ J;clear J;have i:=H_ hl;clear hl
          go_upto_region 10 with fail
          have k:=i.bk _ _ M9_;obtain ⟨x0,u,A,B,D,E,H⟩:=T_ k;clear k;have k:=i.bk _ _ M5_;have i6:=b_ k 6;simp only[zl] at i6;clear k;have n:=gh_ sK 0 _ _ _ _ _ _ _ _ wc (Cv.to aq (i.ck _ dV)) wX.io wX.use i.fresh ⟨#[]⟩ dd (show (⟨#[]⟩:ByteArray).size<=maxLen from Nat.zero_le _) (by have:(nM 1 3 0 0).size=8:=(by decide +kernel);rw [<-a5.out] at this;unfold maxLen;omega)
          go_cut [20,21] from 85 to 90 (fun s20 s21 wx=>∃XH v20,s20 = P_ XH/\s21 = I_ 0/\(v20.C.files.length=1/\∃y2,v20.C.files[0]?=some y2/\y2.size=3)/\LN w [(X,oK v),(V,oK v5),(W,.cells (aO 0 x.tenant y.dev 2 2 2 (jF x 3) false false 0) 37 (0,0)),(X8,oK v8),(XA,oK v10),(XB,.cells (aO 0 0 y.dev 2 1 1 dd true true 0) 37 (0,0)),(XC,.cells #[I_ 1,I_ 3,I_ 0] 62 (0,0)),(XE,oK v14),(XF,jD),(XG,oK v18),(XH,oK v20)] [v20,v18,v14,v10,v8,v5,v] wx)
          case first=>
           go_wp2_with (first
            | (go_at_call 30;refine CM n ?_;rintro S w3 ⟨C',err,a',b',q,r,s,f',t,I,rfl,hc,o⟩;rw [a5.out] at I;obtain ⟨rfl,h1,h2⟩:=fA_ I;clear I;have HF:=H_ (And.intro h1 h2);clear h1 h2;have j:=H_ ((i.step o).add (v:=(⟨_,_,_,_,_,_,_,_⟩:Cv)) hc);obtain ⟨p,m⟩:=j.box1 (D_ none 0 0 none 0 0 none 0 0 none 0 0 none 0 0 none 0 0 none 0 0) #[a',b',q,r,s,f',t] 30;have M:=H_ m;have O:=H_ p;clear m p;clear o hc)
            | (refine iJ rfl (.tmp 20) (.tmp 89) rfl rfl (⟨a',b',q,r,s,f',t,C'⟩:Cv) rfl rfl O rfl (j.ck _ dV) ?_))
           go_meet
           case rel=>exact ⟨w3,(⟨a',b',q,r,s,f',t,C'⟩:Cv),rfl,rfl,HF,M.out⟩
          case rest=>
           clear i n x0 u A B D E H i6;obtain ⟨XH,v20,rfl,rfl,hF,hl⟩:=hcut;have aa:=H_ hF;clear hF;have i:=H_ hl;clear hl
           go_upto_region 11 with fail
           obtain ⟨a0,y8,ai,ag⟩:=ar.out;obtain ⟨a,b,c,d,e,f,g,Cx⟩:=v8;have hc:x_ _ _ a b c d e f g Cx:=i.ck _ M4_;obtain ⟨A8,b8,rfl,_,_⟩:=hc.files.form;obtain ⟨b7,bb,_,_,_,rfl,_,_,_,_,_,r8⟩:=FlA.cells hc.files ai;have z8:=r8 7 _ rfl;have a0:Cx.files.length=1:=a0;have k:=i.bk _ _ uU;have p8:=sF k;clear k hc r8;obtain ⟨K,bc,a3,a1⟩:=a9.out;obtain ⟨a,b,c,d,e,f,g,Cx⟩:=v14;have hc:x_ _ _ a b c d e f g Cx:=i.ck _ lN;obtain ⟨b5,b1,rfl,_,_⟩:=hc.files.form;obtain ⟨az,b3,_,_,_,rfl,_,_,_,_,_,al⟩:=FlA.cells hc.files a3;have an:=al 13 _ rfl;have K:Cx.files.length=1:=K;have k:=i.bk _ _ M7_;have aw:=sF k;clear k hc al;obtain ⟨L,bd,a4,a2⟩:=aa.out;obtain ⟨a,b,c,d,e,f,g,Cx⟩:=v20;have hc:x_ _ _ a b c d e f g Cx:=i.ck _ dV;obtain ⟨b6,b2,rfl,_,_⟩:=hc.files.form;obtain ⟨b0,b4,_,_,_,rfl,_,_,_,_,_,am⟩:=FlA.cells hc.files a4;have ao:=am 6 _ rfl;have L:Cx.files.length=1:=L;have k:=i.bk _ _ (.tail _ (.tail _ (.tail _ (.tail _ (.tail _ (.tail _ (.tail _ (.tail _ (.tail _ (.tail _ (.head _)))))))))));have ax:=sF k;clear k hc am;have k:=i.bk _ _ lN;have q3:=b_ k 3;have q4:=b_ k 4;have q5:=b_ k 5;have q6:=b_ k 6;simp only[zl] at q3 q4 q5 q6;clear k;have k:=i.bk _ _ M5_;have aj:=b_ k 4;have ak:=b_ k 8;simp only[zl] at aj ak;clear k;have k:=i.bk _ _ M6_;have i1:=b_ k 1;simp only[zl] at i1
           clear k;have b9:=P.datS;rw [a0] at p8;rw [K] at aw;rw [L] at ax;rw [ag] at z8;rw [a1] at an;rw [a2] at ao;rw [Nat.zero_mul,Nat.add_zero] at z8 an ao;have ah:=fun w' (o:s_ wc w')=>rI v.C 0 _ _ _ _ _ _ _ _ w' (x_.step (i.ck _ M6_) o) N (fun z hz=>i.fresh z (eF o.size hz));have ad:=fun w' (o:s_ wc w')=>a1_ v.C 0 _ _ _ _ _ _ _ _ w' (x_.step (i.ck _ M6_) o) 3;rw [P.wan] at ah;rw [P.chg N.out] at ad;have k:=i.bk _ _ dV;obtain ⟨x0,u,A,B,D,E,H⟩:=T_ k;have au:=n_ k;have U:=i.iv;clear k a0 K L ag a1 a2 ai a3 a4
           go_upto_region 12 with fail
           clear q3 q4 q5 q6 aj ak i1 p8 z8
           go_wp2_with (first
            | (go_at_call 12;refine CM (ah _ B_) ?_;rintro S w3 ⟨v,rfl,hv,Y⟩;obtain ⟨A9,c9,rfl,_,_⟩:=hv.form;have ay:=kt7 (Y.block _ au) x0 u A B D E H;clear x0 u A B D E H;obtain ⟨x0,u,A,B,D,E,H⟩:=ay)
            | (go_at_call 24;refine CM (ad _ Y) ?_;rintro S w4 ⟨rfl,av⟩))
           go_ret;exact ⟨F_ rfl,(U.trans (Y.mono U.size)).trans (av.mono (eF U.size Y.size))⟩
end
section
theorem oW (a0:Option Addr) (len0 cap0:Nat) (z0:List Int) (w:World) (w0:dj_ .i64 w a0 len0 cap0 z0) (hdb:qN w) :
  C_ 6 #[S_ a0 len0 cap0] w fun e w'=>e = .returned (.bool true)/\s_ w w':=by
 have Z:=H_ (fun w' (s:s_ w w')=>hdb.step s);have bm:=cu_ w0;clear hdb w0;go_enter func6,ntmps6
 go_upto_region 1 with fail
 go_cut [3,4] from 29 to 33 (fun s3 s4 wx=>∃t X v,s3 = P_ X/\s4 = P_ t/\fN 3 2 2 v.C/\LT w t [(X,oK v)] [v] wx)
 case first=>
  as_aux_lemma=>
   go_wp2_with (first
    | (go_at_call 7;refine CM bm ?_;rintro en w3 ⟨t,v,rfl,hI,hl⟩;have n:=H_ hl;obtain ⟨G,r⟩:=hl.box1 (D_ none 0 0 none 0 0 none 0 0 none 0 0 none 0 0 none 0 0 none 0 0) #[v.a,v.b,v.c,v.d,v.e,v.f,v.g] 30;obtain ⟨S,U,HI⟩:=eI r G hI;clear hl r G hI)
    | (refine iJ rfl (.tmp 3) (.tmp 32) rfl rfl v rfl rfl U rfl (n.ck _ dV) ?_))
   go_meet
   case rel=>exact ⟨t,w3,v,rfl,rfl,HI,S.out⟩
 case rest=>
  clear bm;obtain ⟨t,X,v,rfl,rfl,hI,hl⟩:=hcut;have HI:=H_ hI;have l:=H_ hl;clear hl hI
  go_upto_region 2 with fail
  obtain ⟨A2,c2,e2,_,_⟩:=(show x_ _ _ _ _ _ _ _ _ _ v.C from l.ck _ dV).frames.form;have m:=l.bk _ _ dV;have E:=b_ m 1;simp only[zl] at E;clear m;rw [e2] at E;have bn:=HI.nr;generalize hnn:v.C.frames.length=nn at E bn;have b5:=H_ hnn;clear e2 hnn
  go_cut [5] from 34 to 39 (fun s5 wx=>∃i:Nat,s5 = I_ ((i:Int)+1)/\i<nn/\LT w t [(X,oK v)] [v] wx)
  case first=>
   as_aux_lemma=>
    go_wp2_with (go_at_call 9;(with_reducible refine CM (bY (nn:Int) (by omega) (by omega) l.out.iv) ?_);rintro en w3 ⟨y,rfl,q0,q1,hT,ar⟩;have n:=H_ (LT.read l hT ar);clear hT)
    obtain ⟨i,rfl⟩:=mZ q0;have ile:1+(i:Int)<=64:=O_
    go_meet
    case rel=>exact ⟨i,by go_num,O_,n.out⟩
  case rest=>
   clear l E;obtain ⟨i,rfl,a7,hl⟩:=hcut;have l:=H_ hl;clear hl;have a7:i<v.C.frames.length:=by rw [b5.out];exact a7
   obtain ⟨x,m⟩:∃x,v.C.frames[i]?=some x:=⟨_,cY a7⟩;have co:v.C.frames.length<=100:=by have:=HI.nr;omega
   have ile:(i:Int)+1<=64:=by have:=HI.nr;omega
   have cb:=H_ a7;clear b5 a7 bn
   go_upto_region 3 with fail
   have m:=l.bk _ _ dV;obtain ⟨x0,E,L,M,P,Q,R⟩:=T_ m;clear m;have ay:=jV i x (l.ck _ dV) m co;obtain ⟨ub,ax⟩:=bL (uR x);rw [<-ax] at ay;have ba:=H_ ax;clear ax
   go_cut [43] from 40 to 43 (fun s43 wx=>s43 = .bool (!ub)/\LT w t [(X,oK v)] [v] wx)
   case first=>
    as_aux_lemma=>
     go_wp2_with (go_at_call 37;refine CM ay ?_;rintro en w3 ⟨rfl,s⟩;have n:=H_ (l.step s);clear s)
     go_meet
     case rel=>exact ⟨rfl,n⟩
   case rest=>
    clear l ay x0 E L M P Q R;obtain ⟨rfl,hl⟩:=hcut;have l:=H_ hl;clear hl
    cases ub with
    | false=>
     have N:=fun W (s:s_ wc W)=>mS (Z _ (l.iv.below.trans (s.mono l.iv.below.size)));have B:=l.iv.below
     go_wp2_with (go_at_call 20;refine CM (N _ B_) ?_;rintro en w4 ⟨rfl,a6⟩)
     go_ret;exact ⟨rfl,B.trans (a6.mono B.size)⟩
    | true=>
     obtain ⟨j,y,hu,hgt⟩:=HI.used m (by have:=ba.out;unfold uR at this;simpa using this.symm);have HG:=H_ (show qK v.C i j x y from ⟨hu,hgt⟩);obtain ⟨p,bz⟩:∃p:Nat,x.page=(p:Int):=mZ hu.ok.page.1;have cu:p<8:=by have:=hu.ok.page;omega
     have bx:=hu.ix;have b6:=H_ bz;clear ba hu hgt
     go_upto_region 5 with fail
     have hc:=show x_ _ _ _ _ _ _ _ _ _ v.C from l.ck _ dV;obtain ⟨A2,c2,e2,_,_⟩:=hc.frames.form;have m:=l.bk _ _ dV;have E:=b_ m 1;simp only[zl] at E;clear m;rw [e2] at E;have aq:=hc.frames;rw [e2] at aq;obtain ⟨bb,o,rfl,af,c0,c1,c3,c4,c5,c6,c7,c8,c9⟩:=FrA.cells aq m;rw [bx] at c0;rw [bz] at c1;have j1:(i:Int)<(v.C.frames.length:Int):=by have:=cb.out;omega
     clear hc aq e2 m bx;obtain ⟨G,r⟩:=l.box1 (nO 0 0 ⟨#[]⟩ 0 0 0 0 0 0) (nO (j:Int) (p:Int) x.pg.data x.pg.valid x.pg.dirty x.tenant x.holds x.reading x.writing) 85;have S:=H_ r;have U:=H_ G;clear r G
     go_cut [6] from 45 to 50 (fun s6 wx=>∃Xx,s6 = P_ Xx/\LT w t [(X,oK v),(Xx,.cells (nO (j:Int) (p:Int) x.pg.data x.pg.valid x.pg.dirty x.tenant x.holds x.reading x.writing) 85 (0,0))] [v] wx)
     case first=>
      as_aux_lemma=>
       go_wp2_with (refine cZ rfl 85 (.tmp 6) (.tmp 50) rfl rfl (wc) (nO (j:Int) (p:Int) x.pg.data x.pg.valid x.pg.dirty x.tenant x.holds x.reading x.writing) rfl rfl 85 _ U.out pM rfl (by simp [Value.oneCell']) ?_)
       go_meet
       case rel=>exact ⟨wc,rfl,S.out⟩
     case rest=>
      clear l S U E j1 c0 c1 c3 c4 c5 c6 c7 c8 c9;obtain ⟨Xx,rfl,hl⟩:=hcut;have l:=H_ hl;clear hl
      go_upto_region 6 with fail
      have m:=l.bk _ _ dV;obtain ⟨x0,E,L,M,P,Q,R⟩:=T_ m;clear m;have A:=pV v.C ((i:Int)+1) _ _ _ _ _ _ _ _ wc (l.ck _ dV) HI.tocF l.fresh (Z _ l.iv.below)
      go_cut [7,8,9] from 51 to 57 (fun s7 s8 s9 wx=>∃Xa Xr D e1 p0 p1 p2 p3 p4 p5 pd pb pc pt,s7 = P_ Xa/\s8 = P_ Xr/\s9 = I_ e1/\pA v.C ((i:Int)+1) D.C (.agg (rqR p0 p1 p2 p3 p4 p5 pd pb pc pt)) e1/\LT w t [(X,oK v),(Xx,.cells (nO (j:Int) (p:Int) x.pg.data x.pg.valid x.pg.dirty x.tenant x.holds x.reading x.writing) 85 (0,0)),(Xa,oK D),(Xr,.cells (aO p0 p1 p2 p3 p4 p5 pd pb pc pt) 37 (0,0))] [D,v] wx)
      case first=>
       as_aux_lemma=>
        go_wp2_with (first
         | (go_at_call 10;refine CM A ?_;rintro en w3 ⟨C',err,a',b',H,I,J,f',K,rq,F,rfl,hc,s⟩;obtain ⟨p0,p1,p2,p3,p4,p5,pd,pb,pc,pt,rfl⟩:=F.row;have HP:=H_ F;clear F;have n:=H_ ((l.step s).add (v:=(⟨_,_,_,_,_,_,_,_⟩:Cv)) hc);obtain ⟨G,k2,r⟩:=n.box2 (D_ none 0 0 none 0 0 none 0 0 none 0 0 none 0 0 none 0 0 none 0 0) #[a',b',H,I,J,f',K] jJ (aO p0 p1 p2 p3 p4 p5 pd pb pc pt) 30 37;obtain ⟨S,U,K2⟩:=eI r G k2;clear r G k2;clear s hc)
         | (refine iJ rfl (.tmp 7) (.tmp 55) rfl rfl (⟨a',b',H,I,J,f',K,C'⟩:Cv) rfl rfl U rfl (n.ck _ dV) ?_)
         | (refine cZ rfl 37 (.tmp 8) (.tmp 56) rfl rfl (w3+1) ((aO p0 p1 p2 p3 p4 p5 pd pb pc pt)) rfl rfl 37 (jJ) ?_ aW rfl (cN) ?_;exact K2))
        go_meet
        case rel=>exact ⟨w3,w3+1,⟨_,_,_,_,_,_,_,C'⟩,_,_,_,_,_,_,_,_,_,_,_,rfl,rfl,rfl,HP,S.out⟩
      case rest=>
       clear l A x0 E L M P Q R;obtain ⟨Xa,Xr,D,e1,p0,p1,p2,p3,p4,p5,pd,pb,pc,pt,rfl,rfl,rfl,F,hl⟩:=hcut;have HP:=H_ F;clear F;have l:=H_ hl;clear hl
       by_cases h0:e1=0
       rotate_left
       ·have d0:(e1 == 0)=false:=by simpa using h0
        have d1:(e1 != 0)=true:=by simp [h0]
        clear h0;have N:=fun W (s:s_ wc W)=>mS (Z _ (l.iv.below.trans (s.mono l.iv.below.size)));have B:=l.iv.below
        go_wp2_with (go_at_call 20;refine CM (N _ B_) ?_;rintro en w4 ⟨rfl,a6⟩)
        go_ret;exact ⟨rfl,B.trans (a6.mono B.size)⟩
       subst h0;have ad:=H_ (HP.inv HI.tocF);obtain ⟨hd,E,y1,bg,bu,bo,cj,ca⟩:=HG.beg HP.out;obtain ⟨sz,av,cv⟩:=(HI.file j y HG.u.fl).size;have a2:p*16<sz:=by
        obtain ⟨e9,q1,q2⟩:=HI.dw;have h1:=q1 i x j HG.u.fr HG.u.ix (.inl hd);have h2:=q2 j y HG.u.fl;rw [b6.out] at h1;omega
       have a4:=H_ bg;have am:=H_ bu;have ao:=H_ (bo.trans b6);have b8:=H_ (ca.trans av);have b9:=H_ av;have cs:j<3:=by have h1:=bI HG.u.fl;have h2:=HI.nf;omega
       have b2:=H_ HG.u.fl;clear hd bg bu bo cj ca av
       go_upto_region 9 with fail
       have m:=l.bk _ _ lK;have f1:=b_ m 1;simp only[zl] at f1;clear m;have hm:i64.wrap ((p:Int)*16)=((p*16:Nat):Int):=by rw [gJ O_];omega
       go_cut [10] from 61 to 63 (fun s10 wx=>s10 = I_ ((p*16:Nat):Int)/\LT w t [(X,oK v),(Xx,.cells (nO (j:Int) (p:Int) x.pg.data x.pg.valid x.pg.dirty x.tenant x.holds x.reading x.writing) 85 (0,0)),(Xa,oK D),(Xr,.cells (aO p0 p1 p2 p3 p4 p5 pd pb pc pt) 37 (0,0))] [D,v] wx)
       case first=>
        as_aux_lemma=>
         go_wp2;go_meet
         case rel=>exact ⟨by go_num,l.out⟩
       case rest=>
        clear l f1 hm;obtain ⟨rfl,hl⟩:=hcut;have l:=H_ hl;clear hl
        go_upto_region 10 with fail
        have m:=l.bk _ _ lN;obtain ⟨x0,E,L,M,P,Q,R⟩:=T_ m;clear m;have A:=pV D.C ((i:Int)+1) _ _ _ _ _ _ _ _ wc (l.ck _ dV) ad l.fresh (Z _ l.iv.below)
        go_cut [11,12,13] from 64 to 70 (fun s11 s12 s13 wx=>∃Xb Xq O q0 q1 q2 q3 q4 q5 qd qb qc qt,s11 = P_ Xb/\s12 = P_ Xq/\s13 = I_ 7/\LT w t [(X,oK v),(Xx,.cells (nO (j:Int) (p:Int) x.pg.data x.pg.valid x.pg.dirty x.tenant x.holds x.reading x.writing) 85 (0,0)),(Xa,oK D),(Xr,.cells (aO p0 p1 p2 p3 p4 p5 pd pb pc pt) 37 (0,0)),(Xb,oK O),(Xq,.cells (aO q0 q1 q2 q3 q4 q5 qd qb qc qt) 37 (0,0))] [O,D,v] wx)
        case first=>
         as_aux_lemma=>
          go_wp2_with (first
           | (go_at_call 10;refine CM A ?_;rintro en w3 ⟨C',err,a',b',H,I,J,f',K,rq,F,rfl,hc,s⟩;obtain ⟨q0,q1,q2,q3,q4,q5,qd,qb,qc,qt,rfl⟩:=F.row;obtain ⟨rfl,rfl⟩:=a4.busy am.out F;clear F;have n:=H_ ((l.step s).add (v:=(⟨_,_,_,_,_,_,_,_⟩:Cv)) hc);obtain ⟨G,k2,r⟩:=n.box2 (D_ none 0 0 none 0 0 none 0 0 none 0 0 none 0 0 none 0 0 none 0 0) #[a',b',H,I,J,f',K] jJ (aO q0 q1 q2 q3 q4 q5 qd qb qc qt) 30 37;obtain ⟨S,U,K2⟩:=eI r G k2;clear r G k2;clear s hc)
           | (refine iJ rfl (.tmp 11) (.tmp 68) rfl rfl (⟨a',b',H,I,J,f',K,D.C⟩:Cv) rfl rfl U rfl (n.ck _ dV) ?_)
           | (refine cZ rfl 37 (.tmp 12) (.tmp 69) rfl rfl (w3+1) ((aO q0 q1 q2 q3 q4 q5 qd qb qc qt)) rfl rfl 37 (jJ) ?_ aW rfl (cN) ?_;exact K2))
          go_meet
          case rel=>exact ⟨w3,w3+1,(⟨a',b',H,I,J,f',K,D.C⟩:Cv),_,_,_,_,_,_,_,_,_,_,rfl,rfl,rfl,S.out⟩
        case rest=>
         clear l A x0 E L M P Q R;obtain ⟨Xb,Xq,O,q0,q1,q2,q3,q4,q5,qd,qb,qc,qt,rfl,rfl,rfl,hl⟩:=hcut;have l:=H_ hl;clear hl
         go_upto_region 11 with fail
         have m:=l.bk _ _ lN;obtain ⟨x0,E,L,M,P,Q,R⟩:=T_ m;clear m;have m:=l.bk _ _ lK;have f0:=sF m;clear m;have A:=bZ_ j (p*16) 16 sz y1 (l.ck _ lK) ad.out a4.u.fl b8.out O_ l.fresh;rw [show ((16:Nat):Int)=16 from rfl] at A
         go_cut [14,15] from 71 to 78 (fun s14 s15 wx=>∃Xc vc,s14 = P_ Xc/\s15 = I_ 7/\LT w t [(X,oK v),(Xx,.cells (nO (j:Int) (p:Int) x.pg.data x.pg.valid x.pg.dirty x.tenant x.holds x.reading x.writing) 85 (0,0)),(Xa,oK D),(Xr,.cells (aO p0 p1 p2 p3 p4 p5 pd pb pc pt) 37 (0,0)),(Xb,oK O),(Xq,.cells (aO q0 q1 q2 q3 q4 q5 qd qb qc qt) 37 (0,0)),(Xc,oK vc)] [vc,O,D,v] wx)
         case first=>
          as_aux_lemma=>
           go_wp2_with (first
            | (go_at_call 38;refine CM A ?_;rintro en w3 ⟨C',err,a',b',H,I,J,f',K,F,rfl,hc,s⟩;obtain ⟨rfl,rfl⟩:=a4.punched am.out ao.out a2 F.2;clear F;have n:=H_ ((l.step s).add (v:=(⟨_,_,_,_,_,_,_,_⟩:Cv)) hc);obtain ⟨G,r⟩:=n.box1 (D_ none 0 0 none 0 0 none 0 0 none 0 0 none 0 0 none 0 0 none 0 0) #[a',b',H,I,J,f',K] 30;have S:=H_ r;have U:=H_ G;clear r G;clear s hc)
            | (refine iJ rfl (.tmp 14) (.tmp 77) rfl rfl (⟨a',b',H,I,J,f',K,D.C⟩:Cv) rfl rfl U rfl (n.ck _ dV) ?_))
           go_meet
           case rel=>exact ⟨w3,(⟨a',b',H,I,J,f',K,D.C⟩:Cv),rfl,rfl,S.out⟩
         case rest=>
          clear l A x0 E L M P Q R f0;obtain ⟨Xc,vc,rfl,rfl,hl⟩:=hcut;have l:=H_ hl;clear hl
          go_upto_region 12 with fail
          obtain ⟨A1,c1,e1,_,_⟩:=(show x_ _ _ _ _ _ _ _ _ _ v.C from l.ck _ uU).files.form;have m:=l.bk _ _ dV;have x0:=sF m;clear m;rw [e1] at x0;have a1:=(show x_ _ _ _ _ _ _ _ _ _ v.C from l.ck _ uU).files;rw [e1] at a1;obtain ⟨bf,cq,tt,BB,ct,rfl,af,_,_,_,_,zz⟩:=FlA.cells a1 b2.out;have z6:=zz 6 _ rfl;rw [b9.out] at z6;have aa:v.C.files.length=3:=HI.nf;rw [aa] at x0;have j5:(j:Int)<3:=O_
          have au:((p*16:Nat):Int)<(sz:Int):=O_
          clear zz a1 e1;have m:=l.bk _ _ lK;have f0:=sF m;clear m
          go_cut [95] from 79 to 95 (fun s95 wx=>s95 = .bool false/\s_ wc wx)
          case first=>
           as_aux_lemma=>
            go_wp2;go_meet
            case rel=>exact ⟨rfl,aP _ _⟩
          case rest=>
           obtain ⟨rfl,s⟩:=hcut;have l:=H_ (l.step s);clear s x0 z6 aa j5 au f0 af
           go_upto_region 14 with fail
           go_cut [16] from 96 to 97 (fun s16 wx=>∃ss:ByteArray,s16 = .string ss/\ss.size=1/\LT w t [(X,oK v),(Xx,.cells (nO (j:Int) (p:Int) x.pg.data x.pg.valid x.pg.dirty x.tenant x.holds x.reading x.writing) 85 (0,0)),(Xa,oK D),(Xr,.cells (aO p0 p1 p2 p3 p4 p5 pd pb pc pt) 37 (0,0)),(Xb,oK O),(Xq,.cells (aO q0 q1 q2 q3 q4 q5 qd qb qc qt) 37 (0,0)),(Xc,oK vc)] [vc,O,D,v] wx)
           case first=>
            as_aux_lemma=>
             go_wp2_with (go_at_call 29;refine CM (bu_ 1 O_ O_ l.iv) ?_;rintro en w3 ⟨ss,ah,rfl,hT,ar⟩;have n:=H_ (LT.read l hT ar);clear hT)
             go_meet
             case rel=>exact ⟨ss,rfl,ah,n⟩
           case rest=>
            clear l;obtain ⟨ss,rfl,ah,hl⟩:=hcut;have l:=H_ hl;clear hl
            go_upto_region 15 with fail
            obtain ⟨A1,c1,e1,_,_⟩:=(show x_ _ _ _ _ _ _ _ _ _ v.C from l.ck _ uU).files.form;have m:=l.bk _ _ dV;have x0:=sF m;clear m;rw [e1] at x0;have a1:=(show x_ _ _ _ _ _ _ _ _ _ v.C from l.ck _ uU).files;rw [e1] at a1;obtain ⟨bf,cq,tt,BB,ct,rfl,af,_,_,_,_,zz⟩:=FlA.cells a1 b2.out;have z6:=zz 6 _ rfl;rw [b9.out] at z6;have aa:v.C.files.length=3:=HI.nf;rw [aa] at x0;have j5:(j:Int)<3:=O_
            have au:((p*16:Nat):Int)<(sz:Int):=O_
            clear zz a1 e1;have m:=l.bk _ _ lK;have f0:=sF m;clear m;have cn:¬((sz:Int)<=((p*16:Nat):Int)):=O_
            go_cut [106] from 98 to 106 (fun s106 wx=>s106 = .bool false/\s_ wc wx)
            case first=>
             as_aux_lemma=>
              go_wp2;go_meet
              case rel=>exact ⟨by first | rfl | (simp;omega),aP _ _⟩
            case rest=>
             obtain ⟨rfl,s⟩:=hcut;have l:=H_ (l.step s);clear s x0 z6 aa j5 au cn f0 af
             go_upto_region 17 with fail
             have m:=l.bk _ _ lN;obtain ⟨x0,E,L,M,P,Q,R⟩:=T_ m;clear m;have m:=l.bk _ _ lK;have f0:=sF m;clear m;have A:=tP D.C j (p*16) sz y1 ss _ _ _ _ _ _ _ _ wc (l.ck _ lN) ad.out a4.u.fl b8.out O_ O_ l.fresh;rw [ah] at A
             go_cut [17,18] from 107 to 115 (fun s17 s18 wx=>∃Xg Y e2,s17 = P_ Xg/\s18 = I_ e2/\WrP 3 2 2 D.C j (p*16) 1 ss sz y1 Y.C e2/\LT w t [(X,oK v),(Xx,.cells (nO (j:Int) (p:Int) x.pg.data x.pg.valid x.pg.dirty x.tenant x.holds x.reading x.writing) 85 (0,0)),(Xa,oK D),(Xr,.cells (aO p0 p1 p2 p3 p4 p5 pd pb pc pt) 37 (0,0)),(Xb,oK O),(Xq,.cells (aO q0 q1 q2 q3 q4 q5 qd qb qc qt) 37 (0,0)),(Xc,oK vc),(Xg,oK Y)] [Y,vc,O,D,v] wx)
             case first=>
              as_aux_lemma=>
               go_wp2_with (first
                | (go_at_call 34;refine CM A ?_;rintro en w3 ⟨C',err,a',b',H,I,J,f',K,F,rfl,hc,s⟩;have ae:=H_ F;clear F;have n:=H_ ((l.step s).add (v:=(⟨_,_,_,_,_,_,_,_⟩:Cv)) hc);obtain ⟨G,r⟩:=n.box1 (D_ none 0 0 none 0 0 none 0 0 none 0 0 none 0 0 none 0 0 none 0 0) #[a',b',H,I,J,f',K] 30;have S:=H_ r;have U:=H_ G;clear r G;clear s hc)
                | (refine iJ rfl (.tmp 17) (.tmp 114) rfl rfl (⟨a',b',H,I,J,f',K,C'⟩:Cv) rfl rfl U rfl (n.ck _ dV) ?_))
               go_meet
               case rel=>exact ⟨w3,(⟨a',b',H,I,J,f',K,C'⟩:Cv),_,rfl,rfl,ae,S.out⟩
             case rest=>
              clear l A x0 E L M P Q R f0;obtain ⟨Xg,Y,e2,rfl,rfl,bj,hl⟩:=hcut;have ae:=H_ bj;clear bj;have l:=H_ hl;clear hl
              by_cases h0:e2=0
              rotate_left
              ·have d0:(e2 == 0)=false:=by simpa using h0
               have d1:(e2 != 0)=true:=by simp [h0]
               clear h0;have N:=fun W (s:s_ wc W)=>mS (Z _ (l.iv.below.trans (s.mono l.iv.below.size)));have B:=l.iv.below
               go_wp2_with (go_at_call 20;refine CM (N _ B_) ?_;rintro en w4 ⟨rfl,a6⟩)
               go_ret;exact ⟨rfl,B.trans (a6.mono B.size)⟩
              subst h0;have aj:=H_ ae.out.1;obtain ⟨L,y2,bh,bv,bp,cl,bl,bt⟩:=a4.write ad.out ao.out ah ae.out;have ai:=H_ bh;have an:=H_ (show L.writing≠0 by rw [bv];exact am);have bd:=H_ (bp.trans ao);have b0:=H_ bl;have ce:=H_ bt;clear bh bv bp cl bl bt
              go_upto_region 20 with fail
              have m:=l.bk _ _ M7_;obtain ⟨x0,E,L,M,P,Q,R⟩:=T_ m;clear m;have m:=l.bk _ _ lK;have f0:=sF m;clear m;have ab:=rI Y.C (j:Int) _ _ _ _ _ _ _ _ wc (l.ck _ dV) aj l.fresh
              go_cut [122,123,124] from 119 to 124 (fun s122 s123 s124 wx=>∃lst:List Int,lst=yB Y.C (j:Int)/\LA Y_ wx iF s122 lst/\s123 = I_ (lst.length:Int)/\s124 = I_ 0/\LT w t [(X,oK v),(Xx,.cells (nO (j:Int) (p:Int) x.pg.data x.pg.valid x.pg.dirty x.tenant x.holds x.reading x.writing) 85 (0,0)),(Xa,oK D),(Xr,.cells (aO p0 p1 p2 p3 p4 p5 pd pb pc pt) 37 (0,0)),(Xb,oK O),(Xq,.cells (aO q0 q1 q2 q3 q4 q5 qd qb qc qt) 37 (0,0)),(Xc,oK vc),(Xg,oK Y)] [Y,vc,O,D,v] wx)
              case first=>
               as_aux_lemma=>
                go_wp2_with (go_at_call 12;refine CM ab ?_;rintro en w3 ⟨vl,rfl,hv,s⟩;have HV:=H_ hv;obtain ⟨A9,c9,rfl,_,_⟩:=hv.form;have n:=H_ (l.step s);clear s hv)
                go_meet
                case rel=>exact ⟨_,rfl,HV.weak (fun _ _ _=>trivial),rfl,rfl,n⟩
              case rest=>
               clear l ab x0 E L M P Q R f0;obtain ⟨lst,a8,h8,rfl,rfl,hl⟩:=hcut;have a5:=H_ a8;have H8:=H_ h8;obtain ⟨A8,c8,rfl,_,a9⟩:=h8.form;unfold maxLen at a9;clear a8 h8;have l:=H_ hl;clear hl
               go_upto_region 21 with fail
               go_loopw [124] (fun s124 wx=>∃k:Nat,s124 = I_ (k:Int)/\k<=lst.length/\s_ wc wx) (fun s124 _=>lst.length - (intOf s124).toNat)
               case atStart=>exact ⟨0,rfl,O_,aP _ _⟩
               case round=>
                obtain ⟨k,rfl,hk,s⟩:=hrel;have HQ:=H_ s;clear s
                by_cases a2:k<lst.length
                ·obtain ⟨q,hq⟩:∃q,lst[k]?=some q:=⟨_,cY a2⟩;obtain ⟨b1,o1,be,hv,_,_,ci,_,c0⟩:=IL.cell (H8.step HQ.out) hq;injection hv with e1' _ e3'
                 subst e1' e3';have kl:(k:Int)<(lst.length:Int):=O_
                 have ac:=l.step HQ;have m:=ac.bk _ _ lK;have f1:=b_ m 1;simp only[zl] at f1;clear m;have al:=H_ hq;clear hq ac;have a3:q≠(p:Int):=fun e=>by
                  have h1:=gL al;rw [a5.out,e] at h1;exact an ((ai.wan bd).1 h1).2
                 have d0:(q == (p:Int))=false:=by simpa using a3
                 clear a3;go_wp2;go_roundw
                 case rel=>exact ⟨k+1,by go_num,O_,HQ.out⟩
                 case measure=>exact bV
                ·obtain rfl:k=lst.length:=O_
                 have l:=H_ (l.step HQ);clear a2 a9
                 rename World=>V
                 clear HQ H8 a5
                 go_upto_region 26 with fail
                 have m:=l.bk _ _ M7_;obtain ⟨x0,E,L,M,P,Q,R⟩:=T_ m;clear m;have A:=eG_ Y.C ((i:Int)+1) _ _ _ _ _ _ _ _ V (l.ck _ dV) aj l.fresh 0
                 go_cut [21,22] from 133 to 138 (fun s21 s22 wx=>∃Xk vk,s21 = P_ Xk/\s22 = I_ 0/\wQ Y.C ((i:Int)+1) 0 vk.C 0/\LT w t [(X,oK v),(Xx,.cells (nO (j:Int) (p:Int) x.pg.data x.pg.valid x.pg.dirty x.tenant x.holds x.reading x.writing) 85 (0,0)),(Xa,oK D),(Xr,.cells (aO p0 p1 p2 p3 p4 p5 pd pb pc pt) 37 (0,0)),(Xb,oK O),(Xq,.cells (aO q0 q1 q2 q3 q4 q5 qd qb qc qt) 37 (0,0)),(Xc,oK vc),(Xg,oK Y),(Xk,oK vk)] [vk,Y,vc,O,D,v] wx)
                 case first=>
                  as_aux_lemma=>
                   go_wp2_with (first
                    | (go_at_call 16;refine CM A ?_;rintro en w3 ⟨C',err,a',b',H,I,J,f',K,F,rfl,hc,s⟩;have cg:=(ai.fin an F).1;subst cg;have cc:=H_ F;clear F;have n:=H_ ((l.step s).add (v:=(⟨_,_,_,_,_,_,_,_⟩:Cv)) hc);obtain ⟨G,r⟩:=n.box1 (D_ none 0 0 none 0 0 none 0 0 none 0 0 none 0 0 none 0 0 none 0 0) #[a',b',H,I,J,f',K] 30;have S:=H_ r;have U:=H_ G;clear r G;clear s hc)
                    | (refine iJ rfl (.tmp 21) (.tmp 137) rfl rfl (⟨a',b',H,I,J,f',K,C'⟩:Cv) rfl rfl U rfl (n.ck _ dV) ?_))
                   go_meet
                   case rel=>exact ⟨w3,(⟨a',b',H,I,J,f',K,C'⟩:Cv),rfl,rfl,cc,S.out⟩
                 case rest=>
                  clear l A x0 E L M P Q R;obtain ⟨Xk,vk,rfl,rfl,ap,hl⟩:=hcut;have b4:=H_ (ap.inv aj);obtain ⟨_,M,y3,bi,bw,bq,cm,br⟩:=ai.fin an.out ap;have b3:=H_ bi;have bc:=H_ bw;have cf:=H_ (bq.trans bd);have ak:=H_ br;clear ap bi bw bq cm br;have l:=H_ hl;clear hl
                  go_upto_region 29 with fail
                  go_upto_region 30 with fail
                  have m:=l.bk _ _ M8_;obtain ⟨x0,E,L,M,P,Q,R⟩:=T_ m;clear m;have m:=l.bk _ _ lK;have f0:=sF m;clear m;have ab:=rI vk.C (j:Int) _ _ _ _ _ _ _ _ wc (l.ck _ dV) b4 l.fresh
                  go_cut [144,145,146] from 141 to 146 (fun s144 s145 s146 wx=>∃lst:List Int,lst=yB vk.C (j:Int)/\LA Y_ wx iF s144 lst/\s145 = I_ (lst.length:Int)/\s146 = I_ 0/\LT w t [(X,oK v),(Xx,.cells (nO (j:Int) (p:Int) x.pg.data x.pg.valid x.pg.dirty x.tenant x.holds x.reading x.writing) 85 (0,0)),(Xa,oK D),(Xr,.cells (aO p0 p1 p2 p3 p4 p5 pd pb pc pt) 37 (0,0)),(Xb,oK O),(Xq,.cells (aO q0 q1 q2 q3 q4 q5 qd qb qc qt) 37 (0,0)),(Xc,oK vc),(Xg,oK Y),(Xk,oK vk)] [vk,Y,vc,O,D,v] wx)
                  case first=>
                   as_aux_lemma=>
                    go_wp2_with (go_at_call 12;refine CM ab ?_;rintro en w3 ⟨vl,rfl,hv,s⟩;have HV:=H_ hv;obtain ⟨A9,c9,rfl,_,_⟩:=hv.form;have n:=H_ (l.step s);clear s hv)
                    go_meet
                    case rel=>exact ⟨_,rfl,HV.weak (fun _ _ _=>trivial),rfl,rfl,n⟩
                  case rest=>
                   clear l ab x0 E L M P Q R f0;obtain ⟨lst,a8,h8,rfl,rfl,hl⟩:=hcut;have a5:=H_ a8;have H8:=H_ h8;obtain ⟨A8,c8,rfl,_,a9⟩:=h8.form;unfold maxLen at a9;clear a8 h8;have l:=H_ hl;clear hl;have bs:(p:Int) ∈ lst:=by
                    rw [a5.out];refine (b3.wan cf).2 ⟨?_,bc⟩;rw [ak.out];have:=b0.out;omega
                   have b7:=H_ bs;clear bs a5
                   go_upto_region 31 with fail
                   go_loopw [146,23] (fun s146 s23 wx=>∃(k:Nat) (b:Bool),s146 = I_ (k:Int)/\s23 = .bool b/\k<=lst.length/\(b=true↔(p:Int) ∈ lst.take k)/\s_ wc wx) (fun s146 s23 _=>lst.length - (intOf s146).toNat)
                   case atStart=>exact ⟨0,false,rfl,rfl,O_,A_,aP _ _⟩
                   case round=>
                    obtain ⟨k,b,rfl,rfl,hk,ag,s⟩:=hrel;have HQ:=H_ s;clear s
                    by_cases a2:k<lst.length
                    ·obtain ⟨q,hq⟩:∃q,lst[k]?=some q:=⟨_,cY a2⟩;obtain ⟨b1,o1,be,hv,_,_,ci,_,c0⟩:=IL.cell (H8.step HQ.out) hq;injection hv with e1' _ e3'
                     subst e1' e3';have kl:(k:Int)<(lst.length:Int):=O_
                     have ac:=l.step HQ;have m:=ac.bk _ _ lK;have f1:=b_ m 1;simp only[zl] at f1;clear m;have al:=H_ hq;clear hq ac;have az:=H_ ag;clear ag;have aw:lst.take (k+1)=lst.take k ++ [q]:=by rw [List.take_add_one,al.out];rfl
                     cases b with
                     | true=>
                      go_wp2;go_roundw
                      case rel=>exact ⟨k+1,true,by go_num,rfl,O_,by rw [aw];simp [az.out.1 rfl],HQ.out⟩
                      case measure=>exact bV
                     | false=>
                      have cp:¬(p:Int) ∈ lst.take k:=fun h=>by have:=az.out.2 h;cases this
                      by_cases a3:q=(p:Int)
                      ·subst a3;go_wp2;go_roundw
                       case rel=>exact ⟨k+1,true,by go_num,A_,O_,by rw [aw];simp,HQ.out⟩
                       case measure=>exact bV
                      ·have d0:(q == (p:Int))=false:=by simpa using a3
                       have d1:¬(p:Int)=q:=fun e=>a3 e.symm;clear a3;go_wp2;go_roundw
                       case rel=>exact ⟨k+1,false,by go_num,rfl,O_,by rw [aw];simp [cp,d1],HQ.out⟩
                       case measure=>exact bV
                    ·obtain rfl:k=lst.length:=O_
                     have l:=H_ (l.step HQ);clear a2 a9
                     rename World=>V
                     obtain rfl:b=true:=ag.2 (by rw [List.take_length];exact b7);clear HQ H8 b7 ag
                     go_upto_region 35 with fail
                     have m:=l.bk _ _ M8_;obtain ⟨x0,E,L,M,P,Q,R⟩:=T_ m;clear m;have A:=pV vk.C ((i:Int)+1) _ _ _ _ _ _ _ _ V (l.ck _ dV) b4 l.fresh (Z _ l.iv.below)
                     go_cut [26,27,28] from 158 to 164 (fun s26 s27 s28 wx=>∃Xe Xs ve r0 r1 r2 r3 r4 r5 rd rb rc rt,s26 = P_ Xe/\s27 = P_ Xs/\s28 = I_ 0/\(0<rd.size/\rd.size<=16/\rd.data[0]?=ss.data[0]?)/\LT w t [(X,oK v),(Xx,.cells (nO (j:Int) (p:Int) x.pg.data x.pg.valid x.pg.dirty x.tenant x.holds x.reading x.writing) 85 (0,0)),(Xa,oK D),(Xr,.cells (aO p0 p1 p2 p3 p4 p5 pd pb pc pt) 37 (0,0)),(Xb,oK O),(Xq,.cells (aO q0 q1 q2 q3 q4 q5 qd qb qc qt) 37 (0,0)),(Xc,oK vc),(Xg,oK Y),(Xk,oK vk),(Xe,oK ve),(Xs,.cells (aO r0 r1 r2 r3 r4 r5 rd rb rc rt) 37 (0,0))] [ve,vk,Y,vc,O,D,v] wx)
                     case first=>
                      as_aux_lemma=>
                       go_wp2_with (first
                        | (go_at_call 10;refine CM A ?_;rintro en w3 ⟨C',err,a',b',H,I,J,f',K,rq,F,rfl,hc,s⟩;obtain ⟨rfl,r0,r1,r2,r3,r4,r5,rd,rb,rc,rt,rfl,h1,h2,h3⟩:=b3.data bc.out (by rw [ak.out];exact b0) F;rw [ak.out,ce.out] at h3;have cd:=H_ (And.intro h1 (And.intro h2 h3));clear F h1 h2 h3;have n:=H_ ((l.step s).add (v:=(⟨_,_,_,_,_,_,_,_⟩:Cv)) hc);obtain ⟨G,k2,r⟩:=n.box2 (D_ none 0 0 none 0 0 none 0 0 none 0 0 none 0 0 none 0 0 none 0 0) #[a',b',H,I,J,f',K] jJ (aO r0 r1 r2 r3 r4 r5 rd rb rc rt) 30 37;obtain ⟨S,U,K2⟩:=eI r G k2;clear r G k2;clear s hc)
                        | (refine iJ rfl (.tmp 26) (.tmp 162) rfl rfl (⟨a',b',H,I,J,f',K,C'⟩:Cv) rfl rfl U rfl (n.ck _ dV) ?_)
                        | (refine cZ rfl 37 (.tmp 27) (.tmp 163) rfl rfl (w3+1) ((aO r0 r1 r2 r3 r4 r5 rd rb rc rt)) rfl rfl 37 (jJ) ?_ aW rfl (cN) ?_;exact K2))
                       go_meet
                       case rel=>exact ⟨w3,w3+1,(⟨a',b',H,I,J,f',K,C'⟩:Cv),_,_,_,_,_,_,_,_,_,_,rfl,rfl,rfl,cd,S.out⟩
                     case rest=>
                      clear l A x0 E L M P Q R;obtain ⟨Xe,Xs,ve,r0,r1,r2,r3,r4,r5,rd,rb,rc,rt,rfl,rfl,rfl,ch,hl⟩:=hcut;have l:=H_ hl;clear hl
                      go_upto_region 36 with fail
                      have m:=l.bk _ _ (.tail _ (.tail _ (.tail _ (.tail _ (.tail _ (.tail _ (.tail _ (.tail _ (.tail _ (.tail _ (.head _)))))))))));have q6:=b_ m 6;simp only[zl] at q6;clear m;have N:∀z,C_ 20 #[] (ext wc z) (cG true (ext wc z)):=fun z=>mS (Z _ (l.iv.below.trans ((p_ wc z).mono l.iv.below.size)));have B:=l.iv.below;have xe:=R_ wc;have lS:=n_ (l.bk _ _ (.tail _ (.tail _ (.tail _ (.tail _ (.tail _ (.tail _ (.tail _ (.tail _ (.tail _ (.tail _ (.head _))))))))))));obtain ⟨h1,h2,h3⟩:=ch;have h0:0<ss.size:=O_
                      have cr:(((rd[0]'h1).toNat:Int) == ((ss[0]'h0).toNat:Int))=true:=by
                       have e:rd[0]'h1=ss[0]'h0:=bH ((Array.getElem?_eq_getElem (xs:=rd.data) (i:=0) h1).symm.trans (h3.trans (Array.getElem?_eq_getElem (xs:=ss.data) (i:=0) h0)));rw [e];exact beq_self_eq_true _
                      refine w_ q_ q_ ?_
                      repeat (go_big_quiet_step (first | (with_reducible exact E_ (N _))))
                      refine wpQuiet_nil ?_;rintro w' ⟨z,rfl⟩;have HW:=H_ (p_ wc z);clear xe N;go_wp2;go_ret;exact ⟨rfl,B.trans (HW.mono B.size)⟩
end
end Go.Proofs.YtehfhnbpnaiogaaGreatDoor
