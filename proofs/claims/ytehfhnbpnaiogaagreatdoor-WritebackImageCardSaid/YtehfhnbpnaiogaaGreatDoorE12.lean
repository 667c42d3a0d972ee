/-
  Lemmas and contracts for the laws of this seat, part 12; several texts joined by a program.
-/
import Derived.Test.YtehfhnbpnaiogaaGreatDoorE10
import Derived.Test.YtehfhnbpnaiogaaGreatDoorE11
import Derived.Test.YtehfhnbpnaiogaaGreatDoorE00
namespace Go.Proofs.YtehfhnbpnaiogaaGreatDoor
set_option linter.unusedVariables false
set_option linter.unusedSimpArgs false
set_option maxRecDepth 100000
set_option maxHeartbeats 16000000
open Go.RowKit Go.Proofs.Tryz IntKind
variable {C C' C0:Ck} {cnt j k n off sz:Nat} {y y':Fl}
section
variable {F G Z:Nat}
def tF (F G Z off n sz j cnt k:Nat) (C:Ck):Prop:=cE F G Z C/\∃y,C.files[j]?=some y/\∀m,k<=m->m<cnt->oG off n sz (off / 16+m)=false->kU C j y off n true ((off / 16+m:Nat):Int)
inductive ClI (j off n sz:Nat) (C0:Ck):Nat->Ck->Prop
 | zero:ClI j off n sz C0 0 C0
 | none {k p:Nat} {C:Ck} {y:Fl}:ClI j off n sz C0 k C->p=off / 16+k->C.files[j]?=some y->oG off n sz p=true->D_ y.c (p:Int)<=0->ClI j off n sz C0 (k+1) {C with files:=C.files.set j {y with c:=(Z_ y.c p 0).1,blocks:=bits .andNot .i64 y.blocks (wrap64 (2 ^ p))}}
 | gone {k p i t k':Nat} {C:Ck} {x:Fr} {y:Fl} {l:Lr} {gp:Gr} {z:Zn}:ClI j off n sz C0 k C->p=off / 16+k->dE C i x j y->x.page=(p:Int)->zD C i t k' x l gp z->oG off n sz p=true->ClI j off n sz C0 (k+1) {mF C i j t k' x y l gp z 0 with files:=(mF C i j t k' x y l gp z 0).files.set j {({y with c:=(Z_ y.c x.page 0).1}:Fl) with blocks:=bits .andNot .i64 y.blocks (wrap64 (2 ^ p))}}
 | cut {k p i at' ct:Nat} {C:Ck} {x:Fr} {y:Fl}:ClI j off n sz C0 k C->p=off / 16+k->dE C i x j y->x.page=(p:Int)->oG off n sz p=false->bD p off n=((at':Int),(ct:Int))->at'+ct<=16->jK x.pg.valid at' ct true=0->ClI j off n sz C0 (k+1) (eY C i j y ⟨x.file,x.page,G_ x.pg at' ⟨(List.replicate ct 0).toArray⟩,x.tenant,x.holds,x.reading,x.writing⟩)
def xF (C0:Ck) (off n sz j cnt k:Nat) (C:Ck):Prop:=(∀e:Nat->Int,(∀m,m<cnt->((off / 16+m:Nat):Int)*16<e j)->tH e C0->tH e C)/\nJ C0 C/\(∀y,C.files[j]?=some y->∀m,m<k->m<cnt->oG off n sz (off / 16+m)=true->D_ y.c ((off / 16+m:Nat):Int)<=0)/\ClI j off n sz C0 k C
theorem xF.zero:xF C0 off n sz j cnt 0 C0:=⟨fun _ _ h=>h,.refl _,fun _ _ m hm=>by omega,.zero⟩
theorem xF.next (h:xF C0 off n sz j cnt k C) (hk:k<cnt) (hy:C.files[j]?=some y) (hy':C'.files[j]?=some y') (hd:∀e:Nat->Int,((off / 16+k:Nat):Int)*16<e j->tH e C->tH e C') (hs:nJ C C') (hg:∀q:Int,q≠((off / 16+k:Nat):Int)->D_ y'.c q=D_ y.c q) (hw:oG off n sz (off / 16+k)=true->D_ y'.c ((off / 16+k:Nat):Int)<=0) (hci:ClI j off n sz C0 (k+1) C'):xF C0 off n sz j cnt (k+1) C':=by
 refine ⟨fun e d h0=>hd e (d k hk) (h.1 e d h0),h.2.1.trans hs,fun u f m g a b=>?_,hci⟩;obtain rfl:u=y':=aP (f.symm.trans hy')
 by_cases e:m=k
 ·subst e;exact hw b
 ·rw [hg _ O_];exact h.2.2.1 y hy m O_ a b
def jb_ (C0:Ck) (off n sz j:Nat) (C:Ck):Prop:=xF C0 off (bI off n sz) sz j (if bI off n sz=0 then 0 else (off+bI off n sz+15) / 16 - off / 16) (if bI off n sz=0 then 0 else (off+bI off n sz+15) / 16 - off / 16) C
def cE_ (C0:Ck) (F G Z off n sz j cnt k:Nat) (C:Ck):Prop:=tF F G Z off n sz j cnt k C/\xF C0 off n sz j cnt k C
theorem tF.mono {off n sz j cnt k:Nat} (h:tF F G Z off n sz j cnt k C):tF F G Z off n sz j cnt (k+1) C:=by
 obtain ⟨h1,y,h2,h3⟩:=h;exact ⟨h1,y,h2,fun m hm=>h3 m O_⟩
theorem tF.keep {i:Nat} {x:Fr} (h:∀m,k<=m->m<cnt->oG off n sz (off / 16+m)=false->kU C j y off n true ((off / 16+m:Nat):Int)) (hi:C.frames[i]?=some x) (hxp:x.page=((off / 16+k:Nat):Int)) (hI:cE F G Z C') (hy':C'.files[j]?=some y')
  (hfr:∀i',i'≠i->∀u,C.frames[i']?=some u->C'.frames[i']?=some u) (hg:∀p:Int,p≠((off / 16+k:Nat):Int)->D_ y'.c p=D_ y.c p):tF F G Z off n sz j cnt (k+1) C':=by
 refine ⟨hI,y',hy',fun m r g q=>?_⟩;obtain ⟨i',u,l,b,d,o⟩:=h m O_ g q;have a:((off / 16+m:Nat):Int)≠((off / 16+k:Nat):Int):=O_
 have f:i'≠i:=fun e=>by
  subst e;obtain rfl:u=x:=aP (b.fr.symm.trans hi);rw [hxp] at d;exact a d.symm
 exact ⟨i',u,by rw [hg _ a];exact l,⟨hfr i' f u b.fr,hy',b.ix,b.ok⟩,d,o⟩
theorem tF.keep0 (h:∀m,k<=m->m<cnt->oG off n sz (off / 16+m)=false->kU C j y off n true ((off / 16+m:Nat):Int)) (hI:cE F G Z C') (hy':C'.files[j]?=some y')
  (hfr:C'.frames=C.frames) (hg:∀p:Int,p≠((off / 16+k:Nat):Int)->D_ y'.c p=D_ y.c p):tF F G Z off n sz j cnt (k+1) C':=by
 refine ⟨hI,y',hy',fun m q b l=>?_⟩;obtain ⟨o,u,f,a,g,i⟩:=h m O_ b l;have d:((off / 16+m:Nat):Int)≠((off / 16+k:Nat):Int):=O_
 exact ⟨o,u,by rw [hg _ d];exact f,⟨by rw [hfr];exact a.fr,hy',a.ix,a.ok⟩,g,i⟩
theorem cE.unset (h:cE F G Z C) (hj:C.files[j]?=some y) {p:Nat} (hp:p<8) (hv:D_ y.c p<=0) (bl:Int) (hbl:jN bl):cE F G Z {C with files:=C.files.set j {y with c:=(Z_ y.c p 0).1,blocks:=bl}}:=by
 have d:gG (p:Int)=true:=by unfold gG;simp;omega
 have b:=h.file j y hj;refine h.rel (jT.refl h) (jS.set h hj (fun q f=>?_) ⟨b.size,b.slot,b.err,hbl,b.st.2⟩) rfl rfl h.nl h.nk h.lok h.pok
 show D_ (Z_ y.c p 0).1 q=_
 have a:0<D_ (Z_ y.c p 0).1 q\/0<D_ y.c q:=f;rw [dM d] at a ⊢
 by_cases e:q=(p:Int)
 ·rw [if_pos e] at a ⊢
  rcases a with a | a
  ·omega
  ·rw [e] at a;omega
 ·rw [if_neg e]
theorem cE.blocks (h:cE F G Z C) (hj:C.files[j]?=some y) (bl:Int) (hbl:jN bl):cE F G Z {C with files:=C.files.set j {y with blocks:=bl}}:=by
 have hy:=h.file j y hj;exact h.rel (jT.refl h) (jS.set h hj (fun q hq=>rfl) ⟨hy.size,hy.slot,hy.err,hbl,hy.st.2⟩) rfl rfl h.nl h.nk h.lok h.pok
def SK.mk0 (n N:Nat):SK (fun z=>N<=z):=⟨fun v w=>∃g,v = S_ (some ⟨g,0,none⟩) n n/\N<=g/\g<w.heap.size/\∃w0 base,World.ownsRow w0 base 5 1 (S_ (some ⟨g,0,none⟩) n n) n (madeCells (Value.int .u8 0).cells (n*1)).toList/\w.heap[g]?=w0.heap[g]?,fun v w w' hk ⟨g,e,h1,h2,w0,base,h3,h4⟩=>⟨g,e,h1,iS h2 hk.1,w0,base,h3,(hk.2 g h1 h2).trans h4⟩⟩
theorem cM_ (off n sz:Nat):bI off (bI off n sz) sz=bI off n sz:=by unfold bI;omega
theorem cK_ (j off n sz:Nat) (y0:Fl) {a b c d e f g:Value} {S:Nat->Prop} {w:World} (h:x_ w S a b c d e f g C0) (hI:cE F G Z C0) (hj:C0.files[j]?=some y0) (hsz:y0.size=sz) (hs8:sz<=128) (h2:off+n<=128)
  (hcut:∀m,m<(if bI off n sz=0 then 0 else (off+bI off n sz+15) / 16 - off / 16)->oG off (bI off n sz) sz (off / 16+m)=false->kU C0 j y0 off (bI off n sz) true ((off / 16+m:Nat):Int)) (hS:∀z,w.heap.size<=z->S z) :
  C_ 98 #[cI a b c d e f g,I_ j,I_ off,I_ n] w (dJ_ (fun C'=>cE F G Z C'/\jb_ C0 off n sz j C') S w):=by
 obtain ⟨S1,s1,s2,s3⟩:=oB hS;replace h:=h.weak s3;clear s3;obtain ⟨C,bv⟩:=aZ C0;obtain ⟨y,e8⟩:=aZ y0;rw [<-bv] at h hI hj hcut;rw [<-e8] at hj hsz hcut;have ed:=H_ bv;clear bv e8 y0;obtain ⟨I,b7⟩:=aZ (bI off n sz);rw [<-b7] at hcut;obtain ⟨E,ab⟩:=aZ ((if I=0 then 0 else (off+I+15) / 16 - off / 16));rw [<-ab] at hcut;have fs:I<=n/\(I=0\/off+I<=sz):=by unfold bI at b7;omega
 have ga:E<=9:=by rw [ab];split <;> omega
 have dx:∀w',w.heap.size+1<w'.heap.size->C_ 88 #[I_ (off:Int),I_ (I:Int)] w' (pG (if I=0 then [] else W_ off I) (fun z=>w.heap.size+1<z) w'):=fun w' hz=>by
  by_cases e:I=0
  ·rw [if_pos e,e];exact aA_ off _ w'
  ·rw [if_neg e];exact sW off I _ w' O_ O_ (fun z gi=>by omega)
 have bi:=fun (p:Nat) (hp:p<8) w'=>yG (p:Int) (off:Int) (I:Int) w' ⟨O_,O_⟩ ⟨O_,O_⟩ ⟨O_,O_⟩;have bg:=fun w' (M:q_ w w')=>bY_ off I sz (h.step M) hI.ok hj hsz hs8 (hI.findOk hj) O_;have hl:=hI.ok;have cz:=H_ (show cE_ C0 F G Z off I sz j E 0 C from ⟨⟨hI,y,hj,fun m _ hm hw=>hcut m hm hw⟩,by rw [ed.out];exact xF.zero⟩);obtain ⟨A1,fx,rfl,q1,q2⟩:=h.files.form;obtain ⟨A2,m2,c2,rfl⟩:=h.frames.cap;obtain ⟨A3,m3,c3,A4,m4,c4,A5,m5,c5,A6,m6,c6,A7,m7,c7,rfl,rfl,rfl,rfl,rfl⟩:=x_.caps5 h;obtain ⟨bf,of,kt,KB,kc,rfl,ev,k1,k2,k3,k4,dq⟩:=FlA.cells h.files hj;have gc:=bK hj;have gd:C.files.length<=100:=hl.files.2;have j2:(j:Int)<(C.files.length:Int):=O_
 have j0:(0:Int)<=(j:Int):=O_
 obtain ⟨H,HL,Q⟩:=eT h hl hj;clear h hl hj k1 k2 k3 k4;obtain ⟨fv,ad,ak⟩:=eT hsz b7 ab;have eb:w.cell? ⟨bf,of+j*15+6,none⟩=some (I_ (sz:Int)):=by rw [<-hsz];exact dq 6 _ rfl
 have en:=H_ eb;clear dq hsz b7 eb ab hcut hI;go_enter func98,ntmps98
 go_upto_region 1 with fail
 generalize hW9:(w.alloc _).alloc _=W;obtain ⟨HX,HR,HW,HZ⟩:=fV hW9;clear hW9 HZ;obtain ⟨x0,x1,x2,x3,x4,x5,x6⟩:=aF HX.out;have z6:W.cell? ⟨bf,of+j*15+6,none⟩=some (I_ (sz:Int)):=(c_ (HW.block _ ev)).trans en
 go_cut [3] (fun s3 wx=>s3 = I_ (I:Int)/\wx=W)
 case first=>
  by_cases e1:(n:Int)<=(sz:Int) - (off:Int)
  ·have d1:decide ((n:Int)<=(sz:Int) - (off:Int))=true:=dT e1;have d2:decide ((n:Int)<0)=false:=dF O_;have a2:I=n:=by have:=ad.out;unfold bI at this;omega
   have al:=H_ a2;clear a2;go_wp2;go_meet
   case rel=>exact ⟨by rw [al.out],rfl⟩
  ·have d1:decide ((n:Int)<=(sz:Int) - (off:Int))=false:=dF e1
   by_cases e2:off<=sz
   ·have d2:decide ((sz:Int) - (off:Int)<0)=false:=dF O_;have a2:(I:Int)=(sz:Int) - (off:Int):=by have:=ad.out;unfold bI at this;omega
    have al:=H_ a2;clear a2;go_wp2;go_meet
    case rel=>exact ⟨by rw [al.out],rfl⟩
   ·have d2:decide ((sz:Int) - (off:Int)<0)=true:=dT O_;have a2:(I:Int)=0:=by have:=ad.out;unfold bI at this;omega
    have al:=H_ a2;clear a2;go_wp2;go_meet
    case rel=>exact ⟨by rw [al.out],rfl⟩
 case rest=>
  obtain ⟨rfl,rfl⟩:=hcut;clear x0 x1 x2 x3 x4 x5 x6 z6;obtain ⟨x0,x1,x2,x3,x4,x5,x6⟩:=aF HX.out
  go_upto_region 4 with (first
   | (go_at_call 97;refine CM (bg _ HW) ?_;rintro e w2 ⟨wh,cu,gm,rfl,cc,dg⟩;obtain ⟨d6,bn,d5⟩:=bN HX HR HW dg;clear dg)
   | (go_at_call 88;refine CM (dx _ (p_ bn)) ?_;rintro e w3 ⟨pv,rfl,dz,dh⟩;obtain ⟨d7,bo,bq⟩:=bN d6 bn d5 dh;have ao:=H_ (dz.old);clear dz dh)
   | fail)
  rw [ad.out,cM_,<-ad.out,<-ak.out] at cc;have eg:=H_ cc;obtain ⟨B,hB⟩:=aZ w3.heap.size;rw [<-hB] at ao;have fz:w.heap.size+1<B:=by rw [hB];exact p_ bo
  obtain ⟨lst,ac⟩:=aZ ((if I=0 then [] else W_ off I));rw [<-ac] at ao;have cm:lst.length=E:=by
   rw [ac,ak.out]
   split
   ·rfl
   ·rw [iV]
  obtain ⟨A8,O,bj,_,_⟩:=ao.form;rw [cm] at bj;subst bj;obtain ⟨HB,ek,b4⟩:=eT hB ac cm;clear hB ac dx cm cc bg;go_wp2
  go_loopw [13] (fun s13 wx=>∃(k:Nat) (C:Ck) (a b c d e f g:Value),s13 = I_ k/\k<=E/\cE_ C0 F G Z off I sz j E k C/\aW wx (w) #[a,b,c,d,e,f,g] 30/\x_ wx S1 a b c d e f g C/\LA M_ wx (fun z=>w.heap.size+1<z/\z<B) (S_ A8 E O) lst/\q_ w wx/\B<=wx.heap.size/\wx.heap[w.heap.size+1]?=some (cG)) (fun s13 _=>100 - (intOf s13).toNat)
  case atStart=>exact ⟨0,C,_,_,_,_,_,_,_,rfl,O_,cz.out,d7.out,H.step bq.out,ao.out,bq.out,by rw [HB.out];exact aQ _,bo⟩
  case round=>
   clear ao bq d7 bo d6 bn d5 HX HR HW;have cx:=eg;clear H Q HL cz;obtain ⟨k,C,a,b,c,d,e,f,g,rfl,hk,ew,hX,s,hp,M,ar,hR⟩:=hrel;obtain ⟨⟨hI,y,hj,e4⟩,dp⟩:=ew;have a9:=H_ dp;clear dp;obtain ⟨A1,m1,c1,rfl⟩:=s.files.cap;obtain ⟨A2,a4,rfl,q3,q4⟩:=s.frames.form;obtain ⟨A3,m3,c3,rfl⟩:=s.zones.cap;obtain ⟨A4,m4,c4,rfl⟩:=s.groups.cap;obtain ⟨A5,m5,c5,rfl⟩:=s.lists.cap;obtain ⟨A6,m6,c6,rfl⟩:=s.clocks.cap;obtain ⟨A7,m7,c7,rfl⟩:=s.ptes.cap;obtain ⟨HI,Q,b5,HP,HW,HX,HR,HC⟩:=h8_ hI hj e4 hp M hX hR s;have g6:=p_ hR;obtain ⟨x0,x1,x2,x3,x4,x5,x6⟩:=aF hX;clear M hX hR hI e4
   by_cases ai:k<E
   ·have ax:I≠0:=fun e=>by have:=ak.out;rw [if_pos e] at this;omega
    have cd:E=(off+I+15) / 16 - off / 16:=by have:=ak.out;rw [if_neg ax] at this;exact this
    have bh:lst=W_ off I:=by have:=ek.out;rw [if_neg ax] at this;exact this
    have a6:=gJ off I k O_;rw [<-bh] at a6;have e0:=pS (off:=off) (n:=I) (k:=k) O_ O_;obtain ⟨p,b1⟩:=aZ (off / 16+k);rw [<-b1] at a6 e0;obtain ⟨r1,r2,r3⟩:=e0;have N:=H_ b1;have an:=H_ a6;obtain ⟨v,ct,cp,g0⟩:∃v ct:Nat,bD p off I=((v:Int),(ct:Int))/\v+ct<=16:=by
     obtain ⟨g1,g2,g3,g4⟩:=yF r1 r2;exact ⟨(bD p off I).1.toNat,(bD p off I).2.toNat,Prod.ext (by dsimp only;omega) (by dsimp only;omega),O_⟩
    have co:∀w',C_ 151 #[I_ (p:Int),I_ (off:Int),I_ (I:Int)] w' (nK (.tuple #[I_ (v:Int),I_ (ct:Int)]) w'):=fun w'=>by
     have:=bi p r3 w';rw [cp] at this;exact this
    have d4:=H_ cp;have e6:(bits .and .i64 wh (wrap64 (2 ^ p)) != 0)=oG off I sz p:=by
     have:=cx.wb p r3
     cases M:oG off I sz p with
     | true=>exact this.2 ⟨k,ai,b1.symm,M⟩
     | false=>exact Bool.eq_false_iff.2 fun h=>by obtain ⟨m,_,_,h3⟩:=this.1 h;rw [M] at h3;cases h3
    have dl:oG off I sz p=false->(bits .and .i64 cu (wrap64 (2 ^ p)) != 0)=true:=fun M=>(cx.cb p r3).2 ⟨k,ai,b1.symm,M⟩;have be:=H_ e6;have cy:=H_ dl;obtain ⟨b8,o8,fm,e5,_,_,g5,fq,l0⟩:=IL.cell hp a6;rw [b4.out] at e5;injection e5 with e81 e82 e83
    subst e81 e83;clear a6 b1 hp cp bh cd bi ax e82 e6 dl
    go_upto_region 7 with fail
    go_cut [14,15] (fun s14 s15 wx=>(∃(m:Int) (ok:Bool),s14 = I_ m/\s15 = .bool ok/\(ok=false/\D_ y.c p<=0\/ok=true/\∃(i:Nat) (x:Fr),m=(i:Int)+1/\D_ y.c p=(i:Int)+1/\dE C i x j y/\x.page=p))/\aW wx (w) (E_ A1 m1 c1 A2 C.frames.length a4 A3 m3 c3 A4 m4 c4 A5 m5 c5 A6 m6 c6 A7 m7 c7) 30/\x_ wx S1 (S_ A1 m1 c1) (S_ A2 C.frames.length a4) (S_ A3 m3 c3) (S_ A4 m4 c4) (S_ A5 m5 c5) (S_ A6 m6 c6) (S_ A7 m7 c7) C/\LA M_ wx (fun z=>w.heap.size+1<z/\z<B) (S_ (some ⟨b8,o8,none⟩) E O) lst/\q_ w wx/\B<=wx.heap.size/\wx.heap[w.heap.size+1]?=some (cG))
    case first=>
     have xe:=aG wr;have g7:=p_ HX
     by_cases hv:D_ y.c p<=0
     ·have HV:=H_ hv;have ce:∀z,C_ 59 #[cI (S_ A1 m1 c1) (S_ A2 C.frames.length a4) (S_ A3 m3 c3) (S_ A4 m4 c4) (S_ A5 m5 c5) (S_ A6 m6 c6) (S_ A7 m7 c7),I_ j,I_ p] (ext wr z) (fun e cw=>e = .returned (.tuple #[I_ 0,.bool false])/\Below (ext wr z).heap.size (ext wr z) cw):=fun z=>by
       have:=gR j y p (s.step (n_ wr z)) hj;unfold eR wG at this;rw [if_pos hv] at this;exact this
      clear hv hj s;refine y_ s_ s_ ?_
      repeat (go_big_quiet_step ((exact aB (ce _))))
      refine wpQuiet_nil ?_;rintro w' ⟨z,rfl⟩;go_wp2;go_meet
      case rel=>exact ⟨⟨0,false,rfl,rfl,.inl ⟨rfl,HV⟩⟩,i_ HX (n_ wr z),HC.step (n_ wr z),HP.step (n_ wr z),d_ HW (n_ wr z),dO ar (n_ wr z).size,i_ HR (n_ wr z)⟩
     ·obtain ⟨i,x,a7,hU,R⟩:=HI.findOk hj p O_;have ce:∀z,C_ 59 #[cI (S_ A1 m1 c1) (S_ A2 C.frames.length a4) (S_ A3 m3 c3) (S_ A4 m4 c4) (S_ A5 m5 c5) (S_ A6 m6 c6) (S_ A7 m7 c7),I_ j,I_ p] (ext wr z) (fun e cw=>e = .returned (.tuple #[I_ ((i:Int)+1),.bool true])/\Below (ext wr z).heap.size (ext wr z) cw):=fun z=>by
       have:=gR j y p (s.step (n_ wr z)) hj;unfold eR wG at this;rw [if_neg hv,a7] at this;exact this
      obtain ⟨HU,eh,aq⟩:=eT hU a7 R;clear hv hU a7 R hj s;refine y_ s_ s_ ?_
      repeat (go_big_quiet_step ((exact aB (ce _))))
      refine wpQuiet_nil ?_;rintro w' ⟨z,rfl⟩;go_wp2;go_meet
      case rel=>exact ⟨⟨_,true,rfl,rfl,.inr ⟨rfl,i,x,rfl,eh,HU,aq⟩⟩,i_ HX (n_ wr z),HC.step (n_ wr z),HP.step (n_ wr z),d_ HW (n_ wr z),dO ar (n_ wr z).size,i_ HR (n_ wr z)⟩
    case rest=>
     clear x0 x1 x2 x3 x4 x5 x6 l0 HP HW HX HR HC s hj;obtain ⟨⟨m,ok,rfl,rfl,dv⟩,hX,s,hp,M,ar,hR⟩:=hcut;obtain ⟨HP,HW,HX,HR,HC,d3⟩:=h6_ hp M hX hR s dv;obtain ⟨fw,gn,es,bk,_,_,fp,_,l0⟩:=IL.cell hp an.out;rw [b4.out] at bk;injection bk with ee ee3 ee4
     clear ee3 ee4;injection ee with ee
     injection ee with ee1 ee2
     subst ee1 ee2;have dj:w.heap.size+1<wc.heap.size:=O_
     obtain ⟨x0,x1,x2,x3,x4,x5,x6⟩:=aF hX;clear hp M hX hR dv
     cases hwh:oG off I sz p with
     | true=>
      have ff:(bits .and .i64 wh (wrap64 (2 ^ p)) != 0)=true:=be.trans hwh;have ap:=H_ hwh;clear hwh
      go_upto_if 66 with fail
      go_cut [] (fun wx=>∃(Cx:Ck) (yx:Fl) (gf nf X gr nr cr:Nat) (c' d':Value) (L nl cl gk nk ck:Nat) (g':Value) (Bx:Nat),aW wx (w) #[S_ (some ⟨gf,0,none⟩) nf X,S_ (some ⟨gr,0,none⟩) nr cr,c',d',S_ (some ⟨L,0,none⟩) nl cl,S_ (some ⟨gk,0,none⟩) nk ck,g'] 30/\eP wx S1 Bx gf nf X gr nr cr c' d' L nl cl gk nk ck g' Cx/\w.heap.size+1<Bx/\B<=Bx/\Cx.files[j]?=some yx/\(∀bl,jN bl->bl=bits .andNot .i64 yx.blocks (wrap64 (2 ^ p))->cE_ C0 F G Z off I sz j E (k+1) {Cx with files:=Cx.files.set j {yx with blocks:=bl}})/\jN yx.blocks/\LA M_ wx (fun z=>w.heap.size+1<z/\z<B) (S_ (some ⟨b8,o8,none⟩) E O) lst/\q_ w wx/\B<=wx.heap.size/\wx.heap[w.heap.size+1]?=some (cG))
      case first=>
       rcases d3.out with ⟨rfl,hv⟩ | ⟨rfl,i,x,rfl,a7,hU,R⟩
       ·have V:=H_ (show ∀bl,jN bl->bl=bits .andNot .i64 y.blocks (wrap64 (2 ^ p))->cE_ C0 F G Z off I sz j E (k+1) {C with files:=C.files.set j {y with c:=(Z_ y.c p 0).1,blocks:=bl}} from fun bl ag av=>by
         have ay:∀q:Int,q≠((off / 16+k:Nat):Int)->D_ (Z_ y.c p 0).1 q=D_ y.c q:=fun q hq=>by
          rw [dM (by unfold gG;simp;omega),if_neg (fun e=>hq (by rw [e,N.out]))]
         exact ⟨tF.keep0 b5 (HI.unset Q r3 hv bl ag) (w_ Q) rfl ay,a9.next ai Q (w_ Q) (fun e _ h=>h.same rfl) (nJ.set Q rfl rfl) ay (fun _=>by
          show D_ (Z_ y.c p 0).1 _<=0
          rw [dM (by unfold gG;simp;omega),if_pos (by rw [N.out])];exact Int.le_refl 0) (by rw [av];exact .none a9.out.2.2.2 N Q ap hv)⟩)
        have ds:=kX C _ _ _ _ _ _ _ S1 wc HC.out HI.ok (fun z hz=>s2 z O_);clear hv
        go_upto_region 12 with (first
         | (go_at_call 21;refine CM ds ?_;rintro e w5 ⟨gf,nf,X,gr,nr,cr,c',d',L,nl,cl,gk,nk,ck,g',rfl,Y,a1⟩;obtain ⟨P3,n3,r3,rfl⟩:=Y.zones.cap;obtain ⟨P4,n4,r4,rfl⟩:=Y.groups.cap;obtain ⟨P7,n7,r7,rfl⟩:=Y.ptes.cap;have a0:=lJ HX a1)
         | (refine aJ rfl (.tmp 4) (.tmp 71) rfl rfl rfl rfl a0 rfl ?_)
         | fail)
        have a3:=H_ (show (w5.setRow (w) (E_ (o_ gf) nf X (o_ gr) nr cr P3 n3 r3 P4 n4 r4 (o_ L) nl cl (o_ gk) nk ck P7 n7 r7)).heap[w.heap.size]?=some (.cells (E_ (o_ gf) nf X (o_ gr) nr cr P3 n3 r3 P4 n4 r4 (o_ L) nl cl (o_ gk) nk ck P7 n7 r7) 30 (0,0)) from setRow_heap _ _ _ _ _ _ a0);have J:=H_ (Y.setRow (w) (E_ (o_ gf) nf X (o_ gr) nr cr P3 n3 r3 P4 n4 r4 (o_ L) nl cl (o_ gk) nk ck P7 n7 r7) (fun hz=>(s1 _ hz).2.1 rfl) O_);have aa:=H_ ((HP.step a1).kept (r_.of_setRow w5 (w) (E_ (o_ gf) nf X (o_ gr) nr cr P3 n3 r3 P4 n4 r4 (o_ L) nl cl (o_ gk) nk ck P7 n7 r7) (fun hz=>by have:=hz.1;omega)));have af:=H_ (j_ (d_ HW a1) (aQ _) (E_ (o_ gf) nf X (o_ gr) nr cr P3 n3 r3 P4 n4 r4 (o_ L) nl cl (o_ gk) nk ck P7 n7 r7));have ae:=H_ ((setRow_other w5 (w) (w+1) (E_ (o_ gf) nf X (o_ gr) nr cr P3 n3 r3 P4 n4 r4 (o_ L) nl cl (o_ gk) nk ck P7 n7 r7) O_).trans (i_ HR.out a1));have da:B<=(w5.setRow (w) (E_ (o_ gf) nf X (o_ gr) nr cr P3 n3 r3 P4 n4 r4 (o_ L) nl cl (o_ gk) nk ck P7 n7 r7)).heap.size:=by have:=a1.size;simp [World.setRow];omega
        generalize w5.setRow (w) (E_ (o_ gf) nf X (o_ gr) nr cr P3 n3 r3 P4 n4 r4 (o_ L) nl cl (o_ gk) nk ck P7 n7 r7)=W6 at a3 J aa af ae da;clear Y a1 a0 ds l0 x0 x1 x2 x3 x4 x5 x6;obtain ⟨r9,⟨kt,KB,kc,k1,k2,k3,k4,rfl⟩,a5⟩:=J.files.at_ Q.out;have z2:W6.cell? ⟨gf,j*15+2,none⟩=some (I_ kt):=a5 2 _ rfl;have z3:=a5 3 _ rfl;have z4:W6.cell? ⟨gf,j*15+4,none⟩=some (I_ (f_ kt y.c).val):=a5 4 _ rfl;have z5:W6.cell? ⟨gf,j*15+5,none⟩=some (I_ (f_ kt y.c).marks):=a5 5 _ rfl;have el:=H_ k1;have dw:w+1<gf/\gf<gr/\gr<L/\L<gk:=⟨by have:=J.o1;omega,J.o2,J.o3,J.o4⟩;have ft:=J.lt;have e3:=fun w' (M:q_ W6 w')=>bD_ kc p 0 k1 k2 k3 (k4.step M) (fun z hz=>⟨s2 z (by have:=M.size;omega),by have:=M.size;omega,by have:=M.size;omega,by have:=M.size;omega,by have:=M.size;omega⟩);obtain ⟨ep,fk,bs,a8,_,_,au,_,l0⟩:=IL.cell aa.out an.out;rw [b4.out] at a8;injection a8 with ee ee3 ee4
        clear ee3 ee4;injection ee with ee
        injection ee with ee1 ee2
        subst ee1 ee2;obtain ⟨x0,x1,x2,x3,x4,x5,x6⟩:=aF a3.out;have bc:=p_ a3;have ah:=J.files.lt;have fd:(j:Int)<(nf:Int):=by have:=J.ef;have:=bK Q;omega
        have du:nf<=1000:=by have:=J.ef;have:=HI.ok.files.2;omega
        clear a5 k1 k2 k3 k4;refine bG (S:=TS S1 gf gr L gk) 145 19 (inL [0,1,2,3,4,5,6,7,8,9,10,11,12,13,14,15,17,18]) (fun wx=>eP wx S1 (wc) gf nf X gr nr cr (S_ P3 n3 r3) (S_ P4 n4 r4) L nl cl gk nk ck (S_ P7 n7 r7) (⟨C.files.set j ⟨y.dev,y.slot,(Z_ y.c p 0).1,y.size,y.blocks,y.ecnt,y.eerr,y.sseq,y.ssize,y.sblocks,y.which,y.seq⟩,C.frames,C.zones,C.groups,C.lists,C.clocks,C.ptes⟩:Ck)/\aW wx (w) (E_ (o_ gf) nf X (o_ gr) nr cr P3 n3 r3 P4 n4 r4 (o_ L) nl cl (o_ gk) nk ck P7 n7 r7) 30/\LA M_ wx (fun z=>w.heap.size+1<z/\z<B) (S_ (some ⟨b8,o8,none⟩) E O) lst/\q_ w wx/\B<=wx.heap.size/\wx.heap[w.heap.size+1]?=some (cG)) [SK.eq (P_ (w)),SK.eq (S_ (some ⟨gf,0,none⟩) nf X),SK.eq (I_ (j:Int)),SK.eq (P_ (w)),SK.eq (S_ (some ⟨gf,0,none⟩) nf X),SK.eq (I_ (j:Int)),SK.eq (.pointer (some ⟨gf,j*15,none⟩)),SK.eq (.pointer (some ⟨gf,j*15+2,none⟩)),SK.eq (.agg #[I_ kt,S_ KB (f_ kt y.c).kids.length kc,I_ (f_ kt y.c).val,I_ (f_ kt y.c).marks]),SK.eq (S_ (some ⟨b8,o8,none⟩) E O),SK.eq (I_ (k:Int)),SK.eq (.pointer (some ⟨b8,o8+k,none⟩)),SK.eq (I_ (p:Int)),SK.tr2 (TS S1 gf gr L gk) (Z_ y.c p 0).1 (Z_ y.c p 0).2 (fun _ h=>h),SK.tr2 (TS S1 gf gr L gk) (Z_ y.c p 0).1 (Z_ y.c p 0).2 (fun _ h=>h),SK.tr1 (TS S1 gf gr L gk) (Z_ y.c p 0).1 (fun _ h=>h),SK.eq (I_ (Z_ y.c p 0).2),SK.eq (.pointer (some ⟨gf,j*15,none⟩)),SK.eq (.pointer (some ⟨gf,j*15+2,none⟩)),SK.any] s_ s_ rfl (fun _=>trivial) ?_;refine qP fun v0=>?_;simp only[ly];refine k_ rfl rfl (fun xw s A K D=>?_) (fun v1=>?_)
        ·obtain rfl:v0=_:=A 0 s_;have r:q_ W6 xw:=s;have u0:=(r.cell (p:=⟨w,_,none⟩) bc).trans x0;go_simp;exact D _ _ s K_ rfl
        simp only[ly];refine qP fun v2=>qP fun v3=>?_;simp only[ly];refine k_ rfl rfl (fun xw s A K D=>?_) (fun v4=>?_)
        ·obtain rfl:v3=_:=A 3 s_;have r:q_ W6 xw:=s;have u0:=(r.cell (p:=⟨w,_,none⟩) bc).trans x0;go_simp;exact D _ _ s K_ rfl
        simp only[ly];refine qP fun v5=>qP fun v6=>qP fun v7=>?_;simp only[ly];refine k_ rfl rfl (fun xw s A K D=>?_) (fun v8=>?_)
        ·obtain rfl:v7=_:=A 7 s_;have r:q_ W6 xw:=s;have u0:=(r.cell (p:=⟨gf,_,none⟩) ah).trans z2;have u1:=(r.cell (p:=⟨gf,_,none⟩) ah).trans z3;have u2:=(r.cell (p:=⟨gf,_,none⟩) ah).trans z4;have u3:=(r.cell (p:=⟨gf,_,none⟩) ah).trans z5;go_simp;exact D _ _ s K_ rfl
        simp only[ly];refine qP fun v9=>qP fun v10=>qP fun v11=>?_;simp only[ly];refine k_ rfl rfl (fun xw s A K D=>?_) (fun v12=>?_)
        ·obtain rfl:v11=_:=A 11 s_;have r:q_ W6 xw:=s;have u0:=(r.cell (p:=⟨b8,_,none⟩) au).trans l0;go_simp;exact D _ _ s K_ rfl
        simp only[ly];refine k_ rfl rfl (fun xw s A K D=>?_) (fun v13=>?_)
        ·obtain rfl:v8=_:=A 8 s_;obtain rfl:v12=_:=A 12 s_;have r:q_ W6 xw:=s;go_simp
         go_at_call 134
         refine (e3 xw r).mono ?_;rintro e w1 ⟨h1,A1,p1,rfl,t1,c1,n1,M⟩;exact D _ _ (d_ r M) (r_.of_below M) ⟨h1,A1,p1,rfl,t1,c1,n1⟩
        simp only[ly];refine k_ rfl rfl (fun xw s A K D=>?_) (fun v14=>?_)
        ·obtain ⟨h1,A1,p1,e,t1,c1,n1⟩:=A 13 s_;obtain rfl:v13=_:=e;go_simp;exact D _ _ s K_ ⟨h1,A1,p1,rfl,t1,c1,n1⟩
        simp only[ly];refine k_ rfl rfl (fun xw s A K D=>?_) (fun v15=>?_)
        ·obtain ⟨h1,A1,p1,e,t1,c1,n1⟩:=A 14 s_;obtain rfl:v14=_:=e;go_simp;exact D _ _ s K_ ⟨h1,A1,p1,rfl,t1,c1,n1⟩
        simp only[ly];refine cD rfl (fun w=>r_.refl w) (fun xw A K D=>?_) (fun v16=>?_)
        ·obtain ⟨h1,A1,p1,e,t1,c1,n1⟩:=A 14 s_;obtain rfl:v14=_:=e;go_simp;exact D _ rfl
        simp only[ly];refine qP fun v17=>qP fun v18=>?_;simp only[ly];refine aL (fun xw s A K D=>?_) (fun v19=>?_)
        ·obtain rfl:v18=_:=A 18 s_;obtain ⟨h1,A1,p1,e,t1,c1,n1⟩:=A 15 s_;obtain rfl:v15=_:=e;have r:q_ W6 xw:=s;have U:=J.step r;have cq:=LW.there U.files (i:=j) (bK Q.out) (p:=2) (n:=4) O_;refine aO (ops:=#[]) rfl (pF rfl 58 (.tmp 90) (.tmp 87) rfl gf (j*15+2) #[I_ (h1:Int),S_ A1 (f_ h1 (Z_ y.c p 0).1).kids.length p1,I_ (f_ h1 (Z_ y.c p 0).1).val,I_ (f_ h1 (Z_ y.c p 0).1).marks] rfl rfl cq L_ (aD) ?_);refine D undef _ ⟨U.putFiles (J_ xw gf (j*15+2) _) (LW.tree U.files Q.out (oZ el.out) t1 c1 n1) z_,?_,?_,?_,?_,?_⟩ (r_.of_setCells _ _ _ _ (fun h=>h.2.1 rfl)) trivial
         ·exact (u_ gf _ (j*15+2) xw (w) O_).trans (i_ a3.out r)
         ·exact (aa.step r).kept (r_.of_setCells _ _ _ _ (fun h=>by have:=h.2;have:=J.o1;omega))
         ·exact aS (d_ af.out r) O_ _ _
         ·rw [cM];exact dO da r.size
         ·exact (u_ gf _ (j*15+2) xw (w+1) O_).trans (i_ ae.out r)
        simp only[ly];refine aY ?_;intro wz hD hG;clear hG;go_wp2;go_meet
        case rel=>
         obtain ⟨b6,c8,bw,bz,bu,bx⟩:=hD;exact ⟨_,_,gf,nf,X,gr,nr,cr,_,_,L,nl,cl,gk,nk,ck,_,wc,c8,b6,dj,ar,w_ Q.out,(fun bl ag av=>by simpa only [List.set_set] using V.out bl ag av),(HI.file _ _ Q.out).st.1,bw,bz,bu,bx⟩
       ·obtain ⟨t,k',l,gp,z,clk,hg,dr⟩:=HI.goneH hU;have ey:=ip_ 0 HC.out HI.ok hU hg (fun z hz=>s2 z O_);have V:=H_ (show ∀bl,jN bl->bl=bits .andNot .i64 y.blocks (wrap64 (2 ^ p))->cE_ C0 F G Z off I sz j E (k+1) {mF C i j t k' x y l gp z 0 with files:=(mF C i j t k' x y l gp z 0).files.set j {({y with c:=(Z_ y.c x.page 0).1}:Fl) with blocks:=bl}} from fun bl ag av=>by
         have et:=HI.gone hU hg (Int.le_refl 0) C.clocks HI.nk;have ay:∀q:Int,q≠((off / 16+k:Nat):Int)->D_ (Z_ y.c x.page 0).1 q=D_ y.c q:=fun q hq=>by
          rw [dM (mI hU.ok),if_neg (fun e=>hq (by rw [e,R,N.out]))]
         exact ⟨tF.keep b5.out hU.fr (R.trans (by rw [N.out])) (et.blocks (w_ Q.out) bl ag) (w_ (w_ Q.out)) (fun i' cg u hu=>bY cg hu) ay,a9.next ai Q.out (w_ (w_ Q.out)) (fun e _ h=>h.set (i:=i) (x':=eI) rfl (fun j' ch=>by have:(-1:Int)=j':=ch;omega)) (nJ.set (y':={y with c:=(Z_ y.c x.page 0).1,blocks:=bl}) Q.out (by show (List.set (List.set _ _ _) _ _)=_;rw [List.set_set]) rfl) ay (fun _=>by
          show D_ (Z_ y.c x.page 0).1 _<=0
          rw [dM (mI hU.ok),if_pos (by rw [R,N.out])];exact Int.le_refl 0) (by rw [av];exact .gone a9.out.2.2.2 N hU R hg ap)⟩)
        clear a7 hU R hg dr
        go_wp2_with (first
         | (go_at_call 156;refine CM ey ?_;rintro e w5 ⟨gf,nf,X,gr,nr,cr,c',d',L,nl,cl,gk,nk,ck,g',rfl,Y,a1⟩;obtain ⟨P3,n3,r3,rfl⟩:=Y.zones.cap;obtain ⟨P4,n4,r4,rfl⟩:=Y.groups.cap;obtain ⟨P7,n7,r7,rfl⟩:=Y.ptes.cap;have a0:=lJ HX a1;have b2:=H_ a1;have aj:=H_ Y;clear Y a1)
         | (refine aJ rfl (.tmp 4) (.tmp 69) rfl rfl rfl rfl a0 rfl ?_))
        go_meet
        case rel=>exact ⟨mF C i j t k' x y l gp z 0,_,gf,nf,X,gr,nr,cr,_,_,L,nl,cl,gk,nk,ck,_,wc,setRow_heap _ _ _ _ _ _ a0.out,aj.setRow _ _ (fun hz=>(s1 _ hz).2.1 rfl) O_,dj,ar,w_ Q.out,V.out,(HI.file _ _ Q.out).st.1,(HP.step b2.out).kept (r_.of_setRow _ _ _ (fun hz=>by have:=hz.1;omega)),j_ (d_ HW.out b2.out) (aQ _) _,by have:=b2.size;simp [World.setRow];omega,(setRow_other _ _ _ _ O_).trans (i_ HR.out b2.out)⟩
      case rest=>
       clear HP HW HX HR HC s l0 x0 x1 x2 x3 x4 x5 x6;obtain ⟨Cx,yx,gf,nf,X,gr,nr,cr,c',d',L,nl,cl,gk,nk,ck,g',Bx,hX,s,fS,fn,b9,ci,ca,hp,M,fo,hR⟩:=hcut;obtain ⟨a3,J,aa,af,ae,ej,ei,ec⟩:=h8_ hX s hp M hR ci b9 ca;have dw:Bx<=gf/\gf<gr/\gr<L/\L<gk:=⟨s.o1,s.o2,s.o3,s.o4⟩;obtain ⟨ep,fk,bs,a8,_,_,au,_,l0⟩:=IL.cell hp an.out;rw [b4.out] at a8;injection a8 with ee ee3 ee4
       clear ee3 ee4;injection ee with ee
       injection ee with ee1 ee2
       subst ee1 ee2;obtain ⟨z7,z8,z9,z6⟩:=LW.fl_at s.files b9;have fb:j<Cx.files.length:=bK b9;have fd:(j:Int)<(nf:Int):=by have:=s.ef;omega
       have du:nf<=1000:=by have:=s.ef;have:=(ci _ (ca.andNot _) rfl).1.1.ok.files.2;simp at this;omega
       obtain ⟨x0,x1,x2,x3,x4,x5,x6⟩:=aF hX;have bc:=p_ hX;have ah:=s.files.lt;clear hX s hp M hR ci b9 ca
       go_upto_region 13 with fail
       refine bG (S:=TS S1 gf gr L gk) 145 14 (fun i=>decide (i<=13)) (fun wx=>eP wx S1 Bx gf nf X gr nr cr c' d' L nl cl gk nk ck g' (⟨Cx.files.set j ⟨yx.dev,yx.slot,yx.c,yx.size,bits .andNot .i64 yx.blocks (wrap64 (2 ^ p)),yx.ecnt,yx.eerr,yx.sseq,yx.ssize,yx.sblocks,yx.which,yx.seq⟩,Cx.frames,Cx.zones,Cx.groups,Cx.lists,Cx.clocks,Cx.ptes⟩:Ck)/\aW wx (w) #[S_ (some ⟨gf,0,none⟩) nf X,S_ (some ⟨gr,0,none⟩) nr cr,c',d',S_ (some ⟨L,0,none⟩) nl cl,S_ (some ⟨gk,0,none⟩) nk ck,g'] 30/\LA M_ wx (fun z=>w.heap.size+1<z/\z<B) (S_ (some ⟨b8,o8,none⟩) E O) lst/\q_ w wx/\B<=wx.heap.size/\wx.heap[w.heap.size+1]?=some (cG)) [SK.eq (P_ (w)),SK.eq (S_ (some ⟨gf,0,none⟩) nf X),SK.eq (I_ (j:Int)),SK.eq (.pointer (some ⟨gf,j*15,none⟩)),SK.eq (.pointer (some ⟨gf,j*15+7,none⟩)),SK.eq (I_ yx.blocks),SK.eq (S_ (some ⟨b8,o8,none⟩) E O),SK.eq (I_ (k:Int)),SK.eq (.pointer (some ⟨b8,o8+k,none⟩)),SK.eq (I_ (p:Int)),SK.eq (I_ (wrap64 (2 ^ p))),SK.eq (I_ (bits .andNot .i64 yx.blocks (wrap64 (2 ^ p)))),SK.eq (.pointer (some ⟨gf,j*15,none⟩)),SK.eq (.pointer (some ⟨gf,j*15+7,none⟩)),SK.any] s_ s_ rfl (fun _=>trivial) ?_;refine qP fun v0=>?_;simp only[ly];refine k_ rfl rfl (fun xw s A K D=>?_) (fun v1=>?_)
       ·obtain rfl:v0=_:=A 0 s_;have r:q_ wc xw:=s;have u0:=(r.cell (p:=⟨w,_,none⟩) bc).trans x0;go_simp;exact D _ _ s K_ rfl
       simp only[ly];refine qP fun v2=>qP fun v3=>qP fun v4=>?_;simp only[ly];refine k_ rfl rfl (fun xw s A K D=>?_) (fun v5=>?_)
       ·obtain rfl:v4=_:=A 4 s_;have r:q_ wc xw:=s;have u0:=(r.cell (p:=⟨gf,_,none⟩) ah).trans z7;go_simp;exact D _ _ s K_ rfl
       simp only[ly];refine qP fun v6=>qP fun v7=>qP fun v8=>?_;simp only[ly];refine k_ rfl rfl (fun xw s A K D=>?_) (fun v9=>?_)
       ·obtain rfl:v8=_:=A 8 s_;have r:q_ wc xw:=s;have u0:=(r.cell (p:=⟨b8,_,none⟩) au).trans l0;go_simp;exact D _ _ s K_ rfl
       simp only[ly];refine k_ rfl rfl (fun xw s A K D=>?_) (fun v10=>?_)
       ·obtain rfl:v9=_:=A 9 s_;go_simp;exact D _ _ s K_ (by first | rfl | (show Value.int _ _=Value.int _ _;simp;done) | (show Value.int _ _=Value.int _ _;simp [IntKind.wrap_i64,wrap64];done) | (show Value.int _ _=Value.int _ _;simp [IntKind.wrap_i64];omega))
       simp only[ly];refine k_ rfl rfl (fun xw s A K D=>?_) (fun v11=>?_)
       ·obtain rfl:v5=_:=A 5 s_;obtain rfl:v10=_:=A 10 s_;go_simp;exact D _ _ s K_ (by first | rfl | (show Value.int _ _=Value.int _ _;simp;done) | (show Value.int _ _=Value.int _ _;simp [IntKind.wrap_i64,wrap64];done) | (show Value.int _ _=Value.int _ _;simp [IntKind.wrap_i64];omega))
       simp only[ly];refine qP fun v12=>qP fun v13=>?_;simp only[ly];refine aL (fun xw s A K D=>?_) (fun v14=>?_)
       ·obtain rfl:v13=_:=A 13 s_;obtain rfl:v11=_:=A 11 s_;have r:q_ wc xw:=s;have U:=J.step r;obtain ⟨⟨u,hu⟩,gb⟩:=U.files.slot fb (p:=7) O_;go_simp;have dt:=U.putFiles (J_ xw gf (j*15+7) [I_ (bits .andNot .i64 yx.blocks (wrap64 (2 ^ p)))]) (U.files.blocks ei.out _) z_;refine D undef _ ⟨dt,?_,?_,?_,?_,?_⟩ (r_.of_setCell _ _ _ (fun h=>h.2.1 rfl)) trivial
        ·exact (jO xw ⟨gf,j*15+7,none⟩ _ (w) (by show w≠gf;omega)).trans (i_ a3.out r)
        ·exact (aa.step r).kept (r_.of_setCell _ _ _ (fun h=>by have:gf<B:=h.2;omega))
        ·exact bA (d_ af r) ⟨gf,j*15+7,none⟩ _ (by show w<=gf;omega)
        ·have:=r.size;simp [World.setCell];omega
        ·exact (jO xw ⟨gf,j*15+7,none⟩ _ (w+1) (by show w+1≠gf;omega)).trans (i_ ae.out r)
       simp only[ly];refine aY ?_;intro wz hD hG;clear hG;obtain ⟨b6,c8,bw,bz,bu,bx⟩:=hD;have U:=H_ b6;clear b6;go_wp2;go_roundw
       case rel=>exact ⟨k+1,_,_,_,_,_,_,_,_,by go_num,O_,ej.out _ (ec.out.andNot _) rfl,c8,U.out.at_,bw,bz,bu,bx⟩
       case measure=>exact bH
     | false=>
      have ff:(bits .and .i64 wh (wrap64 (2 ^ p)) != 0)=false:=be.trans hwh;have g8:=cy hwh;have ap:=H_ (show oG off I sz (off / 16+k)=false by rw [<-N.out];exact hwh);obtain ⟨i,x,a7,hU,R,az⟩:=b5.out k (aQ _) ai (by rw [<-N.out];exact hwh);rw [<-N.out] at a7 R az;obtain ⟨rfl,rfl⟩:ok=true/\m=(i:Int)+1:=by
       rcases d3.out with ⟨_,hv⟩ | ⟨h1,i',x',h2,h3,_,_⟩
       ·omega
       ·exact ⟨h1,O_⟩
      rw [d4.out] at az;have em:=H_ az;obtain ⟨P,cv⟩:∃P:ByteArray,P=⟨(List.replicate ct 0).toArray⟩:=⟨_,rfl⟩;have bd:P.size=ct:=by rw [cv];simp [ByteArray.size]
      have fg:=fun w'=>aF_ x.pg.data x.pg.valid x.pg.dirty v P w' hU.ok.pg (by rw [bd];omega) (by rw [bd];exact az);have d9:=H_ cv;have eo:=H_ bd;obtain ⟨fu,fy,ea,q5,q6⟩:=s.frames.form;injection ea with ea1 ea2 ea3
      subst ea1 ea3;obtain ⟨bb,o,rfl,ag,y0,y1,y2,y3,y4,y5,y6,y7,y8⟩:=FrA.cells s.frames hU.fr;have f9:=bK hU.fr;have i2:(i:Int)<(C.frames.length:Int):=O_
      have gh:C.frames.length<=100:=HI.ok.frames.2;have HU:=H_ hU;have aq:=H_ R;have ez:=nH;clear a7 hU R az hwh cv bd ez s ea2
      go_upto_region 17 with (go_at_call 151;refine CM (co _) ?_;rintro e w4 ⟨rfl,rfl⟩)
      have am:=H_ (l_ wc (oF x) (wc) rfl);have a0:=H_ (m_ HX (oF x));have bp:=H_ (m_ HR (oF x));have br:=H_ (b_ HW (oF x));have aj:=H_ ((HC.weak (S':=fun z=>S1 z/\z<wc.heap.size) (fun z hz h=>⟨h,hz⟩)).step (b_ (aI (wc) wc) (oF x)));have bm:=H_ (HP.alloc (oF x));have cs:wc.heap.size<(wc.alloc (oF x)).heap.size:=z_
      generalize wc.alloc (oF x)=W5 at am a0 bp br aj bm cs;clear x0 x1 x2 x3 x4 x5 x6 y0 y1 y2 y3 y4 y5 y6 y7 y8 l0 HX HR HW HP HC;obtain ⟨f0,f1,f2,f3,f4,f5,f6,f7,f8⟩:=sE am.out;have ba:=p_ am
      go_cut [] (fun wx=>aW wx (wc) (pC x.file x.page ((G_ x.pg v P).data) ((G_ x.pg v P).valid) ((G_ x.pg v P).dirty) x.tenant x.holds x.reading x.writing) 85/\aW wx (w) (E_ A1 m1 c1 (some ⟨bb,o,none⟩) C.frames.length a4 A3 m3 c3 A4 m4 c4 A5 m5 c5 A6 m6 c6 A7 m7 c7) 30/\wx.heap[w.heap.size+1]?=some (cG)/\x_ wx (fun z=>S1 z/\z<wc.heap.size) (S_ A1 m1 c1) (S_ (some ⟨bb,o,none⟩) C.frames.length a4) (S_ A3 m3 c3) (S_ A4 m4 c4) (S_ A5 m5 c5) (S_ A6 m6 c6) (S_ A7 m7 c7) C/\LA M_ wx (fun z=>w.heap.size+1<z/\z<B) (S_ (some ⟨b8,o8,none⟩) E O) lst/\q_ w wx/\wc.heap.size<wx.heap.size)
      case first=>
       refine bG (S:=fun z=>W5.heap.size<=z) 145 11 (inL [0,1,2,3,4,5,6,7,8,10]) (fun wx=>aW wx (wc) (pC x.file x.page ((G_ x.pg v P).data) ((G_ x.pg v P).valid) ((G_ x.pg v P).dirty) x.tenant x.holds x.reading x.writing) 85/\aW wx (w) (E_ A1 m1 c1 (some ⟨bb,o,none⟩) C.frames.length a4 A3 m3 c3 A4 m4 c4 A5 m5 c5 A6 m6 c6 A7 m7 c7) 30/\wx.heap[w.heap.size+1]?=some (cG)/\x_ wx (fun z=>S1 z/\z<wc.heap.size) (S_ A1 m1 c1) (S_ (some ⟨bb,o,none⟩) C.frames.length a4) (S_ A3 m3 c3) (S_ A4 m4 c4) (S_ A5 m5 c5) (S_ A6 m6 c6) (S_ A7 m7 c7) C/\LA M_ wx (fun z=>w.heap.size+1<z/\z<B) (S_ (some ⟨b8,o8,none⟩) E O) lst/\q_ w wx/\wc.heap.size<wx.heap.size) [SK.eq (.pointer (some ⟨wc,2,none⟩)),SK.eq (.agg #[.string x.pg.data,I_ x.pg.valid,I_ x.pg.dirty]),SK.eq (I_ (v:Int)),SK.eq (I_ (ct:Int)),SK.mk0 ct (W5),SK.eq (.string P),SK.eq (.tuple #[wV (G_ x.pg v P).data (G_ x.pg v P).valid (G_ x.pg v P).dirty,I_ 0]),SK.eq (.tuple #[wV (G_ x.pg v P).data (G_ x.pg v P).valid (G_ x.pg v P).dirty,I_ 0]),SK.eq (wV (G_ x.pg v P).data (G_ x.pg v P).valid (G_ x.pg v P).dirty),SK.eq (I_ 0),SK.eq (.pointer (some ⟨wc,2,none⟩)),SK.any] s_ s_ rfl (fun _=>trivial) ?_;refine qP fun v0=>?_;simp only[ly];refine k_ rfl rfl (fun xw s A K D=>?_) (fun v1=>?_)
       ·obtain rfl:v0=_:=A 0 s_;have r:q_ W5 xw:=s;have u0:=(r.cell (p:=⟨wc,_,none⟩) ba).trans f2;have u1:=(r.cell (p:=⟨wc,_,none⟩) ba).trans f3;have u2:=(r.cell (p:=⟨wc,_,none⟩) ba).trans f4;go_simp;exact D _ _ s K_ rfl
       simp only[ly];refine qP fun v2=>qP fun v3=>?_;simp only[ly];refine k_ rfl rfl (fun xw s A K D=>?_) (fun v4=>?_)
       ·obtain rfl:v3=_:=A 3 s_;obtain ⟨i0,hi,fh,fi,fj⟩:=info_parts nH;have r:q_ W5 xw:=s;refine aO (ops:=#[]) rfl (wpList_make_full xw rfl (.tmp 133) (.tmp 133) 77 rfl (xw) 5 i0 (.int .u8 0) 1 underlying77 hi fh fi .i64 .i64 ct ct ct rfl rfl rfl rfl (by rw [fj];omega) (by unfold maxLen;omega) (aQ _) ?_);intro w4 b0 ex;have di:=(aI (xw) xw).grown ex (aQ _) (fun b M=>by cases M);exact D _ _ (d_ r di) (r_.of_below di) ⟨xw,rfl,r.size,(b0.lt _ rfl).2,w4,_,b0,rfl⟩
       simp only[ly];refine k_ rfl rfl (fun xw s A K D=>?_) (fun v5=>?_)
       ·obtain ⟨g9,e9,_,_,w9,er,cj,fc⟩:=A 4 s_;obtain rfl:v4=_:=e9;have a2:=qS cj xw fc;rw [<-d9.out] at a2;go_simp;exact D _ _ s K_ rfl
       simp only[ly];refine k_ rfl rfl (fun xw s A K D=>?_) (fun v6=>?_)
       ·obtain rfl:v1=_:=A 1 s_;obtain rfl:v2=_:=A 2 s_;obtain rfl:v5=_:=A 5 s_;have r:q_ W5 xw:=s;go_simp
        go_at_call 153
        refine (fg xw).mono ?_;rintro e w1 ⟨rfl,M⟩;exact D _ _ (d_ r M) (r_.of_below M) rfl
       simp only[ly];refine k_ rfl rfl (fun xw s A K D=>?_) (fun v7=>?_)
       ·obtain e:=A 6 s_;obtain rfl:v6=_:=e;go_simp;exact D _ _ s K_ rfl
       simp only[ly];refine k_ rfl rfl (fun xw s A K D=>?_) (fun v8=>?_)
       ·obtain e:=A 7 s_;obtain rfl:v7=_:=e;go_simp;exact D _ _ s K_ rfl
       simp only[ly];refine cD rfl (fun w=>r_.refl w) (fun xw A K D=>?_) (fun v9=>?_)
       ·obtain e:=A 7 s_;obtain rfl:v7=_:=e;go_simp;exact D _ rfl
       simp only[ly];refine qP fun v10=>?_;simp only[ly];refine aL (fun xw s A K D=>?_) (fun v11=>?_)
       ·obtain rfl:v10=_:=A 10 s_;obtain e:=A 8 s_;obtain rfl:v8=_:=e;have r:q_ W5 xw:=s;have d0:=i_ am r;have cq:=qD d0;refine aO (ops:=#[]) rfl (pF rfl 83 (.tmp 139) (.tmp 137) rfl (wc) 2 #[.string (G_ x.pg v P).data,I_ (G_ x.pg v P).valid,I_ (G_ x.pg v P).dirty] rfl rfl cq dB (eX) ?_);refine D undef _ ⟨pM d0,?_,?_,?_,?_,?_,?_⟩ (r_.of_setCells _ _ _ _ (fun h=>by have:W5.heap.size<=wc.heap.size:=h;omega)) trivial
        ·exact (u_ (wc) _ 2 xw (w) O_).trans (i_ a0.out r)
        ·exact (u_ (wc) _ 2 xw (w+1) O_).trans (i_ bp.out r)
        ·exact (aj.step r).kept (r_.of_setCells _ _ _ _ (fun h=>absurd h.2 (Nat.lt_irrefl _)))
        ·exact (bm.step r).kept (r_.of_setCells _ _ _ _ (fun h=>by have:=h.2;omega))
        ·exact aS (d_ br.out r) O_ _ _
        ·rw [cM];exact iS cs r.size
       simp only[ly];refine aY ?_;intro wz hD hG;clear hG;go_wp2;go_meet
       case rel=>exact hD
      case rest=>
       clear f0 f1 f2 f3 f4 f5 f6 f7 f8 am a0 bp br aj bm cs ba;obtain ⟨dc,c0,de,db,dd,df,gj⟩:=hcut;obtain ⟨a3,ae,J,aa,af⟩:=h5_ c0 de db dd df;obtain ⟨x0,x1,x2,x3,x4,x5,x6⟩:=aF c0;obtain ⟨f0,f1,f2,f3,f4,f5,f6,f7,f8⟩:=sE dc;have e7:fE ⟨x.file,x.page,G_ x.pg v P,x.tenant,x.holds,x.reading,x.writing⟩:=⟨HU.ok.page,HU.ok.tenant,kP HU.ok.pg (by rw [eo.out];omega),HU.ok.holds,HU.ok.reading,HU.ok.writing⟩;have V:=H_ (show cE_ C0 F G Z off I sz j E (k+1) (eY C i j y ⟨x.file,x.page,G_ x.pg v P,x.tenant,x.holds,x.reading,x.writing⟩) from by
        have eu:=HI.put HU e7 rfl rfl rfl rfl (HI.file j y Q) C.ptes HI.pok;obtain ⟨j0,y0,fe,hv⟩:=HI.used HU.fr (by rw [HU.ix];omega);obtain ⟨_,rfl,rfl⟩:=HU.eq fe;obtain ⟨hi,dm⟩:=eE (c:=y0.c) (p:=x.page) (by rw [hv];omega);exact ⟨tF.keep b5.out HU.fr (aq.trans (by rw [N.out])) eu (w_ Q.out) (fun i' cg u hu=>bY cg hu) (fun q hq=>dG hi dm _ _ q),a9.next ai Q.out (w_ Q.out) (fun e he h=>h.set (i:=i) (x':=⟨x.file,x.page,G_ x.pg v P,x.tenant,x.holds,x.reading,x.writing⟩) rfl (fun j' ch _=>by
         have fa:x.file=(j':Int):=ch
         show x.page*16<e j'
         rw [(fun a b h1 h2=>by omega:∀a b:Nat,x.file=(a:Int)->x.file=(b:Int)->a=b) j' _ fa HU.ix,aq.out,N.out];exact he)) (nJ.set Q.out rfl rfl) (fun q hq=>dG hi dm _ _ q) (fun hw=>by rw [ap.out] at hw;cases hw) (by rw [d9.out];exact .cut a9.out.2.2.2 N.out HU.out aq.out (by rw [N.out];exact ap.out) d4.out O_ em.out)⟩)
       have dy:=nE i j ⟨x.file,x.page,G_ x.pg v P,x.tenant,x.holds,x.reading,x.writing⟩ y (J.weak (fun z _ h=>h.1)) HI.ok f9 HU.fl HU.ix (fun z hz=>s2 z O_);clear c0 de db dd df dc e7
       go_wp2_with (first
        | (go_at_call 55;(with_reducible refine CM dy ?_);rintro e w7 ⟨gf,nf,X,gr,nr,cr,c',d',L,nl,cl,gk,nk,ck,g',rfl,aw,c9⟩;obtain ⟨P3,n3,r3,rfl⟩:=aw.zones.cap;obtain ⟨P4,n4,r4,rfl⟩:=aw.groups.cap;obtain ⟨P7,n7,r7,rfl⟩:=aw.ptes.cap;have U:=H_ aw;have b3:=H_ c9;have d8:=lJ a3 c9;clear aw c9)
        | (refine aJ rfl (.tmp 4) (.tmp 143) rfl rfl rfl rfl d8 rfl ?_))
       go_roundw
       case rel=>
        exact ⟨k+1,eY C i j y ⟨x.file,x.page,G_ x.pg v P,x.tenant,x.holds,x.reading,x.writing⟩,_,_,_,_,_,_,_,by go_num,O_,V.out,setRow_heap _ _ _ _ _ _ d8.out,U.out.at_.kept (r_.of_setRow _ _ _ (fun hz=>(s1 _ hz).2.1 rfl)),(aa.out.step b3.out).kept (r_.of_setRow _ _ _ (fun hz=>by have:=hz.1;omega)),j_ (d_ af.out b3.out) (aQ _) _,by have:=b3.size;simp [World.setRow];omega,(setRow_other _ _ _ _ O_).trans (i_ ae.out b3.out)⟩
       case measure=>exact bH
   ·obtain rfl:k=E:=O_
    go_wp2_with (refine aJ rfl (.tmp 8) (.tmp 144) rfl rfl rfl rfl HR rfl ?_)
    show bodyPost prog f98 _ _ _ _
    refine bodyPost_ret (mB rfl rfl (setRow_heap _ _ _ _ _ _ HR)) rfl ?_;exact ⟨C,_,_,_,_,_,_,_,⟨HI,by unfold jb_;rw [<-ad.out,<-ak.out];exact a9.out⟩,rfl,(HC.kept (r_.of_setRow _ _ _ (fun hz=>(s1 _ hz).2.2 rfl))).weak (fun z _ hz=>(s1 z hz).1),j_ HW.out O_ _⟩
end
section
variable {F G Z:Nat}
theorem SoP.one (hI:cE F G Z C) (hj:C.files[j]?=some y) (h:SoP C j y C'):cE F G Z C'/\∃y',C'.files[j]?=some y'/\y'.size=y.size/\∀off n p,kU C j y off n true p->kU C' j y' off n true p:=by
 rcases h with rfl | ⟨i,x,s,hU,_,hs0,hs3,rfl⟩
 ·exact ⟨hI,y,hj,rfl,fun _ _ _ h=>h⟩
 ·have m:fE ⟨x.file,x.page,aK x.pg s,x.tenant,x.holds,x.reading,x.writing⟩:=⟨hU.ok.page,hU.ok.tenant,mQ hU.ok.pg ⟨hs0,hs3⟩,hU.ok.holds,hU.ok.reading,hU.ok.writing⟩;obtain ⟨t,f,d,hv⟩:=hI.used hU.fr (by rw [hU.ix];omega);obtain ⟨_,rfl,rfl⟩:=hU.eq d;obtain ⟨q,hc⟩:=eE (c:=f.c) (p:=x.page) (by rw [hv];omega);refine ⟨hI.put hU m rfl rfl rfl rfl (hI.file t f hj) C.ptes hI.pok,_,w_ hj,rfl,fun off n p r=>?_⟩;obtain ⟨b,x',o,a,g,k⟩:=r;have l:D_ (aT f.c x.page ((aK x.pg s).dirty != 0) (x.writing != 0)) p=(b:Int)+1:=by rw [dG q hc];exact o
  by_cases e:b=i
  ·subst e;obtain rfl:x'=x:=aP (a.fr.symm.trans hU.fr);exact ⟨b,_,l,⟨w_ hU.fr,w_ hj,hU.ix,m⟩,g,k⟩
  ·exact ⟨b,x',l,⟨bY e a.fr,w_ hj,a.ix,a.ok⟩,g,k⟩
theorem SoP.dw (hj:C.files[j]?=some y) (h:SoP C j y C'):(∀e:Nat->Int,y.size<=e j->tH e C->tH e C')/\nJ C C':=by
 rcases h with rfl | ⟨i,x,s,hU,hp,hs0,hs3,rfl⟩
 ·exact ⟨fun _ _ h=>h,.refl _⟩
 ·refine ⟨fun e c h=>h.set (i:=i) (x':=⟨x.file,x.page,aK x.pg s,x.tenant,x.holds,x.reading,x.writing⟩) rfl (fun b a _=>?_),nJ.set hj rfl rfl⟩;have d:x.file=(b:Int):=a;obtain rfl:b=j:=by have:=hU.ix;omega
  exact Int.lt_of_lt_of_le hp c
theorem Dw.trunc {C1:Ck} {sn m:Nat} {y1:Fl} (hD:Dw C) (hy:∀y,C.files[j]?=some y->y.size=sz) (hs8:sz<=128) (hm:m=128 - sn) (hI:cE F G Z C1) (hj:C1.files[j]?=some y1)
  (hc:xF C sn (bI sn m sz) sz j (if bI sn m sz=0 then 0 else (sn+bI sn m sz+15) / 16 - sn / 16) (if bI sn m sz=0 then 0 else (sn+bI sn m sz+15) / 16 - sn / 16) C1):Dw {C1 with files:=C1.files.set j {y1 with size:=(sn:Int)}}:=by
 obtain ⟨e,h1,h2⟩:=hD;obtain ⟨c1,c2,s,_⟩:=hc;have c:e j=sz:=by
  obtain ⟨f,a,_⟩:=c2 j y1 hj;rw [<-h2 j f a];exact hy f a
 have g:tH e C1:=c1 e (fun k r=>by
  rw [c];unfold bI at r
  split at r <;> omega) h1
 refine Dw.resize (h2.of c2) hj rfl (fun i x d o hf v=>?_);have b:=g i x d o hf v
 show x.page*16<if d=j then (sn:Int) else e d
 by_cases q:d=j
 ·subst q;rw [if_pos rfl];rw [c] at b;refine Int.lt_of_not_ge fun l=>?_;obtain ⟨w,f,n,hv⟩:=hI.used o (by rw [hf];omega);obtain rfl:w=d:=by have:=n.ix;omega
  obtain rfl:f=y1:=aP (n.fl.symm.trans hj);obtain ⟨p,t⟩:∃p:Nat,x.page=p:=⟨x.page.toNat,by have:=n.ok.page;omega⟩;rw [t] at b l hv;have u:=s f hj (p - sn / 16) (by unfold bI;split <;> omega) (by unfold bI;split <;> omega) (by
   rw [show sn / 16+(p - sn / 16)=p by omega];unfold oG bD bI;refine decide_eq_true ⟨?_,?_⟩ <;> dsimp only <;> omega)
  rw [show sn / 16+(p - sn / 16)=p by omega,hv] at u;omega
 ·rw [if_neg q];exact b
def TrP (C:Ck) (j sn sz:Nat) (y:Fl) (C':Ck):Prop:=C'=C\/∃Cs ys C1 y1,SoX C j y (sn:Int) Cs/\Cs.files[j]?=some ys/\ys.size=sz/\ClI j sn (bI sn (128 - sn) sz) sz Cs (if bI sn (128 - sn) sz=0 then 0 else (sn+bI sn (128 - sn) sz+15) / 16 - sn / 16) C1/\C1.files[j]?=some y1/\C'={C1 with files:=C1.files.set j {y1 with size:=(sn:Int)}}
theorem bI_ (C:Ck) (j sn sz:Nat) (y:Fl) (a b c d e f g:Value) (S:Nat->Prop) (w:World) (h:x_ w S a b c d e f g C) (hI:cE F G Z C) (hj:C.files[j]?=some y) (hsz:y.size=sz) (h2:sn<=128) (hS:∀z,w.heap.size<=z->S z) :
  C_ 35 #[cI a b c d e f g,I_ j,I_ sn] w (a2_ (fun C'=>cE F G Z C'/\(Dw C->Dw C')/\TrP C j sn sz y C') S w):=by
 have R:sz<=128:=by obtain ⟨q,h1,h2⟩:=(hI.file j y hj).size;omega
 obtain ⟨S1,s1,s2,s3⟩:=oB hS;replace h:=h.weak s3;clear s3;have ay:=bK hj;have av:=fun w' (hb:q_ w w')=>gF j (h.step hb) ay;have b0:=fun w' (hb:q_ w w') (k:w.heap.size+1<w'.heap.size)=>aK_ sz (sn:Int) (h.step hb) hI.ok hj hsz R (hI.findOk hj) (fun z bq=>s2 z O_);obtain ⟨m,hm⟩:=aZ (128 - sn);have bp:(128:Int) - (sn:Int)=(m:Int):=O_
 have au:=fun w' (hb:q_ w w')=>bY_ sn m sz (h.step hb) hI.ok hj hsz R (hI.findOk hj) O_;have hl:=hI.ok;have HI:=H_ hI;obtain ⟨A1,bk,rfl,q1,q2⟩:=h.files.form;obtain ⟨A2,m2,c2,rfl⟩:=h.frames.cap;obtain ⟨A3,m3,c3,A4,m4,c4,A5,m5,c5,A6,m6,c6,A7,m7,c7,rfl,rfl,rfl,rfl,rfl⟩:=x_.caps5 h;obtain ⟨bf,of,kt,KB,kc,rfl,bm,k1,k2,k3,k4,ba⟩:=FlA.cells h.files hj;have bn:=bK hj;have bo:C.files.length<=100:=hl.files.2;have j2:(j:Int)<(C.files.length:Int):=O_
 have j0:(0:Int)<=(j:Int):=O_
 obtain ⟨H,HL,HJ⟩:=eT h hl hj;clear h hl hj k1 k2 k3 k4;have b5:=H_ hsz;have ag:=H_ hm;clear hI hsz ba hm;have i1:(0:Int)<=(sn:Int):=O_
 have i2:(sn:Int)<=128:=O_
 go_enter func35,ntmps35
 go_upto_region 1 with fail
 generalize hW9:(w.alloc _).alloc _=W;obtain ⟨HX,HR,HW,HZ⟩:=fV hW9;clear hW9 HZ;obtain ⟨x0,x,A,B,D,E,I⟩:=aF HX.out
 go_upto_region 4 with (first
  | (go_at_call 92;refine CM (av _ HW) ?_;rintro e w1 ⟨rfl,ap⟩;obtain ⟨aa,M,a8⟩:=bN HX HR HW ap;clear ap x0 x A B D E I;obtain ⟨x0,x,A,B,D,E,I⟩:=aF aa.out)
  | (go_at_call 95;refine CM (b0 _ a8 (p_ M)) ?_;rintro e w4 ⟨Cs,an,a',b',c',d',e',f',g',U,rfl,ac,v⟩;obtain ⟨E1,u1,v1,E2,u2,v2,E3,u3,v3,E4,u4,v4,E5,u5,v5,E6,u6,v6,E7,u7,v7,rfl,rfl,rfl,rfl,rfl,rfl,rfl⟩:=x_.caps ac)
  | fail)
 obtain ⟨X,t⟩:=aZ w4.heap.size;have ab:=H_ (m_ (i_ aa v) (.cells (E_ E1 u1 v1 E2 u2 v2 E3 u3 v3 E4 u4 v4 E5 u5 v5 E6 u6 v6 E7 u7 v7) 30));have N:=H_ (m_ (i_ M v) (.cells (E_ E1 u1 v1 E2 u2 v2 E3 u3 v3 E4 u4 v4 E5 u5 v5 E6 u6 v6 E7 u7 v7) 30));have ah:=H_ (l_ w4 (.cells (E_ E1 u1 v1 E2 u2 v2 E3 u3 v3 E4 u4 v4 E5 u5 v5 E6 u6 v6 E7 u7 v7) 30) X t.symm);have r:=H_ (b_ (d_ a8 v) (.cells (E_ E1 u1 v1 E2 u2 v2 E3 u3 v3 E4 u4 v4 E5 u5 v5 E6 u6 v6 E7 u7 v7) 30));have bl:w.heap.size+1<X:=by rw [t];exact p_ (i_ M v)
 obtain ⟨S2,O⟩:=aZ (fun z=>S1 z/\z≠X);have s3:∀z,S2 z->S1 z/\z≠X:=fun z k=>by rw [O] at k;exact k
 have s4:∀z,X<z->S2 z:=fun z k=>by rw [O];exact ⟨s2 z O_,O_⟩
 have ad:=H_ ((ac.weak (S':=S2) (fun z k h=>by rw [O];exact ⟨h,O_⟩)).step (b_ (aI (w4) w4) (.cells (E_ E1 u1 v1 E2 u2 v2 E3 u3 v3 E4 u4 v4 E5 u5 v5 E6 u6 v6 E7 u7 v7) 30)));have bc:(w4.alloc (.cells (E_ E1 u1 v1 E2 u2 v2 E3 u3 v3 E4 u4 v4 E5 u5 v5 E6 u6 v6 E7 u7 v7) 30)).heap.size=X+1:=by simp [t]
 obtain ⟨ao,ys,az,a3,b1⟩:=U.1.one HI.out HJ.out;have b2:=H_ ao;have al:=H_ (U.1.dw HJ);have b4:=H_ U.2.2;have a4:=H_ az;have a7:=H_ (a3.trans b5);have b6:=H_ b1;rw [<-t];generalize w4.alloc (.cells (E_ E1 u1 v1 E2 u2 v2 E3 u3 v3 E4 u4 v4 E5 u5 v5 E6 u6 v6 E7 u7 v7) 30)=W5 at ab N ah r ad bc;clear ac v t O x0 x A B D E I aa M a8 b0 U ao az a3 b1 av;obtain ⟨x0,x,A,B,D,E,I⟩:=aF ab.out
 by_cases he:an=0
 ·subst he
  go_upto_region 7 with (go_at_call 97;refine CM (au _ r) ?_;rintro e w6 ⟨wh,cu,be,rfl,ar,P⟩)
  obtain ⟨b8,a6,ai,a9⟩:=iC ab N ah r P;have ae:=H_ (ad.step P);have br:=P.size;clear P x0 x A B D E I
  cases be with
  | false=>
   obtain ⟨x0,x,A,B,D,E,I⟩:=aF b8.out
   go_wp2_with (refine aJ rfl (.tmp 6) (.tmp 49) rfl rfl rfl rfl a6 rfl ?_)
   show bodyPost prog f35 _ _ _ _
   refine bodyPost_ret (bQ rfl rfl rfl (setRow_heap _ _ _ _ _ _ a6)) rfl ?_;exact ⟨C,_,_,_,_,_,_,_,_,⟨HI.out,id,.inl rfl⟩,rfl,(H.step (j_ a9.out O_ _)).weak (fun z _ k=>(s1 z k).1),j_ a9.out O_ _⟩
  | true=>
   have a2:=cK_ j sn m sz ys ae.out b2.out a4.out a7.out R O_ (fun q hq hw=>b6.out _ _ _ (ar.ok rfl q hq hw)) (fun z k=>s4 z O_);clear ar;obtain ⟨x0,x,A,B,D,E,I⟩:=aF ai.out
   go_upto_region 10 with (first
    | (go_at_call 98;refine CM a2 ?_;rintro e w7 ⟨J,a',b',c',d',e',f',g',⟨s,a1⟩,rfl,aq,l⟩;have V:=H_ a1;clear a1)
    | (go_at_call 21;(refine CM (kX J _ _ _ _ _ _ _ S2 _ aq s.ok (fun z k=>s4 z (by have:=l.size;omega))) ?_);rintro e w8 ⟨gf,nf,cf,gr,nr,cr,c',d',gl,nl,cl,gk,nk,ck,g',rfl,i,Q⟩;obtain ⟨P3,n3,r3,rfl⟩:=i.zones.cap;obtain ⟨P4,n4,r4,rfl⟩:=i.groups.cap;obtain ⟨P7,n7,r7,rfl⟩:=i.ptes.cap;have a5:=H_ (i_ (i_ ai l) Q);have ak:=H_ (i_ (i_ a6 l) Q);have am:=H_ (d_ (d_ a9 l) Q))
    | (refine aJ rfl (.tmp 8) (.tmp 56) rfl rfl rfl rfl a5 rfl ?_)
    | fail)
   have bd:X<w7.heap.size:=by have:=l.size;omega
   have ef:=i.ef;subst ef;have bi:X<gf/\gf<gr/\gr<gl/\gl<gk:=⟨by have:=i.o1;omega,i.o2,i.o3,i.o4⟩;have K:=H_ (i.setRow X (E_ (o_ gf) J.files.length cf (o_ gr) nr cr P3 n3 r3 P4 n4 r4 (o_ gl) nl cl (o_ gk) nk ck P7 n7 r7) (fun k=>(s3 _ k).2 rfl) bd);generalize hW9:w8.setRow X (E_ (o_ gf) J.files.length cf (o_ gr) nr cr P3 n3 r3 P4 n4 r4 (o_ gl) nl cl (o_ gk) nk ck P7 n7 r7)=W9 at K;have aj:=srs hW9 a5;have b3:=srx hW9 ak;have b7:=srl hW9 am;clear hW9;have ax:j<J.files.length:=by have:=bK HJ;have:=s.nf;have:=HI.nf;omega
   obtain ⟨y1,aw⟩:∃y1,J.files[j]?=some y1:=⟨_,cU ax⟩;have af:=H_ s;have L:=H_ aw;have bh:J.files.length<=100:=s.ok.files.2;have bg:(j:Int)<(J.files.length:Int):=O_
   obtain ⟨⟨uu,hu⟩,bb⟩:=K.files.slot ax (p:=6) O_;clear s aw aq l i Q a5 ak am a2 x0 x A B D E I;obtain ⟨x0,x,A,B,D,E,I⟩:=aF aj.out
   go_upto_region 11 with fail
   have n:=H_ (K.putFiles (J_ W9 gf (j*15+6) [I_ (sn:Int)]) (K.files.size L.out (sn:Int)) z_);have Y:=H_ ((jO W9 ⟨gf,j*15+6,none⟩ (I_ (sn:Int)) X (by show X≠gf;omega)).trans aj.out);have o:=H_ ((jO W9 ⟨gf,j*15+6,none⟩ (I_ (sn:Int)) (w+1) (by show w+1≠gf;omega)).trans b3.out);have a0:=H_ (bA b7 ⟨gf,j*15+6,none⟩ (I_ (sn:Int)) (by show w<=gf;omega));rw [show W9.setCells gf (j*15+6) [I_ (sn:Int)]=W9.setCell ⟨gf,j*15+6,none⟩ (I_ (sn:Int)) from rfl] at n;generalize W9.setCell ⟨gf,j*15+6,none⟩ (I_ (sn:Int))=bj at n Y o a0;clear x0 x A B D E I hu bb;obtain ⟨x0,x,A,B,D,E,I⟩:=aF Y.out
   go_wp2_with (refine aJ rfl (.tmp 6) (.tmp 63) rfl rfl rfl rfl o rfl ?_)
   show bodyPost prog f35 _ _ _ _
   refine bodyPost_ret (bQ rfl rfl rfl (setRow_heap _ _ _ _ _ _ o)) rfl ?_;exact ⟨_,_,_,_,_,_,_,_,_,⟨af.size L h2,fun hD=>by
    have b9:Dw Cs:=by
     obtain ⟨e9,h9,z9⟩:=hD;exact ⟨e9,al.out.1 e9 (by rw [z9 _ _ HJ.out];exact Int.le_refl _) h9,z9.of al.out.2⟩
    exact b9.trunc (fun u hu=>by obtain rfl:u=ys:=aP (hu.symm.trans a4.out);exact a7.out) R ag.out af.out L.out V.out,.inr ⟨Cs,ys,J,y1,b4.out (by first | rfl | trivial),a4.out,a7.out,by rw [<-ag.out];exact V.out.2.2.2,L.out,rfl⟩⟩,rfl,((n.setRow (w+1) (E_ (o_ gf) J.files.length cf (o_ gr) nr cr P3 n3 r3 P4 n4 r4 (o_ gl) nl cl (o_ gk) nk ck P7 n7 r7) (fun k=>(s1 _ (s3 _ k).1).2.2 rfl) O_).weak O_ (fun z k=>(s1 z (s3 z k).1).1) hS).at_,j_ a0.out O_ _⟩
 ·have d1:(an != 0)=true:=bne_iff_ne.2 he;clear he
  go_wp2_with (refine aJ rfl (.tmp 6) (.tmp 35) rfl rfl rfl rfl N rfl ?_)
  show bodyPost prog f35 _ _ _ _
  refine bodyPost_ret (bQ rfl rfl rfl (setRow_heap _ _ _ _ _ _ N)) rfl ?_;exact ⟨C,_,_,_,_,_,_,_,_,⟨HI.out,id,.inl rfl⟩,rfl,(H.step (j_ r.out O_ _)).weak (fun z _ k=>(s1 z k).1),j_ r.out O_ _⟩
end
end Go.Proofs.YtehfhnbpnaiogaaGreatDoor
