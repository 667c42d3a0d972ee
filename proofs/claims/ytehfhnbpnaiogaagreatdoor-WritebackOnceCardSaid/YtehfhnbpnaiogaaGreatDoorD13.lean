/-
  Lemmas and contracts for the laws of this seat, part 13; several texts joined by a program.
-/
import Derived.Test.YtehfhnbpnaiogaaGreatDoorD11
import Derived.Test.YtehfhnbpnaiogaaGreatDoorD12
import Derived.Test.YtehfhnbpnaiogaaGreatDoorD00
namespace Go.Proofs.YtehfhnbpnaiogaaGreatDoor
set_option linter.unusedVariables false
set_option linter.unusedSimpArgs false
set_option maxRecDepth 100000
set_option maxHeartbeats 16000000
open Go.RowKit Go.Proofs.Tryz IntKind
variable {C C' C0:Ck} {S:Nat->Prop} {a b c d e f g:Value} {cnt j k n off sz:Nat} {w:World} {y y':Fl}
section
variable {F G Z:Nat}
def sY (F G Z off n sz j cnt k:Nat) (C:Ck):Prop:=cF F G Z C/\∃y,C.files[j]?=some y/\∀m,k<=m->m<cnt->qJ off n sz (off / 16+m)=false->lU C j y off n true ((off / 16+m:Nat):Int)
def wP (C0:Ck) (off n sz j cnt k:Nat) (C:Ck):Prop:=(∀e:Nat->Int,(∀m,m<cnt->((off / 16+m:Nat):Int)*16<e j)->rN e C0->rN e C)/\rP C0 C/\∀y,C.files[j]?=some y->∀m,m<k->m<cnt->qJ off n sz (off / 16+m)=true->J_ y.c ((off / 16+m:Nat):Int)<=0
theorem wP.zero:wP C0 off n sz j cnt 0 C0:=⟨fun _ _ h=>h,.refl _,fun _ _ m hm=>by omega⟩
theorem wP.next (h:wP C0 off n sz j cnt k C) (hk:k<cnt) (hy:C.files[j]?=some y) (hy':C'.files[j]?=some y') (hd:∀e:Nat->Int,((off / 16+k:Nat):Int)*16<e j->rN e C->rN e C') (hs:rP C C') (hg:∀q:Int,q≠((off / 16+k:Nat):Int)->J_ y'.c q=J_ y.c q) (hw:qJ off n sz (off / 16+k)=true->J_ y'.c ((off / 16+k:Nat):Int)<=0):wP C0 off n sz j cnt (k+1) C':=by
 refine ⟨fun e d h0=>hd e (d k hk) (h.1 e d h0),h.2.1.trans hs,fun u f m g a b=>?_⟩;obtain rfl:u=y':=bH (f.symm.trans hy')
 by_cases e:m=k
 ·subst e;exact hw b
 ·rw [hg _ O_];exact h.2.2 y hy m O_ a b
def hb_ (C0:Ck) (off n sz j:Nat) (C:Ck):Prop:=wP C0 off (bG off n sz) sz j (if bG off n sz=0 then 0 else (off+bG off n sz+15) / 16 - off / 16) (if bG off n sz=0 then 0 else (off+bG off n sz+15) / 16 - off / 16) C
def ce_ (C0:Ck) (F G Z off n sz j cnt k:Nat) (C:Ck):Prop:=sY F G Z off n sz j cnt k C/\wP C0 off n sz j cnt k C
theorem sY.mono {off n sz j cnt k:Nat} (h:sY F G Z off n sz j cnt k C):sY F G Z off n sz j cnt (k+1) C:=by
 obtain ⟨h1,y,h2,h3⟩:=h;exact ⟨h1,y,h2,fun m hm=>h3 m O_⟩
theorem sY.keep {i:Nat} {x:Fr} (h:∀m,k<=m->m<cnt->qJ off n sz (off / 16+m)=false->lU C j y off n true ((off / 16+m:Nat):Int)) (hi:C.frames[i]?=some x) (hxp:x.page=((off / 16+k:Nat):Int)) (hI:cF F G Z C') (hy':C'.files[j]?=some y')
  (hfr:∀i',i'≠i->∀u,C.frames[i']?=some u->C'.frames[i']?=some u) (hg:∀p:Int,p≠((off / 16+k:Nat):Int)->J_ y'.c p=J_ y.c p):sY F G Z off n sz j cnt (k+1) C':=by
 refine ⟨hI,y',hy',fun m r g q=>?_⟩;obtain ⟨i',u,l,b,d,o⟩:=h m O_ g q;have a:((off / 16+m:Nat):Int)≠((off / 16+k:Nat):Int):=O_
 have f:i'≠i:=fun e=>by
  subst e;obtain rfl:u=x:=bH (b.fr.symm.trans hi);rw [hxp] at d;exact a d.symm
 exact ⟨i',u,by rw [hg _ a];exact l,⟨hfr i' f u b.fr,hy',b.ix,b.ok⟩,d,o⟩
theorem sY.keep0 (h:∀m,k<=m->m<cnt->qJ off n sz (off / 16+m)=false->lU C j y off n true ((off / 16+m:Nat):Int)) (hI:cF F G Z C') (hy':C'.files[j]?=some y')
  (hfr:C'.frames=C.frames) (hg:∀p:Int,p≠((off / 16+k:Nat):Int)->J_ y'.c p=J_ y.c p):sY F G Z off n sz j cnt (k+1) C':=by
 refine ⟨hI,y',hy',fun m q b l=>?_⟩;obtain ⟨o,u,f,a,g,i⟩:=h m O_ b l;have d:((off / 16+m:Nat):Int)≠((off / 16+k:Nat):Int):=O_
 exact ⟨o,u,by rw [hg _ d];exact f,⟨by rw [hfr];exact a.fr,hy',a.ix,a.ok⟩,g,i⟩
theorem cF.unset (h:cF F G Z C) (hj:C.files[j]?=some y) {p:Nat} (hp:p<8) (hv:J_ y.c p<=0) (bl:Int) (hbl:kW bl):cF F G Z {C with files:=C.files.set j {y with c:=(bD y.c p 0).1,blocks:=bl}}:=by
 have d:kF (p:Int)=true:=by unfold kF;simp;omega
 have b:=h.file j y hj;refine h.rel (jY.refl h) (jX.set h hj (fun q f=>?_) ⟨b.size,b.slot,b.err,hbl,b.st.2⟩) rfl rfl h.nl h.nk h.lok h.pok
 show J_ (bD y.c p 0).1 q=_
 have a:0<J_ (bD y.c p 0).1 q\/0<J_ y.c q:=f;rw [dQ d] at a ⊢
 by_cases e:q=(p:Int)
 ·rw [if_pos e] at a ⊢
  rcases a with a | a
  ·omega
  ·rw [e] at a;omega
 ·rw [if_neg e]
theorem cF.blocks (h:cF F G Z C) (hj:C.files[j]?=some y) (bl:Int) (hbl:kW bl):cF F G Z {C with files:=C.files.set j {y with blocks:=bl}}:=by
 have hy:=h.file j y hj;exact h.rel (jY.refl h) (jX.set h hj (fun q hq=>rfl) ⟨hy.size,hy.slot,hy.err,hbl,hy.st.2⟩) rfl rfl h.nl h.nk h.lok h.pok
def SK.mk0 (n N:Nat):SK (fun z=>N<=z):=⟨fun v w=>∃g,v = S_ (some ⟨g,0,none⟩) n n/\N<=g/\g<w.heap.size/\∃w0 base,World.ownsRow w0 base 5 1 (S_ (some ⟨g,0,none⟩) n n) n (madeCells (Value.int .u8 0).cells (n*1)).toList/\w.heap[g]?=w0.heap[g]?,fun v w w' hk ⟨g,e,h1,h2,w0,base,h3,h4⟩=>⟨g,e,h1,gX h2 hk.1,w0,base,h3,(hk.2 g h1 h2).trans h4⟩⟩
theorem cm_ (off n sz:Nat):bG off (bG off n sz) sz=bG off n sz:=by unfold bG;omega
theorem vP (j off n sz:Nat) (y0:Fl) (h:x_ w S a b c d e f g C0) (hI:cF F G Z C0) (hj:C0.files[j]?=some y0) (hsz:y0.size=sz) (hs8:sz<=128) (h2:off+n<=128)
  (hcut:∀m,m<(if bG off n sz=0 then 0 else (off+bG off n sz+15) / 16 - off / 16)->qJ off (bG off n sz) sz (off / 16+m)=false->lU C0 j y0 off (bG off n sz) true ((off / 16+m:Nat):Int)) (hS:∀z,w.heap.size<=z->S z) :
  C_ 98 #[bK a b c d e f g,I_ j,I_ off,I_ n] w (dm_ (fun C'=>cF F G Z C'/\hb_ C0 off n sz j C') S w):=by
 obtain ⟨S1,s1,s2,s3⟩:=iA hS;replace h:=h.weak s3;clear s3;obtain ⟨C,bt⟩:=bL C0;obtain ⟨y,e4⟩:=bL y0;rw [<-bt] at h hI hj hcut;rw [<-e4] at hj hsz hcut;have e7:=H_ bt;clear bt e4 y0;obtain ⟨I,b5⟩:=bL (bG off n sz);rw [<-b5] at hcut;obtain ⟨E,ab⟩:=bL ((if I=0 then 0 else (off+I+15) / 16 - off / 16));rw [<-ab] at hcut;have fo:I<=n/\(I=0\/off+I<=sz):=by unfold bG at b5;omega
 have g7:E<=9:=by rw [ab];split <;> omega
 have dt:∀w',w.heap.size+1<w'.heap.size->C_ 88 #[I_ (off:Int),I_ (I:Int)] w' (pC (if I=0 then [] else aJ off I) (fun z=>w.heap.size+1<z) w'):=fun w' Y=>by
  by_cases e:I=0
  ·rw [if_pos e,e];exact ae_ off _ w'
  ·rw [if_neg e];exact sS off I _ w' O_ O_ (fun z gd=>by omega)
 have bh:=fun (p:Nat) (hp:p<8) w'=>xR (p:Int) (off:Int) (I:Int) w' ⟨O_,O_⟩ ⟨O_,O_⟩ ⟨O_,O_⟩;have be:=fun w' (M:s_ w w')=>wZ off I sz (h.step M) hI.ok hj hsz hs8 (hI.findOk hj) O_;have hl:=hI.ok;have cw:=H_ (show ce_ C0 F G Z off I sz j E 0 C from ⟨⟨hI,y,hj,fun m _ hm hw=>hcut m hm hw⟩,by rw [e7.out];exact wP.zero⟩);obtain ⟨A1,fu,rfl,q1,q2⟩:=h.files.form;obtain ⟨A2,m2,c2,rfl⟩:=h.frames.cap;obtain ⟨A3,m3,c3,A4,m4,c4,A5,m5,c5,A6,m6,c6,A7,m7,c7,rfl,rfl,rfl,rfl,rfl⟩:=x_.caps5 h;obtain ⟨bf,of,kt,KB,kc,rfl,es,k1,k2,k3,k4,dk⟩:=FlA.cells h.files hj;have ga:=bI hj;have gb:C.files.length<=100:=hl.files.2;have j2:(j:Int)<(C.files.length:Int):=O_
 have j0:(0:Int)<=(j:Int):=O_
 obtain ⟨H,HL,P⟩:=eI h hl hj;clear h hl hj k1 k2 k3 k4;obtain ⟨fs,ad,ak⟩:=eI hsz b5 ab;have e5:w.cell? ⟨bf,of+j*15+6,none⟩=some (I_ (sz:Int)):=by rw [<-hsz];exact dk 6 _ rfl
 have ek:=H_ e5;clear dk hsz b5 e5 ab hcut hI;go_enter func98,ntmps98
 go_upto_region 1 with fail
 generalize hW9:(w.alloc _).alloc _=W;obtain ⟨HX,HR,HW,HZ⟩:=dJ hW9;clear hW9 HZ;obtain ⟨x0,x1,x2,x3,x4,x5,x6⟩:=T_ HX.out;have z6:W.cell? ⟨bf,of+j*15+6,none⟩=some (I_ (sz:Int)):=(g_ (HW.block _ es)).trans ek
 go_cut [3] (fun s3 wx=>s3 = I_ (I:Int)/\wx=W)
 case first=>
  by_cases e1:(n:Int)<=(sz:Int) - (off:Int)
  ·have d1:decide ((n:Int)<=(sz:Int) - (off:Int))=true:=dT e1;have d2:decide ((n:Int)<0)=false:=dF O_;have a3:I=n:=by have:=ad.out;unfold bG at this;omega
   have al:=H_ a3;clear a3;go_wp2;go_meet
   case rel=>exact ⟨by rw [al.out],rfl⟩
  ·have d1:decide ((n:Int)<=(sz:Int) - (off:Int))=false:=dF e1
   by_cases e2:off<=sz
   ·have d2:decide ((sz:Int) - (off:Int)<0)=false:=dF O_;have a3:(I:Int)=(sz:Int) - (off:Int):=by have:=ad.out;unfold bG at this;omega
    have al:=H_ a3;clear a3;go_wp2;go_meet
    case rel=>exact ⟨by rw [al.out],rfl⟩
   ·have d2:decide ((sz:Int) - (off:Int)<0)=true:=dT O_;have a3:(I:Int)=0:=by have:=ad.out;unfold bG at this;omega
    have al:=H_ a3;clear a3;go_wp2;go_meet
    case rel=>exact ⟨by rw [al.out],rfl⟩
 case rest=>
  obtain ⟨rfl,rfl⟩:=hcut;clear x0 x1 x2 x3 x4 x5 x6 z6;obtain ⟨x0,x1,x2,x3,x4,x5,x6⟩:=T_ HX.out
  go_upto_region 4 with (first
   | (go_at_call 97;refine CM (be _ HW) ?_;rintro e w2 ⟨wh,cu,gi,rfl,c8,dc⟩;obtain ⟨d3,bm,cz⟩:=bC HX HR HW dc;clear dc)
   | (go_at_call 88;refine CM (dt _ (n_ bm)) ?_;rintro e w3 ⟨pv,rfl,dv,dd⟩;obtain ⟨d4,bn,bp⟩:=bC d3 bm cz dd;have ao:=H_ (dv.old);clear dv dd)
   | fail)
  rw [ad.out,cm_,<-ad.out,<-ak.out] at c8;have e8:=H_ c8;obtain ⟨B,hB⟩:=bL w3.heap.size;rw [<-hB] at ao;have fx:w.heap.size+1<B:=by rw [hB];exact n_ bn
  obtain ⟨lst,ac⟩:=bL ((if I=0 then [] else aJ off I));rw [<-ac] at ao;have ch:lst.length=E:=by
   rw [ac,ak.out]
   split
   ·rfl
   ·rw [iW]
  obtain ⟨A8,N,bi,_,_⟩:=ao.form;rw [ch] at bi;subst bi;obtain ⟨HB,eg,b1⟩:=eI hB ac ch;clear hB ac dt ch c8 be;go_wp2
  go_loopw [13] (fun s13 wx=>∃(k:Nat) (C:Ck) (a b c d e f g:Value),s13 = I_ k/\k<=E/\ce_ C0 F G Z off I sz j E k C/\bA wx (w) #[a,b,c,d,e,f,g] 30/\x_ wx S1 a b c d e f g C/\LA Y_ wx (fun z=>w.heap.size+1<z/\z<B) (S_ A8 E N) lst/\s_ w wx/\B<=wx.heap.size/\wx.heap[w.heap.size+1]?=some (bM)) (fun s13 _=>100 - (intOf s13).toNat)
  case atStart=>exact ⟨0,C,_,_,_,_,_,_,_,rfl,O_,cw.out,d4.out,H.step bp.out,ao.out,bp.out,by rw [HB.out];exact bE _,bn⟩
  case round=>
   clear ao bp d4 bn d3 bm cz HX HR HW;have cs:=e8;clear H P HL cw;obtain ⟨k,C,a,b,c,d,e,f,g,rfl,hk,et,hX,s,hp,M,ap,hR⟩:=hrel;obtain ⟨⟨hI,y,hj,dy⟩,dj⟩:=et;have b0:=H_ dj;clear dj;obtain ⟨A1,m1,c1,rfl⟩:=s.files.cap;obtain ⟨A2,a5,rfl,q3,q4⟩:=s.frames.form;obtain ⟨A3,m3,c3,rfl⟩:=s.zones.cap;obtain ⟨A4,m4,c4,rfl⟩:=s.groups.cap;obtain ⟨A5,m5,c5,rfl⟩:=s.lists.cap;obtain ⟨A6,m6,c6,rfl⟩:=s.clocks.cap;obtain ⟨A7,m7,c7,rfl⟩:=s.ptes.cap;obtain ⟨HI,P,b2,HP,HW,HX,HR,HC⟩:=h8_ hI hj dy hp M hX hR s;have g0:=n_ hR;obtain ⟨x0,x1,x2,x3,x4,x5,x6⟩:=T_ hX;clear M hX hR hI dy
   by_cases ai:k<E
   ·have au:I≠0:=fun e=>by have:=ak.out;rw [if_pos e] at this;omega
    have c9:E=(off+I+15) / 16 - off / 16:=by have:=ak.out;rw [if_neg au] at this;exact this
    have bg:lst=aJ off I:=by have:=eg.out;rw [if_neg au] at this;exact this
    have a7:=gP off I k O_;rw [<-bg] at a7;have dw:=pW (off:=off) (n:=I) (k:=k) O_ O_;obtain ⟨p,ax⟩:=bL (off / 16+k);rw [<-ax] at a7 dw;obtain ⟨r1,r2,r3⟩:=dw;have a0:=H_ ax;have an:=H_ a7;obtain ⟨v,ct,cj,fz⟩:∃v ct:Nat,bO p off I=((v:Int),(ct:Int))/\v+ct<=16:=by
     obtain ⟨g1,g2,g3,g4⟩:=xQ r1 r2;exact ⟨(bO p off I).1.toNat,(bO p off I).2.toNat,Prod.ext (by dsimp only;omega) (by dsimp only;omega),O_⟩
    have ci:∀w',C_ 151 #[I_ (p:Int),I_ (off:Int),I_ (I:Int)] w' (kV (.tuple #[I_ (v:Int),I_ (ct:Int)]) w'):=fun w'=>by
     have:=bh p r3 w';rw [cj] at this;exact this
    have ei:=H_ cj;have e0:(bits .and .i64 wh (wrap64 (2 ^ p)) != 0)=qJ off I sz p:=by
     have:=cs.wb p r3
     cases M:qJ off I sz p with
     | true=>exact this.2 ⟨k,ai,ax.symm,M⟩
     | false=>exact Bool.eq_false_iff.2 fun h=>by obtain ⟨m,_,_,h3⟩:=this.1 h;rw [M] at h3;cases h3
    have dh:qJ off I sz p=false->(bits .and .i64 cu (wrap64 (2 ^ p)) != 0)=true:=fun M=>(cs.cb p r3).2 ⟨k,ai,ax.symm,M⟩;have bd:=H_ e0;have cv:=H_ dh;obtain ⟨b8,o8,fi,dz,_,_,fS,fn,l0⟩:=IL.cell hp a7;rw [b1.out] at dz;injection dz with e81 e82 e83
    subst e81 e83;clear a7 ax hp cj bg c9 bh au e82 e0 dh
    go_upto_region 7 with fail
    go_cut [14,15] (fun s14 s15 wx=>(∃(m:Int) (ok:Bool),s14 = I_ m/\s15 = .bool ok/\(ok=false/\J_ y.c p<=0\/ok=true/\∃(i:Nat) (x:Fr),m=(i:Int)+1/\J_ y.c p=(i:Int)+1/\fG C i x j y/\x.page=p))/\bA wx (w) (D_ A1 m1 c1 A2 C.frames.length a5 A3 m3 c3 A4 m4 c4 A5 m5 c5 A6 m6 c6 A7 m7 c7) 30/\x_ wx S1 (S_ A1 m1 c1) (S_ A2 C.frames.length a5) (S_ A3 m3 c3) (S_ A4 m4 c4) (S_ A5 m5 c5) (S_ A6 m6 c6) (S_ A7 m7 c7) C/\LA Y_ wx (fun z=>w.heap.size+1<z/\z<B) (S_ (some ⟨b8,o8,none⟩) E N) lst/\s_ w wx/\B<=wx.heap.size/\wx.heap[w.heap.size+1]?=some (bM))
    case first=>
     have xe:=R_ wr;have g5:=n_ HX
     by_cases hv:J_ y.c p<=0
     ·have HV:=H_ hv;have ca:∀z,C_ 59 #[bK (S_ A1 m1 c1) (S_ A2 C.frames.length a5) (S_ A3 m3 c3) (S_ A4 m4 c4) (S_ A5 m5 c5) (S_ A6 m6 c6) (S_ A7 m7 c7),I_ j,I_ p] (ext wr z) (fun e cq=>e = .returned (.tuple #[I_ 0,.bool false])/\Below (ext wr z).heap.size (ext wr z) cq):=fun z=>by
       have:=fV j y p (s.step (p_ wr z)) hj;unfold eL uT at this;rw [if_pos hv] at this;exact this
      clear hv hj s;refine w_ q_ q_ ?_
      repeat (go_big_quiet_step ((exact E_ (ca _))))
      refine wpQuiet_nil ?_;rintro w' ⟨z,rfl⟩;go_wp2;go_meet
      case rel=>exact ⟨⟨0,false,rfl,rfl,.inl ⟨rfl,HV⟩⟩,h_ HX (p_ wr z),HC.step (p_ wr z),HP.step (p_ wr z),e_ HW (p_ wr z),eF ap (p_ wr z).size,h_ HR (p_ wr z)⟩
     ·obtain ⟨i,x,a8,hU,X⟩:=HI.findOk hj p O_;have ca:∀z,C_ 59 #[bK (S_ A1 m1 c1) (S_ A2 C.frames.length a5) (S_ A3 m3 c3) (S_ A4 m4 c4) (S_ A5 m5 c5) (S_ A6 m6 c6) (S_ A7 m7 c7),I_ j,I_ p] (ext wr z) (fun e cq=>e = .returned (.tuple #[I_ ((i:Int)+1),.bool true])/\Below (ext wr z).heap.size (ext wr z) cq):=fun z=>by
       have:=fV j y p (s.step (p_ wr z)) hj;unfold eL uT at this;rw [if_neg hv,a8] at this;exact this
      obtain ⟨HU,eb,b3⟩:=eI hU a8 X;clear hv hU a8 X hj s;refine w_ q_ q_ ?_
      repeat (go_big_quiet_step ((exact E_ (ca _))))
      refine wpQuiet_nil ?_;rintro w' ⟨z,rfl⟩;go_wp2;go_meet
      case rel=>exact ⟨⟨_,true,rfl,rfl,.inr ⟨rfl,i,x,rfl,eb,HU,b3⟩⟩,h_ HX (p_ wr z),HC.step (p_ wr z),HP.step (p_ wr z),e_ HW (p_ wr z),eF ap (p_ wr z).size,h_ HR (p_ wr z)⟩
    case rest=>
     clear x0 x1 x2 x3 x4 x5 x6 l0 HP HW HX HR HC s hj;obtain ⟨⟨m,ok,rfl,rfl,dr⟩,hX,s,hp,M,ap,hR⟩:=hcut;obtain ⟨HP,HW,HX,HR,HC,cy⟩:=h6_ hp M hX hR s dr;obtain ⟨ft,gj,eo,bj,_,_,fm,_,l0⟩:=IL.cell hp an.out;rw [b1.out] at bj;injection bj with ee ee3 ee4
     clear ee3 ee4;injection ee with ee
     injection ee with ee1 ee2
     subst ee1 ee2;have df:w.heap.size+1<wc.heap.size:=O_
     obtain ⟨x0,x1,x2,x3,x4,x5,x6⟩:=T_ hX;clear hp M hX hR dr
     cases hwh:qJ off I sz p with
     | true=>
      have fc:(bits .and .i64 wh (wrap64 (2 ^ p)) != 0)=true:=bd.trans hwh;have d0:=H_ hwh;clear hwh
      go_upto_if 66 with fail
      go_cut [] (fun wx=>∃(Cx:Ck) (yx:Fl) (gf nf U gr nr cr:Nat) (c' d':Value) (L nl cl gk nk ck:Nat) (g':Value) (Bx:Nat),bA wx (w) #[S_ (some ⟨gf,0,none⟩) nf U,S_ (some ⟨gr,0,none⟩) nr cr,c',d',S_ (some ⟨L,0,none⟩) nl cl,S_ (some ⟨gk,0,none⟩) nk ck,g'] 30/\eS wx S1 Bx gf nf U gr nr cr c' d' L nl cl gk nk ck g' Cx/\w.heap.size+1<Bx/\B<=Bx/\Cx.files[j]?=some yx/\(∀bl,kW bl->ce_ C0 F G Z off I sz j E (k+1) {Cx with files:=Cx.files.set j {yx with blocks:=bl}})/\kW yx.blocks/\LA Y_ wx (fun z=>w.heap.size+1<z/\z<B) (S_ (some ⟨b8,o8,none⟩) E N) lst/\s_ w wx/\B<=wx.heap.size/\wx.heap[w.heap.size+1]?=some (bM))
      case first=>
       rcases cy.out with ⟨rfl,hv⟩ | ⟨rfl,i,x,rfl,a8,hU,X⟩
       ·have R:=H_ (show ∀bl,kW bl->ce_ C0 F G Z off I sz j E (k+1) {C with files:=C.files.set j {y with c:=(bD y.c p 0).1,blocks:=bl}} from fun bl ag=>by
         have av:∀q:Int,q≠((off / 16+k:Nat):Int)->J_ (bD y.c p 0).1 q=J_ y.c q:=fun q hq=>by
          rw [dQ (by unfold kF;simp;omega),if_neg (fun e=>hq (by rw [e,a0.out]))]
         exact ⟨sY.keep0 b2 (HI.unset P r3 hv bl ag) (V_ P) rfl av,b0.next ai P (V_ P) (fun e _ h=>h.same rfl) (rP.set P rfl rfl) av (fun _=>by
          show J_ (bD y.c p 0).1 _<=0
          rw [dQ (by unfold kF;simp;omega),if_pos (by rw [a0.out])];exact Int.le_refl 0)⟩)
        have dm:=kY C _ _ _ _ _ _ _ S1 wc HC.out HI.ok (fun z Y=>s2 z O_);clear hv
        go_upto_region 12 with (first
         | (go_at_call 21;refine CM dm ?_;rintro e w5 ⟨gf,nf,U,gr,nr,cr,c',d',L,nl,cl,gk,nk,ck,g',rfl,V,a2⟩;obtain ⟨P3,n3,r3,rfl⟩:=V.zones.cap;obtain ⟨P4,n4,r4,rfl⟩:=V.groups.cap;obtain ⟨P7,n7,r7,rfl⟩:=V.ptes.cap;have a1:=fC HX a2)
         | (refine Q_ rfl (.tmp 4) (.tmp 71) rfl rfl rfl rfl a1 rfl ?_)
         | fail)
        have a4:=H_ (show (w5.setRow (w) (D_ (o_ gf) nf U (o_ gr) nr cr P3 n3 r3 P4 n4 r4 (o_ L) nl cl (o_ gk) nk ck P7 n7 r7)).heap[w.heap.size]?=some (.cells (D_ (o_ gf) nf U (o_ gr) nr cr P3 n3 r3 P4 n4 r4 (o_ L) nl cl (o_ gk) nk ck P7 n7 r7) 30 (0,0)) from setRow_heap _ _ _ _ _ _ a1);have J:=H_ (V.setRow (w) (D_ (o_ gf) nf U (o_ gr) nr cr P3 n3 r3 P4 n4 r4 (o_ L) nl cl (o_ gk) nk ck P7 n7 r7) (fun Y=>(s1 _ Y).2.1 rfl) O_);have aa:=H_ ((HP.step a2).kept (r_.of_setRow w5 (w) (D_ (o_ gf) nf U (o_ gr) nr cr P3 n3 r3 P4 n4 r4 (o_ L) nl cl (o_ gk) nk ck P7 n7 r7) (fun Y=>by have:=Y.1;omega)));have af:=H_ (d_ (e_ HW a2) (bE _) (D_ (o_ gf) nf U (o_ gr) nr cr P3 n3 r3 P4 n4 r4 (o_ L) nl cl (o_ gk) nk ck P7 n7 r7));have ae:=H_ ((setRow_other w5 (w) (w+1) (D_ (o_ gf) nf U (o_ gr) nr cr P3 n3 r3 P4 n4 r4 (o_ L) nl cl (o_ gk) nk ck P7 n7 r7) O_).trans (h_ HR.out a2));have d6:B<=(w5.setRow (w) (D_ (o_ gf) nf U (o_ gr) nr cr P3 n3 r3 P4 n4 r4 (o_ L) nl cl (o_ gk) nk ck P7 n7 r7)).heap.size:=by have:=a2.size;simp [World.setRow];omega
        generalize w5.setRow (w) (D_ (o_ gf) nf U (o_ gr) nr cr P3 n3 r3 P4 n4 r4 (o_ L) nl cl (o_ gk) nk ck P7 n7 r7)=W6 at a4 J aa af ae d6;clear V a2 a1 dm l0 x0 x1 x2 x3 x4 x5 x6;obtain ⟨r9,⟨kt,KB,kc,k1,k2,k3,k4,rfl⟩,a6⟩:=J.files.at_ P.out;have z2:W6.cell? ⟨gf,j*15+2,none⟩=some (I_ kt):=a6 2 _ rfl;have z3:=a6 3 _ rfl;have z4:W6.cell? ⟨gf,j*15+4,none⟩=some (I_ (j_ kt y.c).val):=a6 4 _ rfl;have z5:W6.cell? ⟨gf,j*15+5,none⟩=some (I_ (j_ kt y.c).marks):=a6 5 _ rfl;have eh:=H_ k1;have ds:w+1<gf/\gf<gr/\gr<L/\L<gk:=⟨by have:=J.o1;omega,J.o2,J.o3,J.o4⟩;have fp:=J.lt;have dx:=fun w' (M:s_ W6 w')=>bb_ kc p 0 k1 k2 k3 (k4.step M) (fun z Y=>⟨s2 z (by have:=M.size;omega),by have:=M.size;omega,by have:=M.size;omega,by have:=M.size;omega,by have:=M.size;omega⟩);obtain ⟨em,fh,br,a9,_,_,aq,_,l0⟩:=IL.cell aa.out an.out;rw [b1.out] at a9;injection a9 with ee ee3 ee4
        clear ee3 ee4;injection ee with ee
        injection ee with ee1 ee2
        subst ee1 ee2;obtain ⟨x0,x1,x2,x3,x4,x5,x6⟩:=T_ a4.out;have b9:=n_ a4;have ah:=J.files.lt;have fa:(j:Int)<(nf:Int):=by have:=J.ef;have:=bI P;omega
        have dq:nf<=1000:=by have:=J.ef;have:=HI.ok.files.2;omega
        clear a6 k1 k2 k3 k4;refine aR (S:=TS S1 gf gr L gk) 145 19 (inL [0,1,2,3,4,5,6,7,8,9,10,11,12,13,14,15,17,18]) (fun wx=>eS wx S1 (wc) gf nf U gr nr cr (S_ P3 n3 r3) (S_ P4 n4 r4) L nl cl gk nk ck (S_ P7 n7 r7) (⟨C.files.set j ⟨y.dev,y.slot,(bD y.c p 0).1,y.size,y.blocks,y.ecnt,y.eerr,y.sseq,y.ssize,y.sblocks,y.which,y.seq⟩,C.frames,C.zones,C.groups,C.lists,C.clocks,C.ptes⟩:Ck)/\bA wx (w) (D_ (o_ gf) nf U (o_ gr) nr cr P3 n3 r3 P4 n4 r4 (o_ L) nl cl (o_ gk) nk ck P7 n7 r7) 30/\LA Y_ wx (fun z=>w.heap.size+1<z/\z<B) (S_ (some ⟨b8,o8,none⟩) E N) lst/\s_ w wx/\B<=wx.heap.size/\wx.heap[w.heap.size+1]?=some (bM)) [SK.eq (P_ (w)),SK.eq (S_ (some ⟨gf,0,none⟩) nf U),SK.eq (I_ (j:Int)),SK.eq (P_ (w)),SK.eq (S_ (some ⟨gf,0,none⟩) nf U),SK.eq (I_ (j:Int)),SK.eq (.pointer (some ⟨gf,j*15,none⟩)),SK.eq (.pointer (some ⟨gf,j*15+2,none⟩)),SK.eq (.agg #[I_ kt,S_ KB (j_ kt y.c).kids.length kc,I_ (j_ kt y.c).val,I_ (j_ kt y.c).marks]),SK.eq (S_ (some ⟨b8,o8,none⟩) E N),SK.eq (I_ (k:Int)),SK.eq (.pointer (some ⟨b8,o8+k,none⟩)),SK.eq (I_ (p:Int)),SK.tr2 (TS S1 gf gr L gk) (bD y.c p 0).1 (bD y.c p 0).2 (fun _ h=>h),SK.tr2 (TS S1 gf gr L gk) (bD y.c p 0).1 (bD y.c p 0).2 (fun _ h=>h),SK.tr1 (TS S1 gf gr L gk) (bD y.c p 0).1 (fun _ h=>h),SK.eq (I_ (bD y.c p 0).2),SK.eq (.pointer (some ⟨gf,j*15,none⟩)),SK.eq (.pointer (some ⟨gf,j*15+2,none⟩)),SK.any] q_ q_ rfl (fun _=>trivial) ?_;refine qP fun v0=>?_;simp only[ly];refine c_ rfl rfl (fun xw s A K D=>?_) (fun v1=>?_)
        ·obtain rfl:v0=_:=A 0 q_;have r:s_ W6 xw:=s;have u0:=(r.cell (p:=⟨w,_,none⟩) b9).trans x0;go_simp;exact D _ _ s K_ rfl
        simp only[ly];refine qP fun v2=>qP fun v3=>?_;simp only[ly];refine c_ rfl rfl (fun xw s A K D=>?_) (fun v4=>?_)
        ·obtain rfl:v3=_:=A 3 q_;have r:s_ W6 xw:=s;have u0:=(r.cell (p:=⟨w,_,none⟩) b9).trans x0;go_simp;exact D _ _ s K_ rfl
        simp only[ly];refine qP fun v5=>qP fun v6=>qP fun v7=>?_;simp only[ly];refine c_ rfl rfl (fun xw s A K D=>?_) (fun v8=>?_)
        ·obtain rfl:v7=_:=A 7 q_;have r:s_ W6 xw:=s;have u0:=(r.cell (p:=⟨gf,_,none⟩) ah).trans z2;have u1:=(r.cell (p:=⟨gf,_,none⟩) ah).trans z3;have u2:=(r.cell (p:=⟨gf,_,none⟩) ah).trans z4;have u3:=(r.cell (p:=⟨gf,_,none⟩) ah).trans z5;go_simp;exact D _ _ s K_ rfl
        simp only[ly];refine qP fun v9=>qP fun v10=>qP fun v11=>?_;simp only[ly];refine c_ rfl rfl (fun xw s A K D=>?_) (fun v12=>?_)
        ·obtain rfl:v11=_:=A 11 q_;have r:s_ W6 xw:=s;have u0:=(r.cell (p:=⟨b8,_,none⟩) aq).trans l0;go_simp;exact D _ _ s K_ rfl
        simp only[ly];refine c_ rfl rfl (fun xw s A K D=>?_) (fun v13=>?_)
        ·obtain rfl:v8=_:=A 8 q_;obtain rfl:v12=_:=A 12 q_;have r:s_ W6 xw:=s;go_simp
         go_at_call 134
         refine (dx xw r).mono ?_;rintro e w1 ⟨h1,A1,p1,rfl,t1,c1,n1,M⟩;exact D _ _ (e_ r M) (r_.of_below M) ⟨h1,A1,p1,rfl,t1,c1,n1⟩
        simp only[ly];refine c_ rfl rfl (fun xw s A K D=>?_) (fun v14=>?_)
        ·obtain ⟨h1,A1,p1,e,t1,c1,n1⟩:=A 13 q_;obtain rfl:v13=_:=e;go_simp;exact D _ _ s K_ ⟨h1,A1,p1,rfl,t1,c1,n1⟩
        simp only[ly];refine c_ rfl rfl (fun xw s A K D=>?_) (fun v15=>?_)
        ·obtain ⟨h1,A1,p1,e,t1,c1,n1⟩:=A 14 q_;obtain rfl:v14=_:=e;go_simp;exact D _ _ s K_ ⟨h1,A1,p1,rfl,t1,c1,n1⟩
        simp only[ly];refine Z_ rfl (fun w=>r_.refl w) (fun xw A K D=>?_) (fun v16=>?_)
        ·obtain ⟨h1,A1,p1,e,t1,c1,n1⟩:=A 14 q_;obtain rfl:v14=_:=e;go_simp;exact D _ rfl
        simp only[ly];refine qP fun v17=>qP fun v18=>?_;simp only[ly];refine z_ (fun xw s A K D=>?_) (fun v19=>?_)
        ·obtain rfl:v18=_:=A 18 q_;obtain ⟨h1,A1,p1,e,t1,c1,n1⟩:=A 15 q_;obtain rfl:v15=_:=e;have r:s_ W6 xw:=s;have Q:=J.step r;have cm:=LW.there Q.files (i:=j) (bI P.out) (p:=2) (n:=4) O_;refine aS (ops:=#[]) rfl (nK rfl 58 (.tmp 90) (.tmp 87) rfl gf (j*15+2) #[I_ (h1:Int),S_ A1 (j_ h1 (bD y.c p 0).1).kids.length p1,I_ (j_ h1 (bD y.c p 0).1).val,I_ (j_ h1 (bD y.c p 0).1).marks] rfl rfl cm U_ (aL) ?_);refine D undef _ ⟨Q.putFiles (L_ xw gf (j*15+2) _) (LW.tree Q.files P.out (oU eh.out) t1 c1 n1) A_,?_,?_,?_,?_,?_⟩ (r_.of_setCells _ _ _ _ (fun h=>h.2.1 rfl)) trivial
         ·exact (v_ gf _ (j*15+2) xw (w) O_).trans (h_ a4.out r)
         ·exact (aa.step r).kept (r_.of_setCells _ _ _ _ (fun h=>by have:=h.2;have:=J.o1;omega))
         ·exact aY (e_ af.out r) O_ _ _
         ·rw [cS];exact eF d6 r.size
         ·exact (v_ gf _ (j*15+2) xw (w+1) O_).trans (h_ ae.out r)
        simp only[ly];refine G_ ?_;intro wz hD hG;clear hG;go_wp2;go_meet
        case rel=>
         obtain ⟨b4,bz,bu,bw,bs,bv⟩:=hD;exact ⟨_,_,gf,nf,U,gr,nr,cr,_,_,L,nl,cl,gk,nk,ck,_,wc,bz,b4,df,ap,V_ P.out,(fun bl ag=>by simpa only [List.set_set] using R.out bl ag),(HI.file _ _ P.out).st.1,bu,bw,bs,bv⟩
       ·obtain ⟨t,k',l,gp,z,fv,hg,dl⟩:=HI.goneH hU;have ev:=d4_ 0 HC.out HI.ok hU hg (fun z Y=>s2 z O_);have R:=H_ (show ∀bl,kW bl->ce_ C0 F G Z off I sz j E (k+1) {gI C i j t k' x y l gp z 0 with files:=(gI C i j t k' x y l gp z 0).files.set j {({y with c:=(bD y.c x.page 0).1}:Fl) with blocks:=bl}} from fun bl ag=>by
         have ep:=HI.gone hU hg (Int.le_refl 0) C.clocks HI.nk;have av:∀q:Int,q≠((off / 16+k:Nat):Int)->J_ (bD y.c x.page 0).1 q=J_ y.c q:=fun q hq=>by
          rw [dQ (uD hU.ok),if_neg (fun e=>hq (by rw [e,X,a0.out]))]
         exact ⟨sY.keep b2.out hU.fr (X.trans (by rw [a0.out])) (ep.blocks (V_ P.out) bl ag) (V_ (V_ P.out)) (fun i' cc u hu=>dO cc hu) av,b0.next ai P.out (V_ (V_ P.out)) (fun e _ h=>h.set (i:=i) (x':=gV) rfl (fun j' cd=>by have:(-1:Int)=j':=cd;omega)) (rP.set (y':={y with c:=(bD y.c x.page 0).1,blocks:=bl}) P.out (by show (List.set (List.set _ _ _) _ _)=_;rw [List.set_set]) rfl) av (fun _=>by
          show J_ (bD y.c x.page 0).1 _<=0
          rw [dQ (uD hU.ok),if_pos (by rw [X,a0.out])];exact Int.le_refl 0)⟩)
        clear a8 hU X hg dl
        go_wp2_with (first
         | (go_at_call 156;refine CM ev ?_;rintro e w5 ⟨gf,nf,U,gr,nr,cr,c',d',L,nl,cl,gk,nk,ck,g',rfl,V,a2⟩;obtain ⟨P3,n3,r3,rfl⟩:=V.zones.cap;obtain ⟨P4,n4,r4,rfl⟩:=V.groups.cap;obtain ⟨P7,n7,r7,rfl⟩:=V.ptes.cap;have a1:=fC HX a2;have ay:=H_ a2;have aj:=H_ V;clear V a2)
         | (refine Q_ rfl (.tmp 4) (.tmp 69) rfl rfl rfl rfl a1 rfl ?_))
        go_meet
        case rel=>exact ⟨gI C i j t k' x y l gp z 0,_,gf,nf,U,gr,nr,cr,_,_,L,nl,cl,gk,nk,ck,_,wc,setRow_heap _ _ _ _ _ _ a1.out,aj.setRow _ _ (fun Y=>(s1 _ Y).2.1 rfl) O_,df,ap,V_ P.out,R.out,(HI.file _ _ P.out).st.1,(HP.step ay.out).kept (r_.of_setRow _ _ _ (fun Y=>by have:=Y.1;omega)),d_ (e_ HW.out ay.out) (bE _) _,by have:=ay.size;simp [World.setRow];omega,(setRow_other _ _ _ _ O_).trans (h_ HR.out ay.out)⟩
      case rest=>
       clear HP HW HX HR HC s l0 x0 x1 x2 x3 x4 x5 x6;obtain ⟨Cx,yx,gf,nf,U,gr,nr,cr,c',d',L,nl,cl,gk,nk,ck,g',Bx,hX,s,fy,fj,b6,ce,dg,hp,M,fk,hR⟩:=hcut;obtain ⟨a4,J,aa,af,ae,ed,ec,e6⟩:=h8_ hX s hp M hR ce b6 dg;have ds:Bx<=gf/\gf<gr/\gr<L/\L<gk:=⟨s.o1,s.o2,s.o3,s.o4⟩;obtain ⟨em,fh,br,a9,_,_,aq,_,l0⟩:=IL.cell hp an.out;rw [b1.out] at a9;injection a9 with ee ee3 ee4
       clear ee3 ee4;injection ee with ee
       injection ee with ee1 ee2
       subst ee1 ee2;obtain ⟨z7,z8,z9,z6⟩:=LW.fl_at s.files b6;have ez:j<Cx.files.length:=bI b6;have fa:(j:Int)<(nf:Int):=by have:=s.ef;omega
       have dq:nf<=1000:=by have:=s.ef;have:=(ce 0 ⟨O_,O_⟩).1.1.ok.files.2;simp at this;omega
       obtain ⟨x0,x1,x2,x3,x4,x5,x6⟩:=T_ hX;have b9:=n_ hX;have ah:=s.files.lt;clear hX s hp M hR ce b6 dg
       go_upto_region 13 with fail
       refine aR (S:=TS S1 gf gr L gk) 145 14 (fun i=>decide (i<=13)) (fun wx=>eS wx S1 Bx gf nf U gr nr cr c' d' L nl cl gk nk ck g' (⟨Cx.files.set j ⟨yx.dev,yx.slot,yx.c,yx.size,bits .andNot .i64 yx.blocks (wrap64 (2 ^ p)),yx.ecnt,yx.eerr,yx.sseq,yx.ssize,yx.sblocks,yx.which,yx.seq⟩,Cx.frames,Cx.zones,Cx.groups,Cx.lists,Cx.clocks,Cx.ptes⟩:Ck)/\bA wx (w) #[S_ (some ⟨gf,0,none⟩) nf U,S_ (some ⟨gr,0,none⟩) nr cr,c',d',S_ (some ⟨L,0,none⟩) nl cl,S_ (some ⟨gk,0,none⟩) nk ck,g'] 30/\LA Y_ wx (fun z=>w.heap.size+1<z/\z<B) (S_ (some ⟨b8,o8,none⟩) E N) lst/\s_ w wx/\B<=wx.heap.size/\wx.heap[w.heap.size+1]?=some (bM)) [SK.eq (P_ (w)),SK.eq (S_ (some ⟨gf,0,none⟩) nf U),SK.eq (I_ (j:Int)),SK.eq (.pointer (some ⟨gf,j*15,none⟩)),SK.eq (.pointer (some ⟨gf,j*15+7,none⟩)),SK.eq (I_ yx.blocks),SK.eq (S_ (some ⟨b8,o8,none⟩) E N),SK.eq (I_ (k:Int)),SK.eq (.pointer (some ⟨b8,o8+k,none⟩)),SK.eq (I_ (p:Int)),SK.eq (I_ (wrap64 (2 ^ p))),SK.eq (I_ (bits .andNot .i64 yx.blocks (wrap64 (2 ^ p)))),SK.eq (.pointer (some ⟨gf,j*15,none⟩)),SK.eq (.pointer (some ⟨gf,j*15+7,none⟩)),SK.any] q_ q_ rfl (fun _=>trivial) ?_;refine qP fun v0=>?_;simp only[ly];refine c_ rfl rfl (fun xw s A K D=>?_) (fun v1=>?_)
       ·obtain rfl:v0=_:=A 0 q_;have r:s_ wc xw:=s;have u0:=(r.cell (p:=⟨w,_,none⟩) b9).trans x0;go_simp;exact D _ _ s K_ rfl
       simp only[ly];refine qP fun v2=>qP fun v3=>qP fun v4=>?_;simp only[ly];refine c_ rfl rfl (fun xw s A K D=>?_) (fun v5=>?_)
       ·obtain rfl:v4=_:=A 4 q_;have r:s_ wc xw:=s;have u0:=(r.cell (p:=⟨gf,_,none⟩) ah).trans z7;go_simp;exact D _ _ s K_ rfl
       simp only[ly];refine qP fun v6=>qP fun v7=>qP fun v8=>?_;simp only[ly];refine c_ rfl rfl (fun xw s A K D=>?_) (fun v9=>?_)
       ·obtain rfl:v8=_:=A 8 q_;have r:s_ wc xw:=s;have u0:=(r.cell (p:=⟨b8,_,none⟩) aq).trans l0;go_simp;exact D _ _ s K_ rfl
       simp only[ly];refine c_ rfl rfl (fun xw s A K D=>?_) (fun v10=>?_)
       ·obtain rfl:v9=_:=A 9 q_;go_simp;exact D _ _ s K_ (by first | rfl | (show Value.int _ _=Value.int _ _;simp;done) | (show Value.int _ _=Value.int _ _;simp [IntKind.wrap_i64,wrap64];done) | (show Value.int _ _=Value.int _ _;simp [IntKind.wrap_i64];omega))
       simp only[ly];refine c_ rfl rfl (fun xw s A K D=>?_) (fun v11=>?_)
       ·obtain rfl:v5=_:=A 5 q_;obtain rfl:v10=_:=A 10 q_;go_simp;exact D _ _ s K_ (by first | rfl | (show Value.int _ _=Value.int _ _;simp;done) | (show Value.int _ _=Value.int _ _;simp [IntKind.wrap_i64,wrap64];done) | (show Value.int _ _=Value.int _ _;simp [IntKind.wrap_i64];omega))
       simp only[ly];refine qP fun v12=>qP fun v13=>?_;simp only[ly];refine z_ (fun xw s A K D=>?_) (fun v14=>?_)
       ·obtain rfl:v13=_:=A 13 q_;obtain rfl:v11=_:=A 11 q_;have r:s_ wc xw:=s;have Q:=J.step r;obtain ⟨⟨u,hu⟩,g8⟩:=Q.files.slot ez (p:=7) O_;go_simp;have dp:=Q.putFiles (L_ xw gf (j*15+7) [I_ (bits .andNot .i64 yx.blocks (wrap64 (2 ^ p)))]) (Q.files.blocks ec.out _) A_;refine D undef _ ⟨dp,?_,?_,?_,?_,?_⟩ (r_.of_setCell _ _ _ (fun h=>h.2.1 rfl)) trivial
        ·exact (iH xw ⟨gf,j*15+7,none⟩ _ (w) (by show w≠gf;omega)).trans (h_ a4.out r)
        ·exact (aa.step r).kept (r_.of_setCell _ _ _ (fun h=>by have:gf<B:=h.2;omega))
        ·exact aT (e_ af r) ⟨gf,j*15+7,none⟩ _ (by show w<=gf;omega)
        ·have:=r.size;simp [World.setCell];omega
        ·exact (iH xw ⟨gf,j*15+7,none⟩ _ (w+1) (by show w+1≠gf;omega)).trans (h_ ae.out r)
       simp only[ly];refine G_ ?_;intro wz hD hG;clear hG;obtain ⟨b4,bz,bu,bw,bs,bv⟩:=hD;have Q:=H_ b4;clear b4;go_wp2;go_roundw
       case rel=>exact ⟨k+1,_,_,_,_,_,_,_,_,by go_num,O_,ed.out _ (e6.out.andNot _),bz,Q.out.at_,bu,bw,bs,bv⟩
       case measure=>exact bV
     | false=>
      have fc:(bits .and .i64 wh (wrap64 (2 ^ p)) != 0)=false:=bd.trans hwh;have g6:=cv hwh;have d0:=H_ (show qJ off I sz (off / 16+k)=false by rw [<-a0.out];exact hwh);obtain ⟨i,x,a8,hU,X,ba⟩:=b2.out k (bE _) ai (by rw [<-a0.out];exact hwh);rw [<-a0.out] at a8 X ba;obtain ⟨rfl,rfl⟩:ok=true/\m=(i:Int)+1:=by
       rcases cy.out with ⟨_,hv⟩ | ⟨h1,i',x',h2,h3,_,_⟩
       ·omega
       ·exact ⟨h1,O_⟩
      rw [ei.out] at ba;obtain ⟨O,cp⟩:∃O:ByteArray,O=⟨(List.replicate ct 0).toArray⟩:=⟨_,rfl⟩;have bc:O.size=ct:=by rw [cp];simp [ByteArray.size]
      have fd:=fun w'=>aj_ x.pg.data x.pg.valid x.pg.dirty v O w' hU.ok.pg (by rw [bc];omega) (by rw [bc];exact ba);have ej:=H_ cp;have el:=H_ bc;obtain ⟨fq,fw,ea,q5,q6⟩:=s.frames.form;injection ea with ea1 ea2 ea3
      subst ea1 ea3;obtain ⟨bb,o,rfl,ag,y0,y1,y2,y3,y4,y5,y6,y7,y8⟩:=FrA.cells s.frames hU.fr;have ex:=bI hU.fr;have i2:(i:Int)<(C.frames.length:Int):=O_
      have gc:C.frames.length<=100:=HI.ok.frames.2;have HU:=H_ hU;have b3:=H_ X;have ew:=nJ;clear a8 hU X ba hwh cp bc ew s ea2
      go_upto_region 17 with (go_at_call 151;refine CM (ci _) ?_;rintro e w4 ⟨rfl,rfl⟩)
      have am:=H_ (l_ wc (oF x) (wc) rfl);have a1:=H_ (m_ HX (oF x));have bo:=H_ (m_ HR (oF x));have bq:=H_ (a_ HW (oF x));have aj:=H_ ((HC.weak (S':=fun z=>S1 z/\z<wc.heap.size) (fun z Y h=>⟨h,Y⟩)).step (a_ (aP (wc) wc) (oF x)));have bk:=H_ (HP.alloc (oF x));have co:wc.heap.size<(wc.alloc (oF x)).heap.size:=A_
      generalize wc.alloc (oF x)=W5 at am a1 bo bq aj bk co;clear x0 x1 x2 x3 x4 x5 x6 y0 y1 y2 y3 y4 y5 y6 y7 y8 l0 HX HR HW HP HC;obtain ⟨f0,f1,f2,f3,f4,f5,f6,f7,f8⟩:=iQ am.out;have b7:=n_ am
      go_cut [] (fun wx=>bA wx (wc) (nO x.file x.page ((aF x.pg v O).data) ((aF x.pg v O).valid) ((aF x.pg v O).dirty) x.tenant x.holds x.reading x.writing) 85/\bA wx (w) (D_ A1 m1 c1 (some ⟨bb,o,none⟩) C.frames.length a5 A3 m3 c3 A4 m4 c4 A5 m5 c5 A6 m6 c6 A7 m7 c7) 30/\wx.heap[w.heap.size+1]?=some (bM)/\x_ wx (fun z=>S1 z/\z<wc.heap.size) (S_ A1 m1 c1) (S_ (some ⟨bb,o,none⟩) C.frames.length a5) (S_ A3 m3 c3) (S_ A4 m4 c4) (S_ A5 m5 c5) (S_ A6 m6 c6) (S_ A7 m7 c7) C/\LA Y_ wx (fun z=>w.heap.size+1<z/\z<B) (S_ (some ⟨b8,o8,none⟩) E N) lst/\s_ w wx/\wc.heap.size<wx.heap.size)
      case first=>
       refine aR (S:=fun z=>W5.heap.size<=z) 145 11 (inL [0,1,2,3,4,5,6,7,8,10]) (fun wx=>bA wx (wc) (nO x.file x.page ((aF x.pg v O).data) ((aF x.pg v O).valid) ((aF x.pg v O).dirty) x.tenant x.holds x.reading x.writing) 85/\bA wx (w) (D_ A1 m1 c1 (some ⟨bb,o,none⟩) C.frames.length a5 A3 m3 c3 A4 m4 c4 A5 m5 c5 A6 m6 c6 A7 m7 c7) 30/\wx.heap[w.heap.size+1]?=some (bM)/\x_ wx (fun z=>S1 z/\z<wc.heap.size) (S_ A1 m1 c1) (S_ (some ⟨bb,o,none⟩) C.frames.length a5) (S_ A3 m3 c3) (S_ A4 m4 c4) (S_ A5 m5 c5) (S_ A6 m6 c6) (S_ A7 m7 c7) C/\LA Y_ wx (fun z=>w.heap.size+1<z/\z<B) (S_ (some ⟨b8,o8,none⟩) E N) lst/\s_ w wx/\wc.heap.size<wx.heap.size) [SK.eq (.pointer (some ⟨wc,2,none⟩)),SK.eq (.agg #[.string x.pg.data,I_ x.pg.valid,I_ x.pg.dirty]),SK.eq (I_ (v:Int)),SK.eq (I_ (ct:Int)),SK.mk0 ct (W5),SK.eq (.string O),SK.eq (.tuple #[vD (aF x.pg v O).data (aF x.pg v O).valid (aF x.pg v O).dirty,I_ 0]),SK.eq (.tuple #[vD (aF x.pg v O).data (aF x.pg v O).valid (aF x.pg v O).dirty,I_ 0]),SK.eq (vD (aF x.pg v O).data (aF x.pg v O).valid (aF x.pg v O).dirty),SK.eq (I_ 0),SK.eq (.pointer (some ⟨wc,2,none⟩)),SK.any] q_ q_ rfl (fun _=>trivial) ?_;refine qP fun v0=>?_;simp only[ly];refine c_ rfl rfl (fun xw s A K D=>?_) (fun v1=>?_)
       ·obtain rfl:v0=_:=A 0 q_;have r:s_ W5 xw:=s;have u0:=(r.cell (p:=⟨wc,_,none⟩) b7).trans f2;have u1:=(r.cell (p:=⟨wc,_,none⟩) b7).trans f3;have u2:=(r.cell (p:=⟨wc,_,none⟩) b7).trans f4;go_simp;exact D _ _ s K_ rfl
       simp only[ly];refine qP fun v2=>qP fun v3=>?_;simp only[ly];refine c_ rfl rfl (fun xw s A K D=>?_) (fun v4=>?_)
       ·obtain rfl:v3=_:=A 3 q_;obtain ⟨i0,hi,fe,ff,fg⟩:=info_parts nJ;have r:s_ W5 xw:=s;refine aS (ops:=#[]) rfl (wpList_make_full xw rfl (.tmp 133) (.tmp 133) 77 rfl (xw) 5 i0 (.int .u8 0) 1 underlying77 hi fe ff .i64 .i64 ct ct ct rfl rfl rfl rfl (by rw [fg];omega) (by unfold maxLen;omega) (bE _) ?_);intro w4 aw eu;have de:=(aP (xw) xw).grown eu (bE _) (fun b M=>by cases M);exact D _ _ (e_ r de) (r_.of_below de) ⟨xw,rfl,r.size,(aw.lt _ rfl).2,w4,_,aw,rfl⟩
       simp only[ly];refine c_ rfl rfl (fun xw s A K D=>?_) (fun v5=>?_)
       ·obtain ⟨g9,e9,_,_,w9,en,cg,f9⟩:=A 4 q_;obtain rfl:v4=_:=e9;have a3:=qU cg xw f9;rw [<-ej.out] at a3;go_simp;exact D _ _ s K_ rfl
       simp only[ly];refine c_ rfl rfl (fun xw s A K D=>?_) (fun v6=>?_)
       ·obtain rfl:v1=_:=A 1 q_;obtain rfl:v2=_:=A 2 q_;obtain rfl:v5=_:=A 5 q_;have r:s_ W5 xw:=s;go_simp
        go_at_call 153
        refine (fd xw).mono ?_;rintro e w1 ⟨rfl,M⟩;exact D _ _ (e_ r M) (r_.of_below M) rfl
       simp only[ly];refine c_ rfl rfl (fun xw s A K D=>?_) (fun v7=>?_)
       ·obtain e:=A 6 q_;obtain rfl:v6=_:=e;go_simp;exact D _ _ s K_ rfl
       simp only[ly];refine c_ rfl rfl (fun xw s A K D=>?_) (fun v8=>?_)
       ·obtain e:=A 7 q_;obtain rfl:v7=_:=e;go_simp;exact D _ _ s K_ rfl
       simp only[ly];refine Z_ rfl (fun w=>r_.refl w) (fun xw A K D=>?_) (fun v9=>?_)
       ·obtain e:=A 7 q_;obtain rfl:v7=_:=e;go_simp;exact D _ rfl
       simp only[ly];refine qP fun v10=>?_;simp only[ly];refine z_ (fun xw s A K D=>?_) (fun v11=>?_)
       ·obtain rfl:v10=_:=A 10 q_;obtain e:=A 8 q_;obtain rfl:v8=_:=e;have r:s_ W5 xw:=s;have cx:=h_ am r;have cm:=iY cx;refine aS (ops:=#[]) rfl (nK rfl 83 (.tmp 139) (.tmp 137) rfl (wc) 2 #[.string (aF x.pg v O).data,I_ (aF x.pg v O).valid,I_ (aF x.pg v O).dirty] rfl rfl cm cK (eE) ?_);refine D undef _ ⟨iS cx,?_,?_,?_,?_,?_,?_⟩ (r_.of_setCells _ _ _ _ (fun h=>by have:W5.heap.size<=wc.heap.size:=h;omega)) trivial
        ·exact (v_ (wc) _ 2 xw (w) O_).trans (h_ a1.out r)
        ·exact (v_ (wc) _ 2 xw (w+1) O_).trans (h_ bo.out r)
        ·exact (aj.step r).kept (r_.of_setCells _ _ _ _ (fun h=>absurd h.2 (Nat.lt_irrefl _)))
        ·exact (bk.step r).kept (r_.of_setCells _ _ _ _ (fun h=>by have:=h.2;omega))
        ·exact aY (e_ bq.out r) O_ _ _
        ·rw [cS];exact gX co r.size
       simp only[ly];refine G_ ?_;intro wz hD hG;clear hG;go_wp2;go_meet
       case rel=>exact hD
      case rest=>
       clear f0 f1 f2 f3 f4 f5 f6 f7 f8 am a1 bo bq aj bk co b7;obtain ⟨d8,bx,da,d7,d9,db,gh⟩:=hcut;obtain ⟨a4,ae,J,aa,af⟩:=h5_ bx da d7 d9 db;obtain ⟨x0,x1,x2,x3,x4,x5,x6⟩:=T_ bx;obtain ⟨f0,f1,f2,f3,f4,f5,f6,f7,f8⟩:=iQ d8;have e3:jE ⟨x.file,x.page,aF x.pg v O,x.tenant,x.holds,x.reading,x.writing⟩:=⟨HU.ok.page,HU.ok.tenant,nL HU.ok.pg (by rw [el.out];omega),HU.ok.holds,HU.ok.reading,HU.ok.writing⟩;have R:=H_ (show ce_ C0 F G Z off I sz j E (k+1) (cP C i j y ⟨x.file,x.page,aF x.pg v O,x.tenant,x.holds,x.reading,x.writing⟩) from by
        have er:=HI.put HU e3 rfl rfl rfl rfl (HI.file j y P) C.ptes HI.pok;obtain ⟨j0,y0,fb,hv⟩:=HI.used HU.fr (by rw [HU.ix];omega);obtain ⟨_,rfl,rfl⟩:=HU.eq fb;obtain ⟨hi,di⟩:=fW (c:=y0.c) (p:=x.page) (by rw [hv];omega);exact ⟨sY.keep b2.out HU.fr (b3.trans (by rw [a0.out])) er (V_ P.out) (fun i' cc u hu=>dO cc hu) (fun q hq=>dK hi di _ _ q),b0.next ai P.out (V_ P.out) (fun e he h=>h.set (i:=i) (x':=⟨x.file,x.page,aF x.pg v O,x.tenant,x.holds,x.reading,x.writing⟩) rfl (fun j' cd _=>by
         have ey:x.file=(j':Int):=cd
         show x.page*16<e j'
         rw [(fun a b h1 h2=>by omega:∀a b:Nat,x.file=(a:Int)->x.file=(b:Int)->a=b) j' _ ey HU.ix,b3.out,a0.out];exact he)) (rP.set P.out rfl rfl) (fun q hq=>dK hi di _ _ q) (fun hw=>by rw [d0.out] at hw;cases hw)⟩)
       have du:=fE i j ⟨x.file,x.page,aF x.pg v O,x.tenant,x.holds,x.reading,x.writing⟩ y (J.weak (fun z _ h=>h.1)) HI.ok ex HU.fl HU.ix (fun z Y=>s2 z O_);clear bx da d7 d9 db d8 e3
       go_wp2_with (first
        | (go_at_call 55;(with_reducible refine CM du ?_);rintro e w7 ⟨gf,nf,U,gr,nr,cr,c',d',L,nl,cl,gk,nk,ck,g',rfl,ar,c0⟩;obtain ⟨P3,n3,r3,rfl⟩:=ar.zones.cap;obtain ⟨P4,n4,r4,rfl⟩:=ar.groups.cap;obtain ⟨P7,n7,r7,rfl⟩:=ar.ptes.cap;have Q:=H_ ar;have az:=H_ c0;have d5:=fC a4 c0;clear ar c0)
        | (refine Q_ rfl (.tmp 4) (.tmp 143) rfl rfl rfl rfl d5 rfl ?_))
       go_roundw
       case rel=>
        exact ⟨k+1,cP C i j y ⟨x.file,x.page,aF x.pg v O,x.tenant,x.holds,x.reading,x.writing⟩,_,_,_,_,_,_,_,by go_num,O_,R.out,setRow_heap _ _ _ _ _ _ d5.out,Q.out.at_.kept (r_.of_setRow _ _ _ (fun Y=>(s1 _ Y).2.1 rfl)),(aa.out.step az.out).kept (r_.of_setRow _ _ _ (fun Y=>by have:=Y.1;omega)),d_ (e_ af.out az.out) (bE _) _,by have:=az.size;simp [World.setRow];omega,(setRow_other _ _ _ _ O_).trans (h_ ae.out az.out)⟩
       case measure=>exact bV
   ·obtain rfl:k=E:=O_
    go_wp2_with (refine Q_ rfl (.tmp 8) (.tmp 144) rfl rfl rfl rfl HR rfl ?_)
    show bodyPost prog f98 _ _ _ _
    refine bodyPost_ret (jT rfl rfl (setRow_heap _ _ _ _ _ _ HR)) rfl ?_;exact ⟨C,_,_,_,_,_,_,_,⟨HI,by unfold hb_;rw [<-ad.out,<-ak.out];exact b0.out⟩,rfl,(HC.kept (r_.of_setRow _ _ _ (fun Y=>(s1 _ Y).2.2 rfl))).weak (fun z _ Y=>(s1 z Y).1),d_ HW.out O_ _⟩
end
section
variable {F G Z:Nat}
def il_ (C:Ck) (j off n sz:Nat) (y:Fl) (C':Ck) (err:Int):Prop:=err=7/\C'=C\/err=0/\(∃wh cu,ClS C j y off (bG off n sz) sz (if bG off n sz=0 then 0 else (off+bG off n sz+15) / 16 - off / 16) wh cu true)/\hb_ C off n sz j C'
theorem bZ_ (j off n sz:Nat) (y:Fl) (h:x_ w S a b c d e f g C) (hI:cF F G Z C) (hj:C.files[j]?=some y) (hsz:y.size=sz) (h2:off+n<=128) (hS:∀z,w.heap.size<=z->S z) :
  C_ 38 #[bK a b c d e f g,I_ j,I_ off,I_ n] w (aB_ (fun C' err=>cF F G Z C'/\il_ C j off n sz y C' err) S w):=by
 have J:sz<=128:=by obtain ⟨q,h1,h2⟩:=(hI.file j y hj).size;omega
 obtain ⟨Y,s1,s2,s3⟩:=iA hS;replace h:=h.weak s3;clear s3;have I:=bI hj;have E:=fun w' (hb:s_ w w')=>eV j (h.step hb) I;have D:=fun w'=>kA (off:Int) (n:Int) w' O_ O_ O_ O_;have o:=fun w' (hb:s_ w w')=>wZ off n sz (h.step hb) hI.ok hj hsz J (hI.findOk hj) h2;have l:=fun w' (hb:s_ w w') (r:w.heap.size+1<w'.heap.size) hcut=>vP j off n sz y (h.step hb) hI hj hsz J h2 hcut (fun z a7=>s2 z O_);have hl:=hI.ok;have HI:=H_ hI;obtain ⟨A1,a3,rfl,q1,q2⟩:=h.files.form;obtain ⟨A2,m2,c2,rfl⟩:=h.frames.cap;obtain ⟨A3,m3,c3,A4,m4,c4,A5,m5,c5,A6,m6,c6,A7,m7,c7,rfl,rfl,rfl,rfl,rfl⟩:=x_.caps5 h;obtain ⟨bf,of,kt,KB,kc,rfl,a4,k1,k2,k3,k4,a1⟩:=FlA.cells h.files hj;have a5:=bI hj;have a6:C.files.length<=100:=hl.files.2;have j2:(j:Int)<(C.files.length:Int):=O_
 have j0:(0:Int)<=(j:Int):=O_
 obtain ⟨H,HL,HJ⟩:=eI h hl hj;clear h hl hj k1 k2 k3 k4;clear hI hsz a1;go_enter func38,ntmps38
 go_upto_region 1 with fail
 generalize hW9:(w.alloc _).alloc _=W;obtain ⟨HX,HR,HW,HZ⟩:=dJ hW9;clear hW9 HZ;obtain ⟨x0,K,L,M,N,O,P⟩:=T_ HX.out
 go_upto_region 4 with (first
  | (go_at_call 92;refine CM (E _ HW) ?_;rintro e w1 ⟨rfl,x⟩;obtain ⟨u,U,t⟩:=bC HX HR HW x;clear x x0 K L M N O P;obtain ⟨x0,K,L,M,N,O,P⟩:=T_ u.out)
  | (go_at_call 93;refine CM (D _) ?_;rintro e w2 ⟨rfl,rfl⟩)
  | (go_at_call 97;refine CM (o _ t) ?_;rintro e w3 ⟨wh,cu,a2,rfl,p,A⟩;obtain ⟨X,i,k⟩:=bC u U t A;clear A)
  | fail)
 clear E D o x0 K L M N O P;obtain ⟨x0,K,L,M,N,O,P⟩:=T_ X.out
 cases a2 with
 | false=>
  go_wp2_with (refine Q_ rfl (.tmp 8) (.tmp 35) rfl rfl rfl rfl i rfl ?_)
  show bodyPost prog f38 _ _ _ _
  refine bodyPost_ret (aG rfl rfl rfl (setRow_heap _ _ _ _ _ _ i)) rfl ?_;exact ⟨C,_,_,_,_,_,_,_,_,⟨HI.out,.inl ⟨rfl,rfl⟩⟩,rfl,(H.step (d_ k.out O_ _)).weak (fun z _ r=>(s1 z r).1),d_ k.out O_ _⟩
 | true=>
  have a0:=l _ k (n_ i) (fun m hm hw=>p.ok rfl m hm hw);have R:=H_ p;clear l p
  go_wp2_with (first
   | (go_at_call 98;refine CM a0 ?_;rintro e w4 ⟨C',a',b',c',d',e',f',g',v,rfl,eJ,B⟩;obtain ⟨E1,u1,v1,E2,u2,v2,E3,u3,v3,E4,u4,v4,E5,u5,v5,E6,u6,v6,E7,u7,v7,rfl,rfl,rfl,rfl,rfl,rfl,rfl⟩:=x_.caps eJ;obtain ⟨s,V⟩:=jN i k B;have Q:=H_ eJ;clear eJ B)
   | (refine Q_ rfl (.tmp 8) (.tmp 40) rfl rfl rfl rfl s rfl ?_))
  show bodyPost prog f38 _ _ _ _
  refine bodyPost_ret (aG rfl rfl rfl (setRow_heap _ _ _ _ _ _ s)) rfl ?_;exact ⟨C',_,_,_,_,_,_,_,_,⟨v.1,.inr ⟨rfl,⟨_,_,R.out⟩,v.2⟩⟩,rfl,(Q.kept (r_.of_setRow _ _ _ (fun r=>(s1 _ r).2.2 rfl))).weak (fun z _ r=>(s1 z r).1),d_ V.out O_ _⟩
end
section
variable {F G Z:Nat}
theorem SoP.one (hI:cF F G Z C) (hj:C.files[j]?=some y) (h:SoP C j y C'):cF F G Z C'/\∃y',C'.files[j]?=some y'/\y'.size=y.size/\∀off n p,lU C j y off n true p->lU C' j y' off n true p:=by
 rcases h with rfl | ⟨i,x,s,hU,_,hs0,hs3,rfl⟩
 ·exact ⟨hI,y,hj,rfl,fun _ _ _ h=>h⟩
 ·have m:jE ⟨x.file,x.page,aA x.pg s,x.tenant,x.holds,x.reading,x.writing⟩:=⟨hU.ok.page,hU.ok.tenant,mN hU.ok.pg ⟨hs0,hs3⟩,hU.ok.holds,hU.ok.reading,hU.ok.writing⟩;obtain ⟨t,f,d,hv⟩:=hI.used hU.fr (by rw [hU.ix];omega);obtain ⟨_,rfl,rfl⟩:=hU.eq d;obtain ⟨q,hc⟩:=fW (c:=f.c) (p:=x.page) (by rw [hv];omega);refine ⟨hI.put hU m rfl rfl rfl rfl (hI.file t f hj) C.ptes hI.pok,_,V_ hj,rfl,fun off n p r=>?_⟩;obtain ⟨b,x',o,a,g,k⟩:=r;have l:J_ (jO f.c x.page ((aA x.pg s).dirty != 0) (x.writing != 0)) p=(b:Int)+1:=by rw [dK q hc];exact o
  by_cases e:b=i
  ·subst e;obtain rfl:x'=x:=bH (a.fr.symm.trans hU.fr);exact ⟨b,_,l,⟨V_ hU.fr,V_ hj,hU.ix,m⟩,g,k⟩
  ·exact ⟨b,x',l,⟨dO e a.fr,V_ hj,a.ix,a.ok⟩,g,k⟩
theorem SoP.dw (hj:C.files[j]?=some y) (h:SoP C j y C'):(∀e:Nat->Int,y.size<=e j->rN e C->rN e C')/\rP C C':=by
 rcases h with rfl | ⟨i,x,s,hU,hp,hs0,hs3,rfl⟩
 ·exact ⟨fun _ _ h=>h,.refl _⟩
 ·refine ⟨fun e c h=>h.set (i:=i) (x':=⟨x.file,x.page,aA x.pg s,x.tenant,x.holds,x.reading,x.writing⟩) rfl (fun b a _=>?_),rP.set hj rfl rfl⟩;have d:x.file=(b:Int):=a;obtain rfl:b=j:=by have:=hU.ix;omega
  exact Int.lt_of_lt_of_le hp c
theorem Dw.trunc {C1:Ck} {sn m:Nat} {y1:Fl} (hD:Dw C) (hy:∀y,C.files[j]?=some y->y.size=sz) (hs8:sz<=128) (hm:m=128 - sn) (hI:cF F G Z C1) (hj:C1.files[j]?=some y1)
  (hc:wP C sn (bG sn m sz) sz j (if bG sn m sz=0 then 0 else (sn+bG sn m sz+15) / 16 - sn / 16) (if bG sn m sz=0 then 0 else (sn+bG sn m sz+15) / 16 - sn / 16) C1):Dw {C1 with files:=C1.files.set j {y1 with size:=(sn:Int)}}:=by
 obtain ⟨e,h1,h2⟩:=hD;obtain ⟨c1,c2,s⟩:=hc;have c:e j=sz:=by
  obtain ⟨f,a,_⟩:=c2 j y1 hj;rw [<-h2 j f a];exact hy f a
 have g:rN e C1:=c1 e (fun k r=>by
  rw [c];unfold bG at r
  split at r <;> omega) h1
 refine Dw.resize (h2.of c2) hj rfl (fun i x d o hf v=>?_);have b:=g i x d o hf v
 show x.page*16<if d=j then (sn:Int) else e d
 by_cases q:d=j
 ·subst q;rw [if_pos rfl];rw [c] at b;refine Int.lt_of_not_ge fun l=>?_;obtain ⟨w,f,n,hv⟩:=hI.used o (by rw [hf];omega);obtain rfl:w=d:=by have:=n.ix;omega
  obtain rfl:f=y1:=bH (n.fl.symm.trans hj);obtain ⟨p,t⟩:∃p:Nat,x.page=p:=⟨x.page.toNat,by have:=n.ok.page;omega⟩;rw [t] at b l hv;have u:=s f hj (p - sn / 16) (by unfold bG;split <;> omega) (by unfold bG;split <;> omega) (by
   rw [show sn / 16+(p - sn / 16)=p by omega];unfold qJ bO bG;refine decide_eq_true ⟨?_,?_⟩ <;> dsimp only <;> omega)
  rw [show sn / 16+(p - sn / 16)=p by omega,hv] at u;omega
 ·rw [if_neg q];exact b
theorem bj_ (j sn sz:Nat) (y:Fl) (h:x_ w S a b c d e f g C) (hI:cF F G Z C) (hj:C.files[j]?=some y) (hsz:y.size=sz) (h2:sn<=128) (hS:∀z,w.heap.size<=z->S z) :
  C_ 35 #[bK a b c d e f g,I_ j,I_ sn] w (eK (fun C'=>cF F G Z C'/\(Dw C->Dw C')) S w):=by
 have P:sz<=128:=by obtain ⟨q,h1,h2⟩:=(hI.file j y hj).size;omega
 obtain ⟨S1,s1,s2,s3⟩:=iA hS;replace h:=h.weak s3;clear s3;have ax:=bI hj;have au:=fun w' (hb:s_ w w')=>eV j (h.step hb) ax;have az:=fun w' (hb:s_ w w') (k:w.heap.size+1<w'.heap.size)=>ao_ sz (sn:Int) (h.step hb) hI.ok hj hsz P (hI.findOk hj) (fun z bp=>s2 z O_);obtain ⟨m,hm⟩:=bL (128 - sn);have bo:(128:Int) - (sn:Int)=(m:Int):=O_
 have ar:=fun w' (hb:s_ w w')=>wZ sn m sz (h.step hb) hI.ok hj hsz P (hI.findOk hj) O_;have hl:=hI.ok;have HI:=H_ hI;obtain ⟨A1,bj,rfl,q1,q2⟩:=h.files.form;obtain ⟨A2,m2,c2,rfl⟩:=h.frames.cap;obtain ⟨A3,m3,c3,A4,m4,c4,A5,m5,c5,A6,m6,c6,A7,m7,c7,rfl,rfl,rfl,rfl,rfl⟩:=x_.caps5 h;obtain ⟨bf,of,kt,KB,kc,rfl,bl,k1,k2,k3,k4,b9⟩:=FlA.cells h.files hj;have bm:=bI hj;have bn:C.files.length<=100:=hl.files.2;have j2:(j:Int)<(C.files.length:Int):=O_
 have j0:(0:Int)<=(j:Int):=O_
 obtain ⟨H,HL,HJ⟩:=eI h hl hj;clear h hl hj k1 k2 k3 k4;have b4:=H_ hsz;have b2:=H_ hm;clear hI hsz b9 hm;have i1:(0:Int)<=(sn:Int):=O_
 have i2:(sn:Int)<=128:=O_
 go_enter func35,ntmps35
 go_upto_region 1 with fail
 generalize hW9:(w.alloc _).alloc _=W;obtain ⟨HX,HR,HW,HZ⟩:=dJ hW9;clear hW9 HZ;obtain ⟨x0,x,A,B,D,E,I⟩:=T_ HX.out
 go_upto_region 4 with (first
  | (go_at_call 92;refine CM (au _ HW) ?_;rintro e w1 ⟨rfl,ao⟩;obtain ⟨a6,K,a4⟩:=bC HX HR HW ao;clear ao x0 x A B D E I;obtain ⟨x0,x,A,B,D,E,I⟩:=T_ a6.out)
  | (go_at_call 95;refine CM (az _ a4 (n_ K)) ?_;rintro e w4 ⟨Cs,am,a',b',c',d',e',f',g',a9,rfl,a8,v⟩;obtain ⟨E1,u1,v1,E2,u2,v2,E3,u3,v3,E4,u4,v4,E5,u5,v5,E6,u6,v6,E7,u7,v7,rfl,rfl,rfl,rfl,rfl,rfl,rfl⟩:=x_.caps a8)
  | fail)
 obtain ⟨X,t⟩:=bL w4.heap.size;have a7:=H_ (m_ (h_ a6 v) (.cells (D_ E1 u1 v1 E2 u2 v2 E3 u3 v3 E4 u4 v4 E5 u5 v5 E6 u6 v6 E7 u7 v7) 30));have L:=H_ (m_ (h_ K v) (.cells (D_ E1 u1 v1 E2 u2 v2 E3 u3 v3 E4 u4 v4 E5 u5 v5 E6 u6 v6 E7 u7 v7) 30));have af:=H_ (l_ w4 (.cells (D_ E1 u1 v1 E2 u2 v2 E3 u3 v3 E4 u4 v4 E5 u5 v5 E6 u6 v6 E7 u7 v7) 30) X t.symm);have r:=H_ (a_ (e_ a4 v) (.cells (D_ E1 u1 v1 E2 u2 v2 E3 u3 v3 E4 u4 v4 E5 u5 v5 E6 u6 v6 E7 u7 v7) 30));have bk:w.heap.size+1<X:=by rw [t];exact n_ (h_ K v)
 obtain ⟨S2,M⟩:=bL (fun z=>S1 z/\z≠X);have s3:∀z,S2 z->S1 z/\z≠X:=fun z k=>by rw [M] at k;exact k
 have s4:∀z,X<z->S2 z:=fun z k=>by rw [M];exact ⟨s2 z O_,O_⟩
 have ab:=H_ ((a8.weak (S':=S2) (fun z k h=>by rw [M];exact ⟨h,O_⟩)).step (a_ (aP (w4) w4) (.cells (D_ E1 u1 v1 E2 u2 v2 E3 u3 v3 E4 u4 v4 E5 u5 v5 E6 u6 v6 E7 u7 v7) 30)));have bb:(w4.alloc (.cells (D_ E1 u1 v1 E2 u2 v2 E3 u3 v3 E4 u4 v4 E5 u5 v5 E6 u6 v6 E7 u7 v7) 30)).heap.size=X+1:=by simp [t]
 obtain ⟨an,ys,ay,a0,b0⟩:=a9.1.one HI.out HJ.out;have b1:=H_ an;have aj:=H_ (a9.1.dw HJ);have ae:=H_ ay;have ak:=H_ (a0.trans b4);have b5:=H_ b0;rw [<-t];generalize w4.alloc (.cells (D_ E1 u1 v1 E2 u2 v2 E3 u3 v3 E4 u4 v4 E5 u5 v5 E6 u6 v6 E7 u7 v7) 30)=W5 at a7 L af r ab bb;clear a8 v t M x0 x A B D E I a6 K a4 az a9 an ay a0 b0 au;obtain ⟨x0,x,A,B,D,E,I⟩:=T_ a7.out
 by_cases he:am=0
 ·subst he
  go_upto_region 7 with (go_at_call 97;refine CM (ar _ r) ?_;rintro e w6 ⟨wh,cu,bd,rfl,aq,N⟩)
  obtain ⟨b7,a3,ag,a5⟩:=dU a7 L af r N;have ac:=H_ (ab.step N);have bq:=N.size;clear N x0 x A B D E I
  cases bd with
  | false=>
   obtain ⟨x0,x,A,B,D,E,I⟩:=T_ b7.out
   go_wp2_with (refine Q_ rfl (.tmp 6) (.tmp 49) rfl rfl rfl rfl a3 rfl ?_)
   show bodyPost prog f35 _ _ _ _
   refine bodyPost_ret (aG rfl rfl rfl (setRow_heap _ _ _ _ _ _ a3)) rfl ?_;exact ⟨C,_,_,_,_,_,_,_,_,⟨HI.out,id⟩,rfl,(H.step (d_ a5.out O_ _)).weak (fun z _ k=>(s1 z k).1),d_ a5.out O_ _⟩
  | true=>
   have Y:=vP j sn m sz ys ac.out b1.out ae.out ak.out P O_ (fun q hq hw=>b5.out _ _ _ (aq.ok rfl q hq hw)) (fun z k=>s4 z O_);clear aq;obtain ⟨x0,x,A,B,D,E,I⟩:=T_ ag.out
   go_upto_region 10 with (first
    | (go_at_call 98;refine CM Y ?_;rintro e w7 ⟨Q,a',b',c',d',e',f',g',⟨s,V⟩,rfl,ap,l⟩;have aa:=H_ V;clear V)
    | (go_at_call 21;(refine CM (kY Q _ _ _ _ _ _ _ S2 _ ap s.ok (fun z k=>s4 z (by have:=l.size;omega))) ?_);rintro e w8 ⟨gf,nf,cf,gr,nr,cr,c',d',gl,nl,cl,gk,nk,ck,g',rfl,i,O⟩;obtain ⟨P3,n3,r3,rfl⟩:=i.zones.cap;obtain ⟨P4,n4,r4,rfl⟩:=i.groups.cap;obtain ⟨P7,n7,r7,rfl⟩:=i.ptes.cap;have a2:=H_ (h_ (h_ ag l) O);have ai:=H_ (h_ (h_ a3 l) O);have al:=H_ (e_ (e_ a5 l) O))
    | (refine Q_ rfl (.tmp 8) (.tmp 56) rfl rfl rfl rfl a2 rfl ?_)
    | fail)
   have bc:X<w7.heap.size:=by have:=l.size;omega
   have ef:=i.ef;subst ef;have bh:X<gf/\gf<gr/\gr<gl/\gl<gk:=⟨by have:=i.o1;omega,i.o2,i.o3,i.o4⟩;have J:=H_ (i.setRow X (D_ (o_ gf) Q.files.length cf (o_ gr) nr cr P3 n3 r3 P4 n4 r4 (o_ gl) nl cl (o_ gk) nk ck P7 n7 r7) (fun k=>(s3 _ k).2 rfl) bc);generalize hW9:w8.setRow X (D_ (o_ gf) Q.files.length cf (o_ gr) nr cr P3 n3 r3 P4 n4 r4 (o_ gl) nl cl (o_ gk) nk ck P7 n7 r7)=W9 at J;have ah:=srs hW9 a2;have b3:=srx hW9 ai;have b6:=srl hW9 al;clear hW9;have aw:j<Q.files.length:=by have:=bI HJ;have:=s.nf;have:=HI.nf;omega
   obtain ⟨y1,av⟩:∃y1,Q.files[j]?=some y1:=⟨_,cY aw⟩;have ad:=H_ s;have a1:=H_ av;have bg:Q.files.length<=100:=s.ok.files.2;have be:(j:Int)<(Q.files.length:Int):=O_
   obtain ⟨⟨uu,hu⟩,ba⟩:=J.files.slot aw (p:=6) O_;clear s av ap l i O a2 ai al Y x0 x A B D E I;obtain ⟨x0,x,A,B,D,E,I⟩:=T_ ah.out
   go_upto_region 11 with fail
   have n:=H_ (J.putFiles (L_ W9 gf (j*15+6) [I_ (sn:Int)]) (J.files.size a1.out (sn:Int)) A_);have R:=H_ ((iH W9 ⟨gf,j*15+6,none⟩ (I_ (sn:Int)) X (by show X≠gf;omega)).trans ah.out);have o:=H_ ((iH W9 ⟨gf,j*15+6,none⟩ (I_ (sn:Int)) (w+1) (by show w+1≠gf;omega)).trans b3.out);have U:=H_ (aT b6 ⟨gf,j*15+6,none⟩ (I_ (sn:Int)) (by show w<=gf;omega));rw [show W9.setCells gf (j*15+6) [I_ (sn:Int)]=W9.setCell ⟨gf,j*15+6,none⟩ (I_ (sn:Int)) from rfl] at n;generalize W9.setCell ⟨gf,j*15+6,none⟩ (I_ (sn:Int))=bi at n R o U;clear x0 x A B D E I hu ba;obtain ⟨x0,x,A,B,D,E,I⟩:=T_ R.out
   go_wp2_with (refine Q_ rfl (.tmp 6) (.tmp 63) rfl rfl rfl rfl o rfl ?_)
   show bodyPost prog f35 _ _ _ _
   refine bodyPost_ret (aG rfl rfl rfl (setRow_heap _ _ _ _ _ _ o)) rfl ?_;exact ⟨_,_,_,_,_,_,_,_,_,⟨ad.size a1 h2,fun hD=>by
    have b8:Dw Cs:=by
     obtain ⟨e9,h9,z9⟩:=hD;exact ⟨e9,aj.out.1 e9 (by rw [z9 _ _ HJ.out];exact Int.le_refl _) h9,z9.of aj.out.2⟩
    exact b8.trunc (fun u hu=>by obtain rfl:u=ys:=bH (hu.symm.trans ae.out);exact ak.out) P b2.out ad.out a1.out aa.out⟩,rfl,((n.setRow (w+1) (D_ (o_ gf) Q.files.length cf (o_ gr) nr cr P3 n3 r3 P4 n4 r4 (o_ gl) nl cl (o_ gk) nk ck P7 n7 r7) (fun k=>(s1 _ (s3 _ k).1).2.2 rfl) O_).weak O_ (fun z k=>(s1 z (s3 z k).1).1) hS).at_,d_ U.out O_ _⟩
 ·have d1:(am != 0)=true:=bne_iff_ne.2 he;clear he
  go_wp2_with (refine Q_ rfl (.tmp 6) (.tmp 35) rfl rfl rfl rfl L rfl ?_)
  show bodyPost prog f35 _ _ _ _
  refine bodyPost_ret (aG rfl rfl rfl (setRow_heap _ _ _ _ _ _ L)) rfl ?_;exact ⟨C,_,_,_,_,_,_,_,_,⟨HI.out,id⟩,rfl,(H.step (d_ r.out O_ _)).weak (fun z _ k=>(s1 z k).1),d_ r.out O_ _⟩
end
end Go.Proofs.YtehfhnbpnaiogaaGreatDoor
