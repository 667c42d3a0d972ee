/-
  Lemmas and contracts for the laws of this seat, part 14; several texts joined by a program.
-/
import Derived.Test.YtehfhnbpnaiogaaGreatDoorD11
import Derived.Test.YtehfhnbpnaiogaaGreatDoorD00
namespace Go.Proofs.YtehfhnbpnaiogaaGreatDoor
set_option linter.unusedVariables false
set_option linter.unusedSimpArgs false
set_option maxRecDepth 100000
set_option maxHeartbeats 16000000
open Go.RowKit Go.Proofs.Tryz IntKind
variable {C:Ck} {L:List Zn} {p:Nat} {u:Bool} {w:World}
section
variable {F G Z:Nat}
theorem ap_:∀{p i:Nat},kN L u p=some i->∃z,L[i]?=some z/\dE_ z u=true
 | 0,i,h=>by simp [kN] at h
 | p+1,i,h=>by
  simp only[kN] at h
  cases hz:L[p]? with
  | none=>rw [hz] at h;cases h
  | some z=>
   rw [hz] at h
   dsimp only at h
   split at h
   ·rename_i hc
    injection h with h
    subst h;exact ⟨z,hz,hc⟩
   ·exact ap_ h
theorem aq_ (hok:cB L) (h:(cX L u p).2.2=0):∃k z,L[k]?=some z/\z.free≠[]/\cX L u p=(L.set k {z with free:=z.free.drop 1},z.free.headD 0,0):=by
 unfold cX at h ⊢
 cases ht:kN L u (p+1) with
 | none=>rw [ht] at h;simp at h
 | some k=>
  obtain ⟨z,a,hc⟩:=ap_ ht
  dsimp only
  rw [a];refine ⟨k,z,a,fun e=>?_,rfl⟩;have:=(hok.each k z a).wm;unfold dE_ at hc;rw [e] at hc;simp at hc;omega
def iI (y:Fl) (p:Nat):Pg:=if jL y p then vW else cI_
theorem ge_:iM cI_:=⟨rfl,⟨cE,cE⟩,⟨cE,cE⟩,cE⟩
theorem ea_:iM vW:=⟨rfl,⟨cE,cE⟩,⟨cE,cE⟩,cE⟩
theorem zR (y:Fl) (p:Nat):iM (iI y p):=by unfold iI;split;exact ea_;exact ge_
def rA (C:Ck) (j p t i:Nat) (y:Fl) (l:Lr) (gp:Gr) (zs:List Zn) (ac:Bool):Ck:=
 {files:=C.files.set j {y with c:=(bD y.c p ((i:Int)+1)).1},frames:=C.frames.set i ⟨j,p,iI y p,t,0,0,0⟩,zones:=zs,groups:=(cC C.groups t gp 1).1,lists:=C.lists.set t (oC l ((i:Int)+1) ac),clocks:=C.clocks,ptes:=C.ptes}
def InP (C:Ck) (j p t k:Nat) (u:Bool) (y:Fl) (l:Lr) (gp:Gr) (C':Ck) (n err:Int):Prop:=
 (err≠0/\C'=C/\(0<J_ y.c p\/(cC C.groups t gp 1).2≠0\/(cX C.zones u k).2.2≠0))\/(err=0/\J_ y.c p<=0/\∃(i:Nat) (ac:Bool),n=(i:Int)+1/\(cX C.zones u k).2.1=(i:Int)+1/\(cX C.zones u k).2.2=0/\C'=rA C j p t i y l gp (cX C.zones u k).1 ac)
theorem InP.inv {C':Ck} {j t k:Nat} {y:Fl} {l:Lr} {gp:Gr} {n err:Int} (h:InP C j p t k u y l gp C' n err) (hI:cF F G Z C) (hj:C.files[j]?=some y) (hp:p<8) (ht:t<G) (hl:C.lists[t]?=some l) (hg:C.groups[t]?=some gp) :
  cF F G Z C'/\(err=0->∃(i:Nat) (x:Fr) (y':Fl),n=(i:Int)+1/\C'.files[j]?=some y'/\fG C' i x j y'/\x.page=p/\y'.size=y.size/\J_ y'.c p=(i:Int)+1):=by
 rcases h with ⟨he,rfl,_⟩ | ⟨_,hno,i,ac,rfl,h1,h2,rfl⟩
 ·exact ⟨hI,fun h=>absurd h he⟩
 ·obtain ⟨q,z,o,f,g⟩:=aq_ hI.zok h2;rw [g] at h1;have v:=hI.few;have m:jE ⟨j,p,iI y p,t,0,0,0⟩:=⟨⟨by show (0:Int)<=p;omega,by show (p:Int)<8;omega⟩,⟨by show (0:Int)<=t;omega,by show (t:Int)<2;omega⟩,zR y p,⟨by show (0:Int)<=0;omega,by show (0:Int)<=255;omega⟩,⟨by show (0:Int)<=0;omega,by show (0:Int)<=3;omega⟩,⟨by show (0:Int)<=0;omega,by show (0:Int)<=3;omega⟩⟩;obtain ⟨d,x0,w,r,_⟩:=hI.free q z o ((i:Int)+1) (by
   cases hf:z.free with
   | nil=>exact absurd hf f
   | cons a b=>rw [hf] at h1;have h1:a=_:=h1;rw [h1];exact List.mem_cons_self ..)
  obtain rfl:d=i:=O_
  have hv:=hI.insert (x0:=gV) (t:=t) hj (p:=(p:Int)) ⟨O_,O_⟩ hno o h1 f hl hg m rfl rfl (by show (t:Int)<G;omega) ac;have s:rA C j p t d y l gp (cX C.zones u k).1 ac={files:=C.files.set j {y with c:=(bD y.c p ((d:Int)+1)).1},frames:=C.frames.set d ⟨j,p,iI y p,t,0,0,0⟩,zones:=C.zones.set q {z with free:=z.free.drop 1},groups:=(cC C.groups t gp 1).1,lists:=C.lists.set t (oC l ((d:Int)+1) ac),clocks:=C.clocks,ptes:=C.ptes}:=by unfold rA;rw [g]
  rw [s];refine ⟨hv,fun _=>⟨d,_,_,rfl,V_ hj,⟨V_ r,V_ hj,rfl,m⟩,rfl,rfl,?_⟩⟩
  show J_ (bD y.c p ((d:Int)+1)).1 p=_
  rw [dQ (by unfold kF;simp;omega),if_pos rfl]
def gR_ (P:Ck->Int->Int->Prop) (S:Nat->Prop) (w:World) (en:Ending) (w':World):Prop:=∃C' n err a b c d e f g,P C' n err/\en = .returned (.tuple #[bK a b c d e f g,I_ n,I_ err])/\x_ w' S a b c d e f g C'/\s_ w w'
theorem pJ {fn:Func} {p q r:Tmp} (h:fn.results=#[.cell p 30,.tmp q,.tmp r]) {tmps:Array Value} {g:Nat} {t:TypeId} {x0 x1 x2 x3 x4 x5 x6:Value} {fr:Nat × Nat} {u v:Value}
  (hp:tmps.getD p undef = P_ g) (hq:tmps.getD q undef=u) (hr:tmps.getD r undef=v) (hg:w.heap[g]?=some (.cells #[x0,x1,x2,x3,x4,x5,x6] t fr)):(results fn tmps).run prog w = .ok (.tuple #[bK x0 x1 x2 x3 x4 x5 x6,u,v]) w:=by
 have a:tmps[p]?.getD undef = P_ g:=by simpa using hp
 have b:tmps[q]?.getD undef=u:=by simpa using hq
 have c:tmps[r]?.getD undef=v:=by simpa using hr
 simp [results,h,a,b,c,asAddr,run_loadVar_row w g t 30 #[x0,x1,x2,x3,x4,x5,x6] fr _ hg underlying30 rfl cD]
theorem eS.setRowX {S:Nat->Prop} {B gf nf cf gr nr cr gl nl cl gk nk ck:Nat} {c d g:Value} (h:eS w S B gf nf cf gr nr cr c d gl nl cl gk nk ck g C) (X:Nat) (cs:Array Value) (hX:¬S X) (hB:gk<X):eS (w.setRow X cs) S B gf nf cf gr nr cr c d gl nl cl gk nk ck g C:=by
 have o1:=h.o1;have o2:=h.o2;have o3:=h.o3;have o4:=h.o4;exact h.kept (r_.of_setRow w X cs fun a=>hX a.1) (setRow_other w X gf cs O_) (setRow_other w X gr cs O_) (setRow_other w X gl cs O_) (setRow_other w X gk cs O_)
theorem tZ (C:Ck) (j p t k:Nat) (u:Bool) (y:Fl) (l:Lr) (gp:Gr) (clk:Int) (a b c d e f g:Value) (S:Nat->Prop) (w:World) (h:x_ w S a b c d e f g C) (hI:cF F G Z C) (hj:C.files[j]?=some y) (hp:p<8) (hl:C.lists[t]?=some l) (hg:C.groups[t]?=some gp) (hck:C.clocks[t]?=some clk) (hk:k<C.zones.length) (hS:∀z,w.heap.size<=z->S z) :
  C_ 72 #[bK a b c d e f g,I_ j,I_ p,I_ t,I_ k,.bool u] w (gR_ (InP C j p t k u y l gp) S w):=by
 obtain ⟨S1,s1,s2,s3⟩:=iA hS;replace h:=h.weak s3;clear s3;have bu:=bI hj;have f8:=fun w' (hb:s_ w w')=>eV j (h.step hb) bu;have cg:=fun w' (hb:s_ w w')=>fV j y p (h.step hb) hj;have f1:=fun w' (hb:s_ w w') (I:w.heap.size+1<w'.heap.size)=>dH_ t gp 1 (h.groups.step hb) hg hI.gok ⟨O_,O_⟩ (fun z ft=>s2 z O_);have fd:=fun w' (hb:s_ w w') (I:w.heap.size+1<w'.heap.size)=>hY_ k u (h.zones.step hb) hk hI.zok (fun z ft=>s2 z O_);have g8:=bI hg;have f9:=hI.ok;obtain ⟨HI,ao,fz,cs⟩:=rW hI hl hg hck;obtain ⟨A1,ak,rfl,q1,q2⟩:=h.files.form;obtain ⟨A2,m2,c2,rfl⟩:=h.frames.cap;obtain ⟨A3,c3,rfl,_,_⟩:=h.zones.form;obtain ⟨A4,c4,rfl,_,_⟩:=h.groups.form;obtain ⟨A5,m5,c5,rfl⟩:=h.lists.cap;obtain ⟨A6,m6,c6,rfl⟩:=h.clocks.cap;obtain ⟨A7,m7,c7,rfl⟩:=h.ptes.cap;obtain ⟨bf,of,kt,KB,kc,rfl,cd,k1,k2,k3,k4,b1⟩:=FlA.cells h.files hj;have c8:=H_ (show bF y.c/\aM kt y.c/\(j_ kt y.c).kids.length<=kc/\NK w S1 KB (j_ kt y.c).kids from ⟨k1,k2,k3,k4⟩);have g9:C.files.length<=100:=f9.files.2;have gi:C.zones.length<=2:=by have:=hI.nz;have:=hI.few;omega
 have g7:C.groups.length<=2:=by have:=hI.ng;have:=hI.few;omega
 have j2:(j:Int)<(C.files.length:Int):=O_
 obtain ⟨H,HJ,eh⟩:=eI h hj b1;have i1:(0:Int)<=(p:Int):=O_
 have i2:(p:Int)<8:=O_
 have i3:(0:Int)<=(t:Int):=O_
 have i4:(t:Int)<(C.groups.length:Int):=O_
 have i5:(0:Int)<=(k:Int):=O_
 have i6:(k:Int)<(C.zones.length:Int):=O_
 clear h hI hl hg hck hj b1 k1 k2 k3 k4 f9;go_enter func72,ntmps72
 go_upto_region 1 with fail
 generalize hW9:(w.alloc _).alloc _=W;obtain ⟨HX,HR,HW,HZ⟩:=dJ hW9;clear hW9 HZ;obtain ⟨x0,N,O,P,J,M,Q⟩:=T_ HX.out
 go_upto_region 3 with (go_at_call 92;refine CM (f8 _ HW) ?_;rintro e w1 ⟨rfl,ew⟩;obtain ⟨c9,dy,bd⟩:=bC HX HR HW ew;clear ew x0 N O P J M Q;obtain ⟨x0,N,O,P,J,M,Q⟩:=T_ c9.out)
 clear f8 HX HR HW
 by_cases hv:J_ y.c p<=0
 ·have HV:=H_ hv;have ch:∀w',s_ w w'->C_ 59 #[bK (S_ (some ⟨bf,of,none⟩) C.files.length ak) (S_ A2 m2 c2) (S_ A3 C.zones.length c3) (S_ A4 C.groups.length c4) (S_ A5 m5 c5) (S_ A6 m6 c6) (S_ A7 m7 c7),I_ j,I_ p] w' (fun e ee=>e = .returned (.tuple #[I_ 0,.bool false])/\s_ w' ee):=fun w' hb=>by
   have:=cg w' hb;unfold eL uT at this;rw [if_pos hv] at this;exact this
  clear cg hv
  go_upto_region 7 with (first
   | (go_at_call 59;refine CM (ch _ bd) ?_;rintro e w2 ⟨rfl,bq⟩;obtain ⟨bk,aw,ax⟩:=bC c9 dy bd bq;clear bq x0 N O P J M Q;obtain ⟨x0,N,O,P,J,M,Q⟩:=T_ bk.out)
   | (go_at_call 131;refine CM (f1 _ ax (n_ aw)) ?_;rintro e w3 ⟨gv,rfl,f6,ex⟩;obtain ⟨e4,ba,bg⟩:=bC bk aw ax ex;have b3:=H_ f6;clear f6 ex)
   | fail)
  obtain ⟨Pg,ng,rg,f7⟩:=b3.cap;subst f7;clear x0 N O P J M Q c9 dy bd bk aw ax f1 ch;obtain ⟨x0,N,O,P,J,M,Q⟩:=T_ e4.out
  by_cases b0:(cC C.groups t gp 1).2=0
  ·have d1:((cC C.groups t gp 1).2 != 0)=false:=by rw [b0];rfl
   have dv:=H_ b0;clear b0
   go_upto_region 10 with (first
    | (go_at_call 132;refine CM (fd _ bg (n_ ba)) ?_;rintro e w4 ⟨zv,rfl,fg,e7⟩;obtain ⟨e5,bb,bh⟩:=bC e4 ba bg e7;have ct:=H_ (b3.step e7);have bm:=H_ fg;clear fg e7)
    | fail)
   obtain ⟨Pz,nz,rz,fh⟩:=bm.cap;subst fh;clear x0 N O P J M Q e4 ba bg b3 fd d1;obtain ⟨x0,N,O,P,J,M,Q⟩:=T_ e5.out
   by_cases an:(cX C.zones u k).2.2=0
   ·have d2:((cX C.zones u k).2.2 != 0)=false:=by rw [an];rfl
    have bc:=H_ an;obtain ⟨k',z',ff,du,et⟩:=aq_ HI.zok an;obtain ⟨i,xf,e8,fe,_⟩:=HI.free k' z' ff (cX C.zones u k).2.1 (by
     rw [et]
     cases hf:z'.free with
     | nil=>exact absurd hf du
     | cons a b=>exact List.mem_cons_self ..)
    rw [e8];have ei:=H_ e8;have bt:=bI fe;have gj:(i:Int)<(C.frames.length:Int):=O_
    have gc:=HI.nr;clear an ff du et e8 fe;have gh:w.heap.size+1<w4.heap.size:=n_ bb;have f2:=kY C _ _ _ _ _ _ _ S1 w4 (H.step bh.out) HI.ok (fun z I=>s2 z O_)
    go_upto_region 13 with (go_at_call 21;refine CM f2 ?_;rintro e w5 ⟨gf,nf,cf,m,nr,cr,c',d',q,nl,cl,gk,nk,ck,g',rfl,a1,al⟩;obtain ⟨P3,n3,r3,rfl⟩:=a1.zones.cap;obtain ⟨P4,n4,r4,rfl⟩:=a1.groups.cap;obtain ⟨P7,n7,r7,rfl⟩:=a1.ptes.cap)
    obtain ⟨X,hX⟩:=bL w5.heap.size;obtain ⟨Sx,az⟩:=bL (fun z=>S1 z/\z≠X);have c0:∀z,Sx z->S1 z/\z≠X:=fun z I=>by rw [az] at I;exact I
    have eu:w4.heap.size<=X/\gk<X:=⟨by have:=al.size;omega,by rw [hX];exact a1.lt⟩;have fy:∀z,X<z->Sx z:=fun z I=>by rw [az];exact ⟨s2 z O_,O_⟩
    have g3:w4<=gf/\gf<m/\m<q/\q<gk:=⟨a1.o1,a1.o2,a1.o3,a1.o4⟩;have HT:=H_ (H.weak (S':=TS Sx gf m q gk) (fun z I h=>⟨by rw [az];exact ⟨h,O_⟩,O_,O_,O_,O_⟩));have ed:∀z,z<w4.heap.size->S1 z->TS Sx gf m q gk z:=fun z I h=>⟨by rw [az];exact ⟨h,O_⟩,O_,O_,O_,O_⟩;have au:=a_ (aP (w5) w5) (.cells (D_ (o_ gf) nf cf (o_ m) nr cr P3 n3 r3 P4 n4 r4 (o_ q) nl cl (o_ gk) nk ck P7 n7 r7) 30);have b4:=H_ (((ct.weak ed).step al).step au);have bn:=H_ (((bm.weak ed).step al).step au);have r:=H_ (show eS (w5.alloc (.cells (D_ (o_ gf) nf cf (o_ m) nr cr P3 n3 r3 P4 n4 r4 (o_ q) nl cl (o_ gk) nk ck P7 n7 r7) 30)) Sx (w4) gf nf cf m nr cr (S_ P3 n3 r3) (S_ P4 n4 r4) q nl cl gk nk ck (S_ P7 n7 r7) C by rw [az];exact (a1.but X O_).step (a_ B_ _));have ah:=H_ (l_ w5 (.cells (D_ (o_ gf) nf cf (o_ m) nr cr P3 n3 r3 P4 n4 r4 (o_ q) nl cl (o_ gk) nk ck P7 n7 r7) 30) X hX.symm);have e6:=H_ (m_ (h_ e5 al) (.cells (D_ (o_ gf) nf cf (o_ m) nr cr P3 n3 r3 P4 n4 r4 (o_ q) nl cl (o_ gk) nk ck P7 n7 r7) 30));have dz:=H_ (m_ (h_ bb al) (.cells (D_ (o_ gf) nf cf (o_ m) nr cr P3 n3 r3 P4 n4 r4 (o_ q) nl cl (o_ gk) nk ck P7 n7 r7) 30));have e3:=H_ (a_ (e_ bh al) (.cells (D_ (o_ gf) nf cf (o_ m) nr cr P3 n3 r3 P4 n4 r4 (o_ q) nl cl (o_ gk) nk ck P7 n7 r7) 30))
    have fb:(w5.alloc (.cells (D_ (o_ gf) nf cf (o_ m) nr cr P3 n3 r3 P4 n4 r4 (o_ q) nl cl (o_ gk) nk ck P7 n7 r7) 30)).heap.size=X+1:=by simp [hX]
    rw [<-hX];generalize w5.alloc (.cells (D_ (o_ gf) nf cf (o_ m) nr cr P3 n3 r3 P4 n4 r4 (o_ q) nl cl (o_ gk) nk ck P7 n7 r7) 30)=W6 at r ah e6 dz e3 fb b4 bn au;have f3:∀w':World,X+1<=w'.heap.size->∀z,w'.heap.size<=z->TS Sx gf m q gk z:=fun w' gd z I=>⟨fy z O_,O_,O_,O_,O_⟩;have ga:j<nf/\nf<=1000:=⟨by rw [<-r.ef];exact bu,by rw [<-r.ef];omega⟩;have g2:i<nr/\nr<=1000:=⟨by rw [<-r.er];exact bt,by rw [<-r.er];omega⟩;have eb:=bI ao;have g4:=bI cs;have gb:t<nl/\nl<=1000:=⟨by rw [<-r.el];exact eb,by rw [<-r.el];have:=HI.ok.lists.2;omega⟩;have nX:¬Sx X:=fun I=>(c0 _ I).2 rfl;clear hX az a1 al au f2 e5 bb bh ct bm x0 N O P J M Q ed;have o2:=b_ ah 2;have fv:=t_ ah 2;have o3:=b_ ah 3;have fw:=t_ ah 3
    go_upto_region 14 with fail
    have ej:=H_ (show (W6.setCell ⟨X,3,none⟩ (S_ Pg ng rg)).heap[X]?=some (.cells (D_ (o_ gf) nf cf (o_ m) nr cr P3 n3 r3 Pg ng rg (o_ q) nl cl (o_ gk) nk ck P7 n7 r7) 30 (0,0)) from W_ ah _);have dx:=H_ (show ((W6.setCell ⟨X,3,none⟩ (S_ Pg ng rg)).setCell ⟨X,2,none⟩ (S_ Pz nz rz)).heap[X]?=some (.cells (D_ (o_ gf) nf cf (o_ m) nr cr Pz nz rz Pg ng rg (o_ q) nl cl (o_ gk) nk ck P7 n7 r7) 30 (0,0)) from W_ ej _);have ca:=H_ ((iH (W6.setCell ⟨X,3,none⟩ (S_ Pg ng rg)) ⟨X,2,none⟩ (S_ Pz nz rz) w (by show w.heap.size≠X;omega)).trans ((iH W6 ⟨X,3,none⟩ (S_ Pg ng rg) w (by show w.heap.size≠X;omega)).trans e6.out));have e0:=H_ ((iH (W6.setCell ⟨X,3,none⟩ (S_ Pg ng rg)) ⟨X,2,none⟩ (S_ Pz nz rz) (w+1) (by show w.heap.size+1≠X;omega)).trans ((iH W6 ⟨X,3,none⟩ (S_ Pg ng rg) (w+1) (by show w.heap.size+1≠X;omega)).trans dz.out));have bi:=H_ (aT (aT e3 ⟨X,3,none⟩ (S_ Pg ng rg) (by show w.heap.size<=X;omega)) ⟨X,2,none⟩ (S_ Pz nz rz) (by show w.heap.size<=X;omega));have dw:=H_ (((r.with_ bn b4 r.ptes).setCellX X 3 (S_ Pg ng rg) nX eu.2).setCellX X 2 (S_ Pz nz rz) nX eu.2);have ea:X+1<=((W6.setCell ⟨X,3,none⟩ (S_ Pg ng rg)).setCell ⟨X,2,none⟩ (S_ Pz nz rz)).heap.size:=by simp [World.setCell];omega
    generalize (W6.setCell ⟨X,3,none⟩ (S_ Pg ng rg)).setCell ⟨X,2,none⟩ (S_ Pz nz rz)=W8 at dx ca e0 bi dw ea;clear o2 fv o3 fw r ah e6 dz e3 fb ej b4 bn;have b1:=eh.out;obtain ⟨z0,z1,z2,z3,z4,z5,z6,z7,z8,z9,za,zb,zc,zd,ze⟩:=zc (bi.block _ cd) b1;obtain ⟨x0,N,O,P,J,M,Q⟩:=T_ ca.out
    have f4:=b1_ kc p c8.out.1 c8.out.2.1 c8.out.2.2.1 (c8.out.2.2.2.step bi)
    go_upto_region 15 with (go_at_call 127;refine CM f4 ?_;rintro e w9 ⟨rfl,cc⟩)
    have eg:=H_ (dw.step cc);obtain ⟨em,cb,en,ay⟩:=dU dx ca e0 bi cc;have fc:X+1<=w9.heap.size:=eF ea cc.size;clear f4 dw dx ca e0 bi ea cc z0 z1 z2 z3 z4 z5 z6 z7 z8 z9 za zb zc zd ze x0 N O P J M Q;obtain ⟨x0,N,O,P,J,M,Q⟩:=T_ cb.out;obtain ⟨bl,ol,E1,u1,v1,E2,u2,v2,E3,u3,v3,bo,bp,a0,hA,l0,l1,l2⟩:=LlA.cells HT.lists ao.out;obtain ⟨Ae,ce,es,_,_⟩:=hA.1.form;rw [es] at l0;rw [bo,bp] at J;replace l0:=(g_ (ay.block _ a0)).trans l0;obtain ⟨fn,gm,fS,ek,_,_,ez,_,ec⟩:=IL.cell H.clocks cs.out;replace ec:=(g_ (ay.block _ ez)).trans ec;injection ek with eA6 em6 ec6
    rw [eA6,em6] at M;have fr:=n_ cb;have dp:bl<w9:=gX a0 ay.size;have f0:fn<w9:=gX ez ay.size;have g0:C.clocks.length<=100:=HI.ok.clocks.2;have g1:C.lists.length<=100:=HI.ok.lists.2;have t5:(t:Int)<(C.clocks.length:Int):=O_
    have t4:(t:Int)<(C.lists.length:Int):=O_
    have xe:=R_ w9;have ev:=fun z=>ak_ clk (J_ y.c p) (l.act.length:Int) (ext w9 z);clear bo bp eA6 em6 ec6 es l1 l2 hA
    go_cut [23] (fun s23 wx=>s23 = .bool (acB clk (J_ y.c p) (l.act.length:Int))/\∃z,wx=ext w9 z)
    case first=>
     refine w_ q_ q_ ?_
     repeat (go_big_quiet_step ((exact dU_ (ev _))))
     refine wpQuiet_nil ?_;rintro w' ⟨z,rfl⟩;go_wp2;go_meet
     case rel=>exact ⟨rfl,z,rfl⟩
    case rest=>
     obtain ⟨rfl,z,rfl⟩:=hcut;have b2:=H_ (eg.step (p_ w9 z));have a3:=H_ (h_ em (p_ w9 z));have ag:=H_ (h_ cb (p_ w9 z));have b9:=H_ (h_ en (p_ w9 z));have a6:=H_ (e_ ay (p_ w9 z));have bx:X+1<=(ext w9 z).heap.size:=eF fc (p_ w9 z).size;have br:bl<(ext w9 z).heap.size:=gX dp (p_ w9 z).size;generalize ext w9 z=aj at b2 a3 ag b9 a6 bx br;clear eg em cb en ay fc x0 N O P J M Q l0 ec f0 dp fr xe ev;obtain ⟨x0,N,O,P,J,M,Q⟩:=T_ ag.out;have o0:=b_ a3 0;have o4:=b_ a3 4;simp only[zl] at o0 o4;have bw:=n_ ag;have bv:=n_ a3;obtain ⟨fm,fx,bz,eo,fi,ep,ey,k1,k2,k3,k4,dq⟩:=FlA.cells HT.files HJ.out;obtain ⟨rfl,rfl⟩:bf=fm/\of=fx:=by injection ep with e;injection e with e1 e2;exact ⟨e1,e2⟩
     obtain ⟨-,-,z2,z3,z4,z5,-⟩:=zc (a6.block _ cd) dq;have a2:bf<aj:=gX cd a6.size;have fj:=H_ k1;have dt:=fun w' (hb:s_ aj w')=>bb_ fi p ((i:Int)+1) k1 k2 k3 (k4.step (e_ a6 hb)) (f3 w' (eF bx hb.size));clear dq ep ey k1 k2 k3 k4
     go_upto_region 16 with fail
     go_cut [] (fun wx=>eS wx Sx (w4) gf nf cf m nr cr (S_ Pz nz rz) (S_ Pg ng rg) q nl cl gk nk ck (S_ P7 n7 r7) (⟨C.files.set j ⟨y.dev,y.slot,(bD y.c p ((i:Int)+1)).1,y.size,y.blocks,y.ecnt,y.eerr,y.sseq,y.ssize,y.sblocks,y.which,y.seq⟩,C.frames,(cX C.zones u k).1,(cC C.groups t gp 1).1,C.lists,C.clocks,C.ptes⟩:Ck)/\bA wx X (D_ (o_ gf) nf cf (o_ m) nr cr Pz nz rz Pg ng rg (o_ q) nl cl (o_ gk) nk ck P7 n7 r7) 30/\bA wx (w) (D_ (some ⟨bf,of,none⟩) C.files.length ak A2 m2 c2 A3 C.zones.length c3 A4 C.groups.length c4 A5 m5 c5 A6 m6 c6 A7 m7 c7) 30/\wx.heap[w.heap.size+1]?=some (bM)/\s_ w wx)
     case first=>
      refine aR (S:=TS Sx gf m q gk) 174 17 (inL [0,1,2,3,4,5,6,7,8,9,10,11,12,13,15,16]) (fun wx=>eS wx Sx (w4) gf nf cf m nr cr (S_ Pz nz rz) (S_ Pg ng rg) q nl cl gk nk ck (S_ P7 n7 r7) (⟨C.files.set j ⟨y.dev,y.slot,(bD y.c p ((i:Int)+1)).1,y.size,y.blocks,y.ecnt,y.eerr,y.sseq,y.ssize,y.sblocks,y.which,y.seq⟩,C.frames,(cX C.zones u k).1,(cC C.groups t gp 1).1,C.lists,C.clocks,C.ptes⟩:Ck)/\bA wx X (D_ (o_ gf) nf cf (o_ m) nr cr Pz nz rz Pg ng rg (o_ q) nl cl (o_ gk) nk ck P7 n7 r7) 30/\bA wx (w) (D_ (some ⟨bf,of,none⟩) C.files.length ak A2 m2 c2 A3 C.zones.length c3 A4 C.groups.length c4 A5 m5 c5 A6 m6 c6 A7 m7 c7) 30/\wx.heap[w.heap.size+1]?=some (bM)/\s_ w wx) [SK.eq (P_ X),SK.eq (S_ (some ⟨gf,0,none⟩) nf cf),SK.eq (I_ (j:Int)),SK.eq (P_ (w)),SK.eq (S_ (some ⟨bf,of,none⟩) C.files.length ak),SK.eq (I_ (j:Int)),SK.eq (.pointer (some ⟨bf,of+j*15,none⟩)),SK.eq (.pointer (some ⟨bf,of+j*15+2,none⟩)),SK.eq (.agg #[I_ bz,S_ eo (j_ bz y.c).kids.length fi,I_ (j_ bz y.c).val,I_ (j_ bz y.c).marks]),SK.eq (I_ (p:Int)),SK.eq (I_ ((i:Int)+1)),SK.tr2 (TS Sx gf m q gk) (bD y.c p ((i:Int)+1)).1 (bD y.c p ((i:Int)+1)).2 (fun _ h=>h),SK.tr2 (TS Sx gf m q gk) (bD y.c p ((i:Int)+1)).1 (bD y.c p ((i:Int)+1)).2 (fun _ h=>h),SK.tr1 (TS Sx gf m q gk) (bD y.c p ((i:Int)+1)).1 (fun _ h=>h),SK.eq (I_ (bD y.c p ((i:Int)+1)).2),SK.eq (.pointer (some ⟨gf,j*15,none⟩)),SK.eq (.pointer (some ⟨gf,j*15+2,none⟩)),SK.any] q_ q_ rfl (fun _=>trivial) ?_;refine qP fun v0=>?_;simp only[ly];refine c_ rfl rfl (fun xw A s K D=>?_) (fun v1=>?_)
      ·obtain rfl:v0=_:=s 0 q_;have o:s_ aj xw:=A;have u0:=(o.cell (p:=⟨X,_,none⟩) bv).trans o0;go_simp;exact D _ _ A K_ rfl
      simp only[ly];refine qP fun v2=>qP fun v3=>?_;simp only[ly];refine c_ rfl rfl (fun xw A s K D=>?_) (fun v4=>?_)
      ·obtain rfl:v3=_:=s 3 q_;have o:s_ aj xw:=A;have u0:=(o.cell (p:=⟨w,_,none⟩) bw).trans x0;go_simp;exact D _ _ A K_ rfl
      simp only[ly];refine qP fun v5=>qP fun v6=>qP fun v7=>?_;simp only[ly];refine c_ rfl rfl (fun xw A s K D=>?_) (fun v8=>?_)
      ·obtain rfl:v7=_:=s 7 q_;have o:s_ aj xw:=A;have u0:=(o.cell (p:=⟨bf,_,none⟩) a2).trans z2;have u1:=(o.cell (p:=⟨bf,_,none⟩) a2).trans z3;have u2:=(o.cell (p:=⟨bf,_,none⟩) a2).trans z4;have u3:=(o.cell (p:=⟨bf,_,none⟩) a2).trans z5;go_simp;exact D _ _ A K_ rfl
      simp only[ly];refine qP fun v9=>qP fun v10=>?_;simp only[ly];refine c_ rfl rfl (fun xw A s K D=>?_) (fun v11=>?_)
      ·obtain rfl:v8=_:=s 8 q_;obtain rfl:v9=_:=s 9 q_;obtain rfl:v10=_:=s 10 q_;have o:s_ aj xw:=A;go_simp
       go_at_call 134
       refine (dt xw o).mono ?_;rintro e w1 ⟨h1,A1,p1,rfl,t1,c1,n1,hb⟩;exact D _ _ (e_ o hb) (r_.of_below hb) ⟨h1,A1,p1,rfl,t1,c1,n1⟩
      simp only[ly];refine c_ rfl rfl (fun xw A s K D=>?_) (fun v12=>?_)
      ·obtain ⟨h1,A1,p1,e,t1,c1,n1⟩:=s 11 q_;obtain rfl:v11=_:=e;go_simp;exact D _ _ A K_ ⟨h1,A1,p1,rfl,t1,c1,n1⟩
      simp only[ly];refine c_ rfl rfl (fun xw A s K D=>?_) (fun v13=>?_)
      ·obtain ⟨h1,A1,p1,e,t1,c1,n1⟩:=s 12 q_;obtain rfl:v12=_:=e;go_simp;exact D _ _ A K_ ⟨h1,A1,p1,rfl,t1,c1,n1⟩
      simp only[ly];refine Z_ rfl (fun w=>r_.refl w) (fun xw s K D=>?_) (fun v14=>?_)
      ·obtain ⟨h1,A1,p1,e,t1,c1,n1⟩:=s 12 q_;obtain rfl:v12=_:=e;go_simp;exact D _ rfl
      simp only[ly];refine qP fun v15=>qP fun v16=>?_;simp only[ly];refine z_ (fun xw A s K D=>?_) (fun v17=>?_)
      ·obtain rfl:v16=_:=s 16 q_;obtain ⟨h1,A1,p1,e,t1,c1,n1⟩:=s 13 q_;obtain rfl:v13=_:=e;have o:s_ aj xw:=A;have r:=b2.step o;have cj:=LW.there r.files (i:=j) bu (p:=2) (n:=4) O_;refine aS (ops:=#[]) rfl (nK rfl 58 (.tmp 137) (.tmp 134) rfl gf (j*15+2) #[I_ (h1:Int),S_ A1 (j_ h1 (bD y.c p ((i:Int)+1)).1).kids.length p1,I_ (j_ h1 (bD y.c p ((i:Int)+1)).1).val,I_ (j_ h1 (bD y.c p ((i:Int)+1)).1).marks] rfl rfl cj U_ (aL) ?_);refine D undef _ ⟨r.putFiles (L_ xw gf (j*15+2) _) (LW.tree r.files HJ.out (oU fj.out) t1 c1 n1) A_,?_,?_,?_,?_⟩ (r_.of_setCells _ _ _ _ (fun h=>h.2.1 rfl)) trivial
       ·exact (v_ gf _ (j*15+2) xw X O_).trans (h_ a3.out o)
       ·exact (v_ gf _ (j*15+2) xw (w) O_).trans (h_ ag.out o)
       ·exact (v_ gf _ (j*15+2) xw (w+1) O_).trans (h_ b9.out o)
       ·exact aY (e_ a6.out o) O_ _ _
      simp only[ly];refine G_ ?_;intro wz hD hG;clear hG;go_wp2;go_meet
      case rel=>exact hD
     case rest=>
      clear a2 z2 z3 z4 z5 dt b2 a3 ag b9 a6 bx;clear x0 N O P J M Q o0 o4 bw bv br;obtain ⟨dd,df,dl,dh,dj⟩:=hcut;obtain ⟨cm,a4,ap,cy,V⟩:=h5_ dd df dl dh dj;clear dd df dl dh dj;have dr:X+1<=wc.heap.size:=n_ a4;obtain ⟨x0,N,O,P,J,M,Q⟩:=T_ ap.out;have o0:=b_ a4 0;have o4:=b_ a4 4;simp only[zl] at o0 o4;have bw:=n_ ap;have bv:=n_ a4;obtain ⟨bl,ol,E1,u1,v1,E2,u2,v2,E3,u3,v3,bo,bp,a0,hA,l0,l1,l2⟩:=LlA.cells HT.lists ao.out;rw [bo,bp] at J;have HA:=H_ hA;clear hA bo bp;have a2:bl<wc:=gX a0 V.size;replace l0:=(g_ (V.block _ a0)).trans l0;replace l1:=(g_ (V.block _ a0)).trans l1;replace l2:=(g_ (V.block _ a0)).trans l2
      go_upto_region 17 with fail
      go_cut [] (fun wx=>eS wx Sx (w4) gf nf cf m nr cr (S_ Pz nz rz) (S_ Pg ng rg) q nl cl gk nk ck (S_ P7 n7 r7) (⟨C.files.set j ⟨y.dev,y.slot,(bD y.c p ((i:Int)+1)).1,y.size,y.blocks,y.ecnt,y.eerr,y.sseq,y.ssize,y.sblocks,y.which,y.seq⟩,C.frames,(cX C.zones u k).1,(cC C.groups t gp 1).1,C.lists.set t (oC l ((i:Int)+1) (acB clk (J_ y.c p) l.act.length)),C.clocks,C.ptes⟩:Ck)/\bA wx X (D_ (o_ gf) nf cf (o_ m) nr cr Pz nz rz Pg ng rg (o_ q) nl cl (o_ gk) nk ck P7 n7 r7) 30/\bA wx (w) (D_ (some ⟨bf,of,none⟩) C.files.length ak A2 m2 c2 A3 C.zones.length c3 A4 C.groups.length c4 A5 m5 c5 A6 m6 c6 A7 m7 c7) 30/\wx.heap[w.heap.size+1]?=some (bM)/\s_ w wx)
      case first=>
       refine aR (S:=TS Sx gf m q gk) 174 15 (inL [0,1,2,3,4,5,6,7,8,9,10,11,12,14]) (fun wx=>eS wx Sx (w4) gf nf cf m nr cr (S_ Pz nz rz) (S_ Pg ng rg) q nl cl gk nk ck (S_ P7 n7 r7) (⟨C.files.set j ⟨y.dev,y.slot,(bD y.c p ((i:Int)+1)).1,y.size,y.blocks,y.ecnt,y.eerr,y.sseq,y.ssize,y.sblocks,y.which,y.seq⟩,C.frames,(cX C.zones u k).1,(cC C.groups t gp 1).1,C.lists.set t (oC l ((i:Int)+1) (acB clk (J_ y.c p) l.act.length)),C.clocks,C.ptes⟩:Ck)/\bA wx X (D_ (o_ gf) nf cf (o_ m) nr cr Pz nz rz Pg ng rg (o_ q) nl cl (o_ gk) nk ck P7 n7 r7) 30/\bA wx (w) (D_ (some ⟨bf,of,none⟩) C.files.length ak A2 m2 c2 A3 C.zones.length c3 A4 C.groups.length c4 A5 m5 c5 A6 m6 c6 A7 m7 c7) 30/\wx.heap[w.heap.size+1]?=some (bM)/\s_ w wx) [SK.eq (.pointer (some ⟨X,4,none⟩)),SK.eq (S_ (some ⟨q,0,none⟩) nl cl),SK.eq (I_ (t:Int)),SK.eq (.pointer (some ⟨w,4,none⟩)),SK.eq (S_ (some ⟨bl,ol,none⟩) C.lists.length c5),SK.eq (I_ (t:Int)),SK.eq (.pointer (some ⟨bl,ol+t*3,none⟩)),SK.eq (.agg #[S_ E1 u1 v1,S_ E2 u2 v2,S_ E3 u3 v3]),SK.eq (I_ ((i:Int)+1)),SK.eq (.bool (acB clk (J_ y.c p) l.act.length)),SK.lr2 (TS Sx gf m q gk) (oC l ((i:Int)+1) (acB clk (J_ y.c p) l.act.length)) (if gK l ((i:Int)+1)=true then 5 else 0) (fun _ h=>h),SK.lr2 (TS Sx gf m q gk) (oC l ((i:Int)+1) (acB clk (J_ y.c p) l.act.length)) (if gK l ((i:Int)+1)=true then 5 else 0) (fun _ h=>h),SK.lr (TS Sx gf m q gk) (oC l ((i:Int)+1) (acB clk (J_ y.c p) l.act.length)) (fun _ h=>h),SK.eq (I_ (if gK l ((i:Int)+1)=true then 5 else 0)),SK.eq (.pointer (some ⟨q,t*3,none⟩)),SK.any] q_ q_ rfl (fun _=>trivial) ?_;refine qP fun v0=>?_;simp only[ly];refine c_ rfl rfl (fun xw A s K D=>?_) (fun v1=>?_)
       ·obtain rfl:v0=_:=s 0 q_;have o:s_ wc xw:=A;have u0:=(o.cell (p:=⟨X,_,none⟩) bv).trans o4;go_simp;exact D _ _ A K_ rfl
       simp only[ly];refine qP fun v2=>qP fun v3=>?_;simp only[ly];refine c_ rfl rfl (fun xw A s K D=>?_) (fun v4=>?_)
       ·obtain rfl:v3=_:=s 3 q_;have o:s_ wc xw:=A;have u0:=(o.cell (p:=⟨w,_,none⟩) bw).trans J;go_simp;exact D _ _ A K_ rfl
       simp only[ly];refine qP fun v5=>qP fun v6=>?_;simp only[ly];refine c_ rfl rfl (fun xw A s K D=>?_) (fun v7=>?_)
       ·obtain rfl:v6=_:=s 6 q_;have o:s_ wc xw:=A;have u0:=(o.cell (p:=⟨bl,_,none⟩) a2).trans l0;have u1:=(o.cell (p:=⟨bl,_,none⟩) a2).trans l1;have u2:=(o.cell (p:=⟨bl,_,none⟩) a2).trans l2;go_simp;exact D _ _ A K_ rfl
       simp only[ly];refine qP fun v8=>qP fun v9=>?_;simp only[ly];refine c_ rfl rfl (fun xw A s K D=>?_) (fun v10=>?_)
       ·obtain rfl:v7=_:=s 7 q_;obtain rfl:v8=_:=s 8 q_;obtain rfl:v9=_:=s 9 q_;have o:s_ wc xw:=A;go_simp
        go_at_call 135
        refine (iQ_ ((i:Int)+1) (acB clk (J_ y.c p) l.act.length) (HA.step (e_ V.out o)) (HI.lok t l ao.out) ⟨O_,O_⟩ (f3 _ (eF dr o.size))).mono ?_;rintro e w1 ⟨q1,q2,q3,rfl,hA,hb⟩;exact D _ _ (e_ o hb) (r_.of_below hb) ⟨q1,q2,q3,rfl,hA⟩
       simp only[ly];refine c_ rfl rfl (fun xw A s K D=>?_) (fun v11=>?_)
       ·obtain ⟨q1,q2,q3,e,hA⟩:=s 10 q_;obtain rfl:v10=_:=e;go_simp;exact D _ _ A K_ ⟨q1,q2,q3,rfl,hA⟩
       simp only[ly];refine c_ rfl rfl (fun xw A s K D=>?_) (fun v12=>?_)
       ·obtain ⟨q1,q2,q3,e,hA⟩:=s 11 q_;obtain rfl:v11=_:=e;go_simp;exact D _ _ A K_ ⟨q1,q2,q3,rfl,hA⟩
       simp only[ly];refine Z_ rfl (fun w=>r_.refl w) (fun xw s K D=>?_) (fun v13=>?_)
       ·obtain ⟨q1,q2,q3,e,hA⟩:=s 11 q_;obtain rfl:v11=_:=e;go_simp;exact D _ rfl
       simp only[ly];refine qP fun v14=>?_;simp only[ly];refine z_ (fun xw A s K D=>?_) (fun v15=>?_)
       ·obtain rfl:v14=_:=s 14 q_;obtain ⟨q1,q2,q3,e,hA⟩:=s 12 q_;obtain rfl:v12=_:=e;have o:s_ wc xw:=A;obtain ⟨B1,j1,fo,rfl⟩:=hA.1.cap;obtain ⟨B2,fu,fp,rfl⟩:=hA.2.1.cap;obtain ⟨B3,j3,fq,rfl⟩:=hA.2.2.cap;have r:=cm.step o;have cj:=LW.there r.lists (i:=t) eb (p:=0) (n:=3) O_;rw [Nat.add_zero] at cj;refine aS (ops:=#[]) rfl (nK rfl 119 (.tmp 152) (.tmp 150) rfl q (t*3) #[S_ B1 j1 fo,S_ B2 fu fp,S_ B3 j3 fq] rfl rfl cj dD (rF) ?_);refine D undef _ ⟨r.putLists (L_ xw q (t*3) _) (r.lists.set eb ⟨_,_,_,rfl,hA⟩) A_,?_,?_,?_,?_⟩ (r_.of_setCells _ _ _ _ (fun h=>h.2.2.2.1 rfl)) trivial
        ·exact (v_ q _ (t*3) xw X O_).trans (h_ a4.out o)
        ·exact (v_ q _ (t*3) xw (w) O_).trans (h_ ap.out o)
        ·exact (v_ q _ (t*3) xw (w+1) O_).trans (h_ cy.out o)
        ·exact aY (e_ V.out o) O_ _ _
       simp only[ly];refine G_ ?_;intro wz hD hG;clear hG;go_wp2;go_meet
       case rel=>exact hD
      case rest=>
       clear a2 l0 l1 l2 HA cm a4 ap cy V dr;clear x0 N O P J M Q o0 o4 bw bv;obtain ⟨de,dg,dm,di,dk⟩:=hcut;obtain ⟨cn,b5,d9,cz,d5⟩:=h5_ de dg dm di dk;clear de dg dm di dk;have ds:X+1<=wc.heap.size:=n_ b5;have e9:=fun w'=>hP_ w';have ci:=fun w'=>gm_ w';have av:=H_ (show iI y p=if jL y p then vW else cI_ from rfl);generalize cI_=B at e9 av;generalize vW=gH at ci av
       go_upto_region 18 with fail
       go_upto_region 19 with (go_at_call 136;refine CM (e9 _) ?_;rintro e w14 ⟨rfl,aq⟩;have co:=H_ (cn.step aq);obtain ⟨cu,da,d0,d6⟩:=dU b5 d9 cz d5 aq;have fa:=eF ds aq.size;clear aq)
       obtain ⟨Y,hY⟩:=bL w14.heap.size;have ab:=H_ (l_ w14 (.cells #[.string (B).data,I_ (B).valid,I_ (B).dirty] 83) Y hY.symm);have a9:=H_ ((co.but Y (Nat.le_of_eq hY.symm)).step (a_ B_ (.cells #[.string (B).data,I_ (B).valid,I_ (B).dirty] 83)));have aa:=H_ (m_ cu (.cells #[.string (B).data,I_ (B).valid,I_ (B).dirty] 83));have a8:=H_ (m_ da (.cells #[.string (B).data,I_ (B).valid,I_ (B).dirty] 83));have ac:=H_ (m_ d0 (.cells #[.string (B).data,I_ (B).valid,I_ (B).dirty] 83));have a7:=H_ (a_ d6 (.cells #[.string (B).data,I_ (B).valid,I_ (B).dirty] 83));rw [<-hY];generalize w14.alloc (.cells #[.string (B).data,I_ (B).valid,I_ (B).dirty] 83)=g5 at ab a9 aa a8 ac a7;have g6:X<Y:=O_
       clear hY cn b5 d9 cz d5 ds co cu da d0 d6 fa e9;have b1:=eh.out;obtain ⟨z0,z1,z2,z3,z4,z5,z6,z7,z8,z9,za,zb,zc,zd,ze⟩:=zc (a7.block _ cd) b1;obtain ⟨x0,N,O,P,J,M,Q⟩:=T_ a8.out;have am:=fun w'=>bF_ y kt KB kc p hp w'
       simp only[Fl.v,Fl.rowT] at am
       cases h3:jL y p with
       | true=>
        rw [h3] at am;have b8:=H_ (show iI y p=gH by rw [av.out,h3];rfl);clear h3
        go_upto_region 21 with (first
         | (go_at_call 137;refine CM (am _) ?_;rintro e w16 ⟨rfl,E⟩;have cx:=fC ab E;have cp:=H_ (a9.step E);obtain ⟨cv,db,d3,d7⟩:=dU aa a8 ac a7 E;clear E)
         | (go_at_call 138;refine CM (ci _) ?_;rintro e w17 ⟨rfl,ar⟩;have b7:=fC cx ar;have cq:=H_ (cp.step ar);obtain ⟨cw,dc,d4,d8⟩:=dU cv db d3 d7 ar;clear ar)
         | (refine cZ rfl 83 (.tmp 24) (.tmp 161) rfl rfl Y #[.string (gH).data,I_ (gH).valid,I_ (gH).dirty] rfl rfl 83 _ b7 cK rfl (eE) ?_))
        clear x0 N O P J M Q z0 z1 z2 z3 z4 z5 z6 z7 z8 z9 za zb zc zd ze am ci av;have a5:=H_ (setRow_heap w17 Y _ #[.string (gH).data,I_ (gH).valid,I_ (gH).dirty] _ _ b7);have L:=H_ (cq.setRowX Y #[.string (gH).data,I_ (gH).valid,I_ (gH).dirty] (fun I=>I.2 rfl) O_);generalize hW9:w17.setRow Y #[.string (gH).data,I_ (gH).valid,I_ (gH).dirty]=fk at a5 L;have U:=srx hW9 cw;have bj:=srx hW9 dc;have ad:=srx hW9 d4;have af:=srl hW9 d8;clear hW9;clear ab a9 aa a8 ac a7 cx cp cv db d3 d7 b7 cq cw dc d4 d8;have o1:=b_ U 1;have pp:=a5.out;have p0:=b_ pp 0;have p1:=b_ pp 1;have p2:=b_ pp 2;simp only[zl] at o1 p0 p1 p2;clear pp;have ai:=H_ (LW.there L.frames bt (p:=0) (n:=9) O_);rw [Nat.add_zero] at ai
        go_upto_region 22 with (first
         | (refine nK rfl 85 (.tmp 171) (.tmp 170) rfl m (i*9) (nO (j:Int) (p:Int) ((gH).data) ((gH).valid) ((gH).dirty) (t:Int) 0 0 0) rfl rfl ai pM (xI ⟨j,p,gH,t,0,0,0⟩) ?_)
         | fail)
        have R:=H_ (L.frame bt ⟨j,p,gH,t,0,0,0⟩);rw [show (⟨j,p,gH,t,0,0,0⟩:Fr).row=[I_ (j:Int),I_ (p:Int),.string (gH).data,I_ (gH).valid,I_ (gH).dirty,I_ (t:Int),I_ 0,I_ 0,I_ 0] from rfl] at R;generalize hW9:fk.setCells m (i*9) _=fl at R;have b6:=yL hW9 U;have ae:=yL hW9 ad;have be:=sml hW9 af;clear hW9;clear o1 p0 p1 p2 ai L U bj ad af a5;obtain ⟨x0,N,O,P,J,M,Q⟩:=T_ b6.out
        go_wp2_with (refine Q_ rfl (.tmp 12) (.tmp 172) rfl rfl rfl rfl ae rfl ?_)
        show bodyPost prog f72 _ _ _ _
        refine bodyPost_ret (pJ rfl rfl rfl rfl (setRow_heap _ _ _ _ _ _ ae)) rfl ?_;refine ⟨rA C j p t i y l gp (cX C.zones u k).1 (acB clk (J_ y.c p) l.act.length),_,_,_,_,_,_,_,_,_,.inr ⟨rfl,HV.out,i,_,rfl,ei.out,bc.out,rfl⟩,rfl,?_,d_ be.out O_ _⟩;have bs:=((R.setRow (w+1) (D_ (o_ gf) nf cf (o_ m) nr cr Pz nz rz Pg ng rg (o_ q) nl cl (o_ gk) nk ck P7 n7 r7) (fun I=>(s1 _ (c0 _ I.1).1).2.2 rfl) O_).weak (bE _) (fun z I=>(s1 z (c0 z I.1).1).1) (fun z I=>hS z O_)).at_;unfold rA;rw [b8.out];exact bs
       | false=>
        rw [h3] at am;have b8:=H_ (show iI y p=B by rw [av.out,h3];rfl);clear h3
        go_upto_region 21 with (first
         | (go_at_call 137;refine CM (am _) ?_;rintro e w18 ⟨rfl,E⟩;have a5:=fC ab E;have L:=H_ (a9.step E);obtain ⟨U,bj,ad,af⟩:=dU aa a8 ac a7 E;clear E))
        clear ab a9 aa a8 ac a7;clear x0 N O P J M Q z0 z1 z2 z3 z4 z5 z6 z7 z8 z9 za zb zc zd ze am ci av;have o1:=b_ U 1;have pp:=a5.out;have p0:=b_ pp 0;have p1:=b_ pp 1;have p2:=b_ pp 2;simp only[zl] at o1 p0 p1 p2;clear pp;have ai:=H_ (LW.there L.frames bt (p:=0) (n:=9) O_);rw [Nat.add_zero] at ai
        go_upto_region 22 with (first
         | (refine nK rfl 85 (.tmp 171) (.tmp 170) rfl m (i*9) (nO (j:Int) (p:Int) ((B).data) ((B).valid) ((B).dirty) (t:Int) 0 0 0) rfl rfl ai pM (xI ⟨j,p,B,t,0,0,0⟩) ?_)
         | fail)
        have R:=H_ (L.frame bt ⟨j,p,B,t,0,0,0⟩);rw [show (⟨j,p,B,t,0,0,0⟩:Fr).row=[I_ (j:Int),I_ (p:Int),.string (B).data,I_ (B).valid,I_ (B).dirty,I_ (t:Int),I_ 0,I_ 0,I_ 0] from rfl] at R;generalize hW9:w18.setCells m (i*9) _=fl at R;have b6:=yL hW9 U;have ae:=yL hW9 ad;have be:=sml hW9 af;clear hW9;clear o1 p0 p1 p2 ai L U bj ad af a5;obtain ⟨x0,N,O,P,J,M,Q⟩:=T_ b6.out
        go_wp2_with (refine Q_ rfl (.tmp 12) (.tmp 172) rfl rfl rfl rfl ae rfl ?_)
        show bodyPost prog f72 _ _ _ _
        refine bodyPost_ret (pJ rfl rfl rfl rfl (setRow_heap _ _ _ _ _ _ ae)) rfl ?_;refine ⟨rA C j p t i y l gp (cX C.zones u k).1 (acB clk (J_ y.c p) l.act.length),_,_,_,_,_,_,_,_,_,.inr ⟨rfl,HV.out,i,_,rfl,ei.out,bc.out,rfl⟩,rfl,?_,d_ be.out O_ _⟩;have bs:=((R.setRow (w+1) (D_ (o_ gf) nf cf (o_ m) nr cr Pz nz rz Pg ng rg (o_ q) nl cl (o_ gk) nk ck P7 n7 r7) (fun I=>(s1 _ (c0 _ I.1).1).2.2 rfl) O_).weak (bE _) (fun z I=>(s1 z (c0 z I.1).1).1) (fun z I=>hS z O_)).at_;unfold rA;rw [b8.out];exact bs
   ·have d2:((cX C.zones u k).2.2 != 0)=true:=bne_iff_ne.2 an;have bc:=H_ an;clear an
    go_wp2_with (refine Q_ rfl (.tmp 12) (.tmp 91) rfl rfl rfl rfl bb rfl ?_)
    show bodyPost prog f72 _ _ _ _
    refine bodyPost_ret (pJ rfl rfl rfl rfl (setRow_heap _ _ _ _ _ _ bb)) rfl ?_;exact ⟨C,_,_,_,_,_,_,_,_,_,.inl ⟨bc.out,rfl,.inr (.inr bc.out)⟩,rfl,(H.step (d_ bh.out O_ _)).weak (fun z _ I=>(s1 z I).1),d_ bh.out O_ _⟩
  ·have d1:((cC C.groups t gp 1).2 != 0)=true:=bne_iff_ne.2 b0;have dv:=H_ b0;clear b0
   go_wp2_with (refine Q_ rfl (.tmp 12) (.tmp 78) rfl rfl rfl rfl ba rfl ?_)
   show bodyPost prog f72 _ _ _ _
   refine bodyPost_ret (pJ rfl rfl rfl rfl (setRow_heap _ _ _ _ _ _ ba)) rfl ?_;exact ⟨C,_,_,_,_,_,_,_,_,_,.inl ⟨dv.out,rfl,.inr (.inl dv.out)⟩,rfl,(H.step (d_ bg.out O_ _)).weak (fun z _ I=>(s1 z I).1),d_ bg.out O_ _⟩
 ·obtain ⟨i,x,f5,hU,fs⟩:=HI.findOk HJ.out p O_;have ch:∀w',s_ w w'->C_ 59 #[bK (S_ (some ⟨bf,of,none⟩) C.files.length ak) (S_ A2 m2 c2) (S_ A3 C.zones.length c3) (S_ A4 C.groups.length c4) (S_ A5 m5 c5) (S_ A6 m6 c6) (S_ A7 m7 c7),I_ j,I_ p] w' (fun e ee=>e = .returned (.tuple #[I_ ((i:Int)+1),.bool true])/\s_ w' ee):=fun w' hb=>by
   have:=cg w' hb;unfold eL uT at this;rw [if_neg hv,f5] at this;exact this
  have HV:=H_ (show 0<J_ y.c p by omega);clear cg hv f5 hU fs
  go_wp2_with (first | (go_at_call 59;refine CM (ch _ bd) ?_;rintro e w2 ⟨rfl,bq⟩;obtain ⟨bk,aw,ax⟩:=bC c9 dy bd bq;clear bq x0 N O P J M Q;obtain ⟨x0,N,O,P,J,M,Q⟩:=T_ bk.out) | (refine Q_ rfl (.tmp 12) (.tmp 68) rfl rfl rfl rfl aw.out rfl ?_))
  show bodyPost prog f72 _ _ _ _
  refine bodyPost_ret (pJ rfl rfl rfl rfl (setRow_heap _ _ _ _ _ _ aw)) rfl ?_;exact ⟨C,_,_,_,_,_,_,_,_,_,.inl ⟨cE,rfl,.inl HV.out⟩,rfl,(H.step (d_ ax.out O_ _)).weak (fun z _ I=>(s1 z I).1),d_ ax.out O_ _⟩
end
end Go.Proofs.YtehfhnbpnaiogaaGreatDoor
