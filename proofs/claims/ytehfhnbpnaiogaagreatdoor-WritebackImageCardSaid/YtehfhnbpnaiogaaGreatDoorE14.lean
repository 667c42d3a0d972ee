/-
  Lemmas and contracts for the laws of this seat, part 14; several texts joined by a program.
-/
import Derived.Test.YtehfhnbpnaiogaaGreatDoorE13
import Derived.Test.YtehfhnbpnaiogaaGreatDoorE00
namespace Go.Proofs.YtehfhnbpnaiogaaGreatDoor
set_option linter.unusedVariables false
set_option linter.unusedSimpArgs false
set_option maxRecDepth 100000
set_option maxHeartbeats 16000000
open Go.RowKit Go.Proofs.Tryz IntKind
variable {C:Ck} {L:List Zn} {c:Cn} {en err n v:Int} {gp:Gr} {i j k off p sn sz t:Nat} {l:Lr} {u:Bool} {w:World} {x x':Fr} {y:Fl}
section
variable {F G Z:Nat}
theorem aN_:∀{p i:Nat},kI L u p=some i->∃z,L[i]?=some z/\d4_ z u=true
 | 0,i,h=>by simp [kI] at h
 | p+1,i,h=>by
  simp only[kI] at h
  cases hz:L[p]? with
  | none=>rw [hz] at h;cases h
  | some z=>
   rw [hz] at h
   dsimp only at h
   split at h
   ·rename_i hc
    injection h with h
    subst h;exact ⟨z,hz,hc⟩
   ·exact aN_ h
theorem vC (hok:cC L) (h:(cA L u p).2.2=0):∃k z,L[k]?=some z/\z.free≠[]/\cA L u p=(L.set k {z with free:=z.free.drop 1},z.free.headD 0,0):=by
 unfold cA at h ⊢
 cases ht:kI L u (p+1) with
 | none=>rw [ht] at h;simp at h
 | some k=>
  obtain ⟨z,a,hc⟩:=aN_ ht
  dsimp only
  rw [a];refine ⟨k,z,a,fun e=>?_,rfl⟩;have:=(hok.each k z a).wm;unfold d4_ at hc;rw [e] at hc;simp at hc;omega
def fB (y:Fl) (p:Nat):Pg:=if aC y p then uF else uO
theorem gG_:jC uO:=⟨rfl,⟨bX,bX⟩,⟨bX,bX⟩,bX⟩
theorem ey_:jC uF:=⟨rfl,⟨bX,bX⟩,⟨bX,bX⟩,bX⟩
theorem ap_ (y:Fl) (p:Nat):jC (fB y p):=by unfold fB;split;exact ey_;exact gG_
def oP (C:Ck) (j p t i:Nat) (y:Fl) (l:Lr) (gp:Gr) (zs:List Zn) (ac:Bool):Ck:=
 {files:=C.files.set j {y with c:=(Z_ y.c p ((i:Int)+1)).1},frames:=C.frames.set i ⟨j,p,fB y p,t,0,0,0⟩,zones:=zs,groups:=(bB C.groups t gp 1).1,lists:=C.lists.set t (jD l ((i:Int)+1) ac),clocks:=C.clocks,ptes:=C.ptes}
def InP (C:Ck) (j p t k:Nat) (u:Bool) (y:Fl) (l:Lr) (gp:Gr) (C':Ck) (n err:Int):Prop:=
 (err≠0/\C'=C/\(0<D_ y.c p\/(bB C.groups t gp 1).2≠0\/(cA C.zones u k).2.2≠0))\/(err=0/\(D_ y.c p<=0/\(bB C.groups t gp 1).2=0)/\∃(i:Nat) (ac:Bool),n=(i:Int)+1/\(cA C.zones u k).2.1=(i:Int)+1/\(cA C.zones u k).2.2=0/\C'=oP C j p t i y l gp (cA C.zones u k).1 ac)
theorem InP.inv {C':Ck} (h:InP C j p t k u y l gp C' n err) (hI:cE F G Z C) (hj:C.files[j]?=some y) (hp:p<8) (ht:t<G) (hl:C.lists[t]?=some l) (hg:C.groups[t]?=some gp) :
  cE F G Z C'/\(err=0->∃(i:Nat) (x:Fr) (y':Fl),n=(i:Int)+1/\C'.files[j]?=some y'/\dE C' i x j y'/\x.page=p/\y'.size=y.size/\D_ y'.c p=(i:Int)+1):=by
 rcases h with ⟨he,rfl,_⟩ | ⟨_,⟨hno,_⟩,i,ac,rfl,h1,h2,rfl⟩
 ·exact ⟨hI,fun h=>absurd h he⟩
 ·obtain ⟨q,z,o,f,g⟩:=vC hI.zok h2;rw [g] at h1;have v:=hI.few;have m:fE ⟨j,p,fB y p,t,0,0,0⟩:=⟨⟨by show (0:Int)<=p;omega,by show (p:Int)<8;omega⟩,⟨by show (0:Int)<=t;omega,by show (t:Int)<2;omega⟩,ap_ y p,⟨by show (0:Int)<=0;omega,by show (0:Int)<=255;omega⟩,⟨by show (0:Int)<=0;omega,by show (0:Int)<=3;omega⟩,⟨by show (0:Int)<=0;omega,by show (0:Int)<=3;omega⟩⟩;obtain ⟨d,x0,w,r,_⟩:=hI.free q z o ((i:Int)+1) (by
   cases hf:z.free with
   | nil=>exact absurd hf f
   | cons a b=>rw [hf] at h1;have h1:a=_:=h1;rw [h1];exact List.mem_cons_self ..)
  obtain rfl:d=i:=O_
  have hv:=hI.insert (x0:=eI) (t:=t) hj (p:=(p:Int)) ⟨O_,O_⟩ hno o h1 f hl hg m rfl rfl (by show (t:Int)<G;omega) ac;have s:oP C j p t d y l gp (cA C.zones u k).1 ac={files:=C.files.set j {y with c:=(Z_ y.c p ((d:Int)+1)).1},frames:=C.frames.set d ⟨j,p,fB y p,t,0,0,0⟩,zones:=C.zones.set q {z with free:=z.free.drop 1},groups:=(bB C.groups t gp 1).1,lists:=C.lists.set t (jD l ((d:Int)+1) ac),clocks:=C.clocks,ptes:=C.ptes}:=by unfold oP;rw [g]
  rw [s];refine ⟨hv,fun _=>⟨d,_,_,rfl,w_ hj,⟨w_ r,w_ hj,rfl,m⟩,rfl,rfl,?_⟩⟩
  show D_ (Z_ y.c p ((d:Int)+1)).1 p=_
  rw [dM (by unfold gG;simp;omega),if_pos rfl]
def hu_ (P:Ck->Int->Int->Prop) (S:Nat->Prop) (w:World) (en:Ending) (w':World):Prop:=∃C' n err a b c d e f g,P C' n err/\en = .returned (.tuple #[cI a b c d e f g,I_ n,I_ err])/\x_ w' S a b c d e f g C'/\q_ w w'
theorem pI {fn:Func} {p q r:Tmp} (h:fn.results=#[.cell p 30,.tmp q,.tmp r]) {tmps:Array Value} {g:Nat} {t:TypeId} {x0 x1 x2 x3 x4 x5 x6:Value} {fr:Nat × Nat} {u v:Value}
  (hp:tmps.getD p undef = P_ g) (hq:tmps.getD q undef=u) (hr:tmps.getD r undef=v) (hg:w.heap[g]?=some (.cells #[x0,x1,x2,x3,x4,x5,x6] t fr)):(results fn tmps).run prog w = .ok (.tuple #[cI x0 x1 x2 x3 x4 x5 x6,u,v]) w:=by
 have a:tmps[p]?.getD undef = P_ g:=by simpa using hp
 have b:tmps[q]?.getD undef=u:=by simpa using hq
 have c:tmps[r]?.getD undef=v:=by simpa using hr
 simp [results,h,a,b,c,asAddr,run_loadVar_row w g t 30 #[x0,x1,x2,x3,x4,x5,x6] fr _ hg underlying30 rfl fI]
theorem eP.setRowX {S:Nat->Prop} {B gf nf cf gr nr cr gl nl cl gk nk ck:Nat} {c d g:Value} (h:eP w S B gf nf cf gr nr cr c d gl nl cl gk nk ck g C) (X:Nat) (cs:Array Value) (hX:¬S X) (hB:gk<X):eP (w.setRow X cs) S B gf nf cf gr nr cr c d gl nl cl gk nk ck g C:=by
 have o1:=h.o1;have o2:=h.o2;have o3:=h.o3;have o4:=h.o4;exact h.kept (r_.of_setRow w X cs fun a=>hX a.1) (setRow_other w X gf cs O_) (setRow_other w X gr cs O_) (setRow_other w X gl cs O_) (setRow_other w X gk cs O_)
theorem uH (C:Ck) (j p t k:Nat) (u:Bool) (y:Fl) (l:Lr) (gp:Gr) (clk:Int) (a b c d e f g:Value) (S:Nat->Prop) (w:World) (h:x_ w S a b c d e f g C) (hI:cE F G Z C) (hj:C.files[j]?=some y) (hp:p<8) (hl:C.lists[t]?=some l) (hg:C.groups[t]?=some gp) (hck:C.clocks[t]?=some clk) (hk:k<C.zones.length) (hS:∀z,w.heap.size<=z->S z) :
  C_ 72 #[cI a b c d e f g,I_ j,I_ p,I_ t,I_ k,.bool u] w (hu_ (InP C j p t k u y l gp) S w):=by
 obtain ⟨S1,s1,s2,s3⟩:=oB hS;replace h:=h.weak s3;clear s3;have bw:=bK hj;have fa:=fun w' (hb:q_ w w')=>gF j (h.step hb) bw;have ci:=fun w' (hb:q_ w w')=>gR j y p (h.step hb) hj;have f3:=fun w' (hb:q_ w w') (I:w.heap.size+1<w'.heap.size)=>d7_ t gp 1 (h.groups.step hb) hg hI.gok ⟨O_,O_⟩ (fun z fv=>s2 z O_);have ff:=fun w' (hb:q_ w w') (I:w.heap.size+1<w'.heap.size)=>iR_ k u (h.zones.step hb) hk hI.zok (fun z fv=>s2 z O_);have ga:=bK hg;have fb:=hI.ok;obtain ⟨HI,ap,g0,cu⟩:=sP hI hl hg hck;obtain ⟨A1,ak,rfl,q1,q2⟩:=h.files.form;obtain ⟨A2,m2,c2,rfl⟩:=h.frames.cap;obtain ⟨A3,c3,rfl,_,_⟩:=h.zones.form;obtain ⟨A4,c4,rfl,_,_⟩:=h.groups.form;obtain ⟨A5,m5,c5,rfl⟩:=h.lists.cap;obtain ⟨A6,m6,c6,rfl⟩:=h.clocks.cap;obtain ⟨A7,m7,c7,rfl⟩:=h.ptes.cap;obtain ⟨bf,of,kt,KB,kc,rfl,ch,k1,k2,k3,k4,b2⟩:=FlA.cells h.files hj;have ca:=H_ (show aX y.c/\X_ kt y.c/\(f_ kt y.c).kids.length<=kc/\NK w S1 KB (f_ kt y.c).kids from ⟨k1,k2,k3,k4⟩);have gb:C.files.length<=100:=fb.files.2;have gm:C.zones.length<=2:=by have:=hI.nz;have:=hI.few;omega
 have g9:C.groups.length<=2:=by have:=hI.ng;have:=hI.few;omega
 have j2:(j:Int)<(C.files.length:Int):=O_
 obtain ⟨H,HJ,ej⟩:=eT h hj b2;have i1:(0:Int)<=(p:Int):=O_
 have i2:(p:Int)<8:=O_
 have i3:(0:Int)<=(t:Int):=O_
 have i4:(t:Int)<(C.groups.length:Int):=O_
 have i5:(0:Int)<=(k:Int):=O_
 have i6:(k:Int)<(C.zones.length:Int):=O_
 clear h hI hl hg hck hj b2 k1 k2 k3 k4 fb;go_enter func72,ntmps72
 go_upto_region 1 with fail
 generalize hW9:(w.alloc _).alloc _=W;obtain ⟨HX,HR,HW,HZ⟩:=fV hW9;clear hW9 HZ;obtain ⟨x0,N,O,P,J,M,Q⟩:=aF HX.out
 go_upto_region 3 with (go_at_call 92;refine CM (fa _ HW) ?_;rintro e w1 ⟨rfl,ey⟩;obtain ⟨cb,e0,be⟩:=bN HX HR HW ey;clear ey x0 N O P J M Q;obtain ⟨x0,N,O,P,J,M,Q⟩:=aF cb.out)
 clear fa HX HR HW
 by_cases hv:D_ y.c p<=0
 ·have HV:=H_ hv;have cj:∀w',q_ w w'->C_ 59 #[cI (S_ (some ⟨bf,of,none⟩) C.files.length ak) (S_ A2 m2 c2) (S_ A3 C.zones.length c3) (S_ A4 C.groups.length c4) (S_ A5 m5 c5) (S_ A6 m6 c6) (S_ A7 m7 c7),I_ j,I_ p] w' (fun e eh=>e = .returned (.tuple #[I_ 0,.bool false])/\q_ w' eh):=fun w' hb=>by
   have:=ci w' hb;unfold eR wG at this;rw [if_pos hv] at this;exact this
  clear ci hv
  go_upto_region 7 with (first
   | (go_at_call 59;refine CM (cj _ be) ?_;rintro e w2 ⟨rfl,br⟩;obtain ⟨bm,ay,az⟩:=bN cb e0 be br;clear br x0 N O P J M Q;obtain ⟨x0,N,O,P,J,M,Q⟩:=aF bm.out)
   | (go_at_call 131;refine CM (f3 _ az (p_ ay)) ?_;rintro e w3 ⟨gv,rfl,f8,ez⟩;obtain ⟨e6,bb,bh⟩:=bN bm ay az ez;have b4:=H_ f8;clear f8 ez)
   | fail)
  obtain ⟨Pg,ng,rg,f9⟩:=b4.cap;subst f9;clear x0 N O P J M Q cb e0 be bm ay az f3 cj;obtain ⟨x0,N,O,P,J,M,Q⟩:=aF e6.out
  by_cases am:(bB C.groups t gp 1).2=0
  ·have d1:((bB C.groups t gp 1).2 != 0)=false:=by rw [am];rfl
   have aw:=H_ am;have aw:=H_ am;clear am
   go_upto_region 10 with (first
    | (go_at_call 132;refine CM (ff _ bh (p_ bb)) ?_;rintro e w4 ⟨zv,rfl,fi,e9⟩;obtain ⟨e7,bc,bi⟩:=bN e6 bb bh e9;have cv:=H_ (b4.step e9);have bn:=H_ fi;clear fi e9)
    | fail)
   obtain ⟨Pz,nz,rz,fj⟩:=bn.cap;subst fj;clear x0 N O P J M Q e6 bb bh b4 ff d1;obtain ⟨x0,N,O,P,J,M,Q⟩:=aF e7.out
   by_cases ao:(cA C.zones u k).2.2=0
   ·have d2:((cA C.zones u k).2.2 != 0)=false:=by rw [ao];rfl
    have bd:=H_ ao;obtain ⟨k',z',fh,dx,ev⟩:=vC HI.zok ao;obtain ⟨i,xf,ea,fg,_⟩:=HI.free k' z' fh (cA C.zones u k).2.1 (by
     rw [ev]
     cases hf:z'.free with
     | nil=>exact absurd hf dx
     | cons a b=>exact List.mem_cons_self ..)
    rw [ea];have em:=H_ ea;have bv:=bK fg;have gn:(i:Int)<(C.frames.length:Int):=O_
    have gh:=HI.nr;clear ao fh dx ev ea fg;have gj:w.heap.size+1<w4.heap.size:=p_ bc;have f4:=kX C _ _ _ _ _ _ _ S1 w4 (H.step bi.out) HI.ok (fun z I=>s2 z O_)
    go_upto_region 13 with (go_at_call 21;refine CM f4 ?_;rintro e w5 ⟨gf,nf,cf,m,nr,cr,c',d',q,nl,cl,gk,nk,ck,g',rfl,a1,al⟩;obtain ⟨P3,n3,r3,rfl⟩:=a1.zones.cap;obtain ⟨P4,n4,r4,rfl⟩:=a1.groups.cap;obtain ⟨P7,n7,r7,rfl⟩:=a1.ptes.cap)
    obtain ⟨X,hX⟩:=aZ w5.heap.size;obtain ⟨Sx,b1⟩:=aZ (fun z=>S1 z/\z≠X);have c9:∀z,Sx z->S1 z/\z≠X:=fun z I=>by rw [b1] at I;exact I
    have ew:w4.heap.size<=X/\gk<X:=⟨by have:=al.size;omega,by rw [hX];exact a1.lt⟩;have fS:∀z,X<z->Sx z:=fun z I=>by rw [b1];exact ⟨s2 z O_,O_⟩
    have g5:w4<=gf/\gf<m/\m<q/\q<gk:=⟨a1.o1,a1.o2,a1.o3,a1.o4⟩;have HT:=H_ (H.weak (S':=TS Sx gf m q gk) (fun z I h=>⟨by rw [b1];exact ⟨h,O_⟩,O_,O_,O_,O_⟩));have eg:∀z,z<w4.heap.size->S1 z->TS Sx gf m q gk z:=fun z I h=>⟨by rw [b1];exact ⟨h,O_⟩,O_,O_,O_,O_⟩;have av:=b_ (aI (w5) w5) (.cells (E_ (o_ gf) nf cf (o_ m) nr cr P3 n3 r3 P4 n4 r4 (o_ q) nl cl (o_ gk) nk ck P7 n7 r7) 30);have b5:=H_ (((cv.weak eg).step al).step av);have bo:=H_ (((bn.weak eg).step al).step av);have r:=H_ (show eP (w5.alloc (.cells (E_ (o_ gf) nf cf (o_ m) nr cr P3 n3 r3 P4 n4 r4 (o_ q) nl cl (o_ gk) nk ck P7 n7 r7) 30)) Sx (w4) gf nf cf m nr cr (S_ P3 n3 r3) (S_ P4 n4 r4) q nl cl gk nk ck (S_ P7 n7 r7) C by rw [b1];exact (a1.but X O_).step (b_ B_ _));have ah:=H_ (l_ w5 (.cells (E_ (o_ gf) nf cf (o_ m) nr cr P3 n3 r3 P4 n4 r4 (o_ q) nl cl (o_ gk) nk ck P7 n7 r7) 30) X hX.symm);have e8:=H_ (m_ (i_ e7 al) (.cells (E_ (o_ gf) nf cf (o_ m) nr cr P3 n3 r3 P4 n4 r4 (o_ q) nl cl (o_ gk) nk ck P7 n7 r7) 30));have e3:=H_ (m_ (i_ bc al) (.cells (E_ (o_ gf) nf cf (o_ m) nr cr P3 n3 r3 P4 n4 r4 (o_ q) nl cl (o_ gk) nk ck P7 n7 r7) 30));have e5:=H_ (b_ (d_ bi al) (.cells (E_ (o_ gf) nf cf (o_ m) nr cr P3 n3 r3 P4 n4 r4 (o_ q) nl cl (o_ gk) nk ck P7 n7 r7) 30))
    have fd:(w5.alloc (.cells (E_ (o_ gf) nf cf (o_ m) nr cr P3 n3 r3 P4 n4 r4 (o_ q) nl cl (o_ gk) nk ck P7 n7 r7) 30)).heap.size=X+1:=by simp [hX]
    rw [<-hX];generalize w5.alloc (.cells (E_ (o_ gf) nf cf (o_ m) nr cr P3 n3 r3 P4 n4 r4 (o_ q) nl cl (o_ gk) nk ck P7 n7 r7) 30)=W6 at r ah e8 e3 e5 fd b5 bo av;have f5:∀w':World,X+1<=w'.heap.size->∀z,w'.heap.size<=z->TS Sx gf m q gk z:=fun w' gi z I=>⟨fS z O_,O_,O_,O_,O_⟩;have gc:j<nf/\nf<=1000:=⟨by rw [<-r.ef];exact bw,by rw [<-r.ef];omega⟩;have g4:i<nr/\nr<=1000:=⟨by rw [<-r.er];exact bv,by rw [<-r.er];omega⟩;have ed:=bK ap;have g6:=bK cu;have gd:t<nl/\nl<=1000:=⟨by rw [<-r.el];exact ed,by rw [<-r.el];have:=HI.ok.lists.2;omega⟩;have nX:¬Sx X:=fun I=>(c9 _ I).2 rfl;clear hX b1 a1 al av f4 e7 bc bi cv bn x0 N O P J M Q eg;have o2:=a_ ah 2;have fx:=t_ ah 2;have o3:=a_ ah 3;have fy:=t_ ah 3
    go_upto_region 14 with fail
    have en:=H_ (show (W6.setCell ⟨X,3,none⟩ (S_ Pg ng rg)).heap[X]?=some (.cells (E_ (o_ gf) nf cf (o_ m) nr cr P3 n3 r3 Pg ng rg (o_ q) nl cl (o_ gk) nk ck P7 n7 r7) 30 (0,0)) from R_ ah _);have dz:=H_ (show ((W6.setCell ⟨X,3,none⟩ (S_ Pg ng rg)).setCell ⟨X,2,none⟩ (S_ Pz nz rz)).heap[X]?=some (.cells (E_ (o_ gf) nf cf (o_ m) nr cr Pz nz rz Pg ng rg (o_ q) nl cl (o_ gk) nk ck P7 n7 r7) 30 (0,0)) from R_ en _);have cc:=H_ ((jO (W6.setCell ⟨X,3,none⟩ (S_ Pg ng rg)) ⟨X,2,none⟩ (S_ Pz nz rz) w (by show w.heap.size≠X;omega)).trans ((jO W6 ⟨X,3,none⟩ (S_ Pg ng rg) w (by show w.heap.size≠X;omega)).trans e8.out));have e4:=H_ ((jO (W6.setCell ⟨X,3,none⟩ (S_ Pg ng rg)) ⟨X,2,none⟩ (S_ Pz nz rz) (w+1) (by show w.heap.size+1≠X;omega)).trans ((jO W6 ⟨X,3,none⟩ (S_ Pg ng rg) (w+1) (by show w.heap.size+1≠X;omega)).trans e3.out));have bj:=H_ (bA (bA e5 ⟨X,3,none⟩ (S_ Pg ng rg) (by show w.heap.size<=X;omega)) ⟨X,2,none⟩ (S_ Pz nz rz) (by show w.heap.size<=X;omega));have dy:=H_ (((r.with_ bo b5 r.ptes).setCellX X 3 (S_ Pg ng rg) nX ew.2).setCellX X 2 (S_ Pz nz rz) nX ew.2);have ec:X+1<=((W6.setCell ⟨X,3,none⟩ (S_ Pg ng rg)).setCell ⟨X,2,none⟩ (S_ Pz nz rz)).heap.size:=by simp [World.setCell];omega
    generalize (W6.setCell ⟨X,3,none⟩ (S_ Pg ng rg)).setCell ⟨X,2,none⟩ (S_ Pz nz rz)=W8 at dz cc e4 bj dy ec;clear o2 fx o3 fy r ah e8 e3 e5 fd en b5 bo;have b2:=ej.out;obtain ⟨z0,z1,z2,z3,z4,z5,z6,z7,z8,z9,za,zb,zc,zd,ze⟩:=zc (bj.block _ ch) b2;obtain ⟨x0,N,O,P,J,M,Q⟩:=aF cc.out
    have f6:=cq_ kc p ca.out.1 ca.out.2.1 ca.out.2.2.1 (ca.out.2.2.2.step bj)
    go_upto_region 15 with (go_at_call 127;refine CM f6 ?_;rintro e w9 ⟨rfl,cg⟩)
    have ei:=H_ (dy.step cg);obtain ⟨eo,cd,ep,b0⟩:=iC dz cc e4 bj cg;have fe:X+1<=w9.heap.size:=dO ec cg.size;clear f6 dy dz cc e4 bj ec cg z0 z1 z2 z3 z4 z5 z6 z7 z8 z9 za zb zc zd ze x0 N O P J M Q;obtain ⟨x0,N,O,P,J,M,Q⟩:=aF cd.out;obtain ⟨bl,ol,E1,u1,v1,E2,u2,v2,E3,u3,v3,bp,bq,a0,hA,l0,l1,l2⟩:=LlA.cells HT.lists ap.out;obtain ⟨Ae,ce,eu,_,_⟩:=hA.1.form;rw [eu] at l0;rw [bp,bq] at J;replace l0:=(c_ (b0.block _ a0)).trans l0;obtain ⟨fp,go,g1,ek,_,_,f1,_,ee⟩:=IL.cell H.clocks cu.out;replace ee:=(c_ (b0.block _ f1)).trans ee;injection ek with eA6 em6 ec6
    rw [eA6,em6] at M;have ft:=p_ cd;have ds:bl<w9:=iS a0 b0.size;have f2:fp<w9:=iS f1 b0.size;have g2:C.clocks.length<=100:=HI.ok.clocks.2;have g3:C.lists.length<=100:=HI.ok.lists.2;have t5:(t:Int)<(C.clocks.length:Int):=O_
    have t4:(t:Int)<(C.lists.length:Int):=O_
    have xe:=aG w9;have ex:=fun z=>aG_ clk (D_ y.c p) (l.act.length:Int) (ext w9 z);clear bp bq eA6 em6 ec6 eu l1 l2 hA
    go_cut [23] (fun s23 wx=>s23 = .bool (acB clk (D_ y.c p) (l.act.length:Int))/\∃z,wx=ext w9 z)
    case first=>
     refine y_ s_ s_ ?_
     repeat (go_big_quiet_step ((exact ek_ (ex _))))
     refine wpQuiet_nil ?_;rintro w' ⟨z,rfl⟩;go_wp2;go_meet
     case rel=>exact ⟨rfl,z,rfl⟩
    case rest=>
     obtain ⟨rfl,z,rfl⟩:=hcut;have b3:=H_ (ei.step (n_ w9 z));have a3:=H_ (i_ eo (n_ w9 z));have ag:=H_ (i_ cd (n_ w9 z));have ba:=H_ (i_ ep (n_ w9 z));have a6:=H_ (d_ b0 (n_ w9 z));have c0:X+1<=(ext w9 z).heap.size:=dO fe (n_ w9 z).size;have bs:bl<(ext w9 z).heap.size:=iS ds (n_ w9 z).size;generalize ext w9 z=aj at b3 a3 ag ba a6 c0 bs;clear ei eo cd ep b0 fe x0 N O P J M Q l0 ee f2 ds ft xe ex;obtain ⟨x0,N,O,P,J,M,Q⟩:=aF ag.out;have o0:=a_ a3 0;have o4:=a_ a3 4;simp only[zl] at o0 o4;have bz:=p_ ag;have bx:=p_ a3;obtain ⟨fo,fz,c8,es,fk,et,f0,k1,k2,k3,k4,dt⟩:=FlA.cells HT.files HJ.out;obtain ⟨rfl,rfl⟩:bf=fo/\of=fz:=by injection et with e;injection e with e1 e2;exact ⟨e1,e2⟩
     obtain ⟨-,-,z2,z3,z4,z5,-⟩:=zc (a6.block _ ch) dt;have a2:bf<aj:=iS ch a6.size;have fl:=H_ k1;have dw:=fun w' (hb:q_ aj w')=>bD_ fk p ((i:Int)+1) k1 k2 k3 (k4.step (d_ a6 hb)) (f5 w' (dO c0 hb.size));clear dt et f0 k1 k2 k3 k4
     go_upto_region 16 with fail
     go_cut [] (fun wx=>eP wx Sx (w4) gf nf cf m nr cr (S_ Pz nz rz) (S_ Pg ng rg) q nl cl gk nk ck (S_ P7 n7 r7) (⟨C.files.set j ⟨y.dev,y.slot,(Z_ y.c p ((i:Int)+1)).1,y.size,y.blocks,y.ecnt,y.eerr,y.sseq,y.ssize,y.sblocks,y.which,y.seq⟩,C.frames,(cA C.zones u k).1,(bB C.groups t gp 1).1,C.lists,C.clocks,C.ptes⟩:Ck)/\aW wx X (E_ (o_ gf) nf cf (o_ m) nr cr Pz nz rz Pg ng rg (o_ q) nl cl (o_ gk) nk ck P7 n7 r7) 30/\aW wx (w) (E_ (some ⟨bf,of,none⟩) C.files.length ak A2 m2 c2 A3 C.zones.length c3 A4 C.groups.length c4 A5 m5 c5 A6 m6 c6 A7 m7 c7) 30/\wx.heap[w.heap.size+1]?=some (cG)/\q_ w wx)
     case first=>
      refine bG (S:=TS Sx gf m q gk) 174 17 (inL [0,1,2,3,4,5,6,7,8,9,10,11,12,13,15,16]) (fun wx=>eP wx Sx (w4) gf nf cf m nr cr (S_ Pz nz rz) (S_ Pg ng rg) q nl cl gk nk ck (S_ P7 n7 r7) (⟨C.files.set j ⟨y.dev,y.slot,(Z_ y.c p ((i:Int)+1)).1,y.size,y.blocks,y.ecnt,y.eerr,y.sseq,y.ssize,y.sblocks,y.which,y.seq⟩,C.frames,(cA C.zones u k).1,(bB C.groups t gp 1).1,C.lists,C.clocks,C.ptes⟩:Ck)/\aW wx X (E_ (o_ gf) nf cf (o_ m) nr cr Pz nz rz Pg ng rg (o_ q) nl cl (o_ gk) nk ck P7 n7 r7) 30/\aW wx (w) (E_ (some ⟨bf,of,none⟩) C.files.length ak A2 m2 c2 A3 C.zones.length c3 A4 C.groups.length c4 A5 m5 c5 A6 m6 c6 A7 m7 c7) 30/\wx.heap[w.heap.size+1]?=some (cG)/\q_ w wx) [SK.eq (P_ X),SK.eq (S_ (some ⟨gf,0,none⟩) nf cf),SK.eq (I_ (j:Int)),SK.eq (P_ (w)),SK.eq (S_ (some ⟨bf,of,none⟩) C.files.length ak),SK.eq (I_ (j:Int)),SK.eq (.pointer (some ⟨bf,of+j*15,none⟩)),SK.eq (.pointer (some ⟨bf,of+j*15+2,none⟩)),SK.eq (.agg #[I_ c8,S_ es (f_ c8 y.c).kids.length fk,I_ (f_ c8 y.c).val,I_ (f_ c8 y.c).marks]),SK.eq (I_ (p:Int)),SK.eq (I_ ((i:Int)+1)),SK.tr2 (TS Sx gf m q gk) (Z_ y.c p ((i:Int)+1)).1 (Z_ y.c p ((i:Int)+1)).2 (fun _ h=>h),SK.tr2 (TS Sx gf m q gk) (Z_ y.c p ((i:Int)+1)).1 (Z_ y.c p ((i:Int)+1)).2 (fun _ h=>h),SK.tr1 (TS Sx gf m q gk) (Z_ y.c p ((i:Int)+1)).1 (fun _ h=>h),SK.eq (I_ (Z_ y.c p ((i:Int)+1)).2),SK.eq (.pointer (some ⟨gf,j*15,none⟩)),SK.eq (.pointer (some ⟨gf,j*15+2,none⟩)),SK.any] s_ s_ rfl (fun _=>trivial) ?_;refine qP fun v0=>?_;simp only[ly];refine k_ rfl rfl (fun xw A s K D=>?_) (fun v1=>?_)
      ·obtain rfl:v0=_:=s 0 s_;have o:q_ aj xw:=A;have u0:=(o.cell (p:=⟨X,_,none⟩) bx).trans o0;go_simp;exact D _ _ A K_ rfl
      simp only[ly];refine qP fun v2=>qP fun v3=>?_;simp only[ly];refine k_ rfl rfl (fun xw A s K D=>?_) (fun v4=>?_)
      ·obtain rfl:v3=_:=s 3 s_;have o:q_ aj xw:=A;have u0:=(o.cell (p:=⟨w,_,none⟩) bz).trans x0;go_simp;exact D _ _ A K_ rfl
      simp only[ly];refine qP fun v5=>qP fun v6=>qP fun v7=>?_;simp only[ly];refine k_ rfl rfl (fun xw A s K D=>?_) (fun v8=>?_)
      ·obtain rfl:v7=_:=s 7 s_;have o:q_ aj xw:=A;have u0:=(o.cell (p:=⟨bf,_,none⟩) a2).trans z2;have u1:=(o.cell (p:=⟨bf,_,none⟩) a2).trans z3;have u2:=(o.cell (p:=⟨bf,_,none⟩) a2).trans z4;have u3:=(o.cell (p:=⟨bf,_,none⟩) a2).trans z5;go_simp;exact D _ _ A K_ rfl
      simp only[ly];refine qP fun v9=>qP fun v10=>?_;simp only[ly];refine k_ rfl rfl (fun xw A s K D=>?_) (fun v11=>?_)
      ·obtain rfl:v8=_:=s 8 s_;obtain rfl:v9=_:=s 9 s_;obtain rfl:v10=_:=s 10 s_;have o:q_ aj xw:=A;go_simp
       go_at_call 134
       refine (dw xw o).mono ?_;rintro e w1 ⟨h1,A1,p1,rfl,t1,c1,n1,hb⟩;exact D _ _ (d_ o hb) (r_.of_below hb) ⟨h1,A1,p1,rfl,t1,c1,n1⟩
      simp only[ly];refine k_ rfl rfl (fun xw A s K D=>?_) (fun v12=>?_)
      ·obtain ⟨h1,A1,p1,e,t1,c1,n1⟩:=s 11 s_;obtain rfl:v11=_:=e;go_simp;exact D _ _ A K_ ⟨h1,A1,p1,rfl,t1,c1,n1⟩
      simp only[ly];refine k_ rfl rfl (fun xw A s K D=>?_) (fun v13=>?_)
      ·obtain ⟨h1,A1,p1,e,t1,c1,n1⟩:=s 12 s_;obtain rfl:v12=_:=e;go_simp;exact D _ _ A K_ ⟨h1,A1,p1,rfl,t1,c1,n1⟩
      simp only[ly];refine cD rfl (fun w=>r_.refl w) (fun xw s K D=>?_) (fun v14=>?_)
      ·obtain ⟨h1,A1,p1,e,t1,c1,n1⟩:=s 12 s_;obtain rfl:v12=_:=e;go_simp;exact D _ rfl
      simp only[ly];refine qP fun v15=>qP fun v16=>?_;simp only[ly];refine aL (fun xw A s K D=>?_) (fun v17=>?_)
      ·obtain rfl:v16=_:=s 16 s_;obtain ⟨h1,A1,p1,e,t1,c1,n1⟩:=s 13 s_;obtain rfl:v13=_:=e;have o:q_ aj xw:=A;have r:=b3.step o;have cn:=LW.there r.files (i:=j) bw (p:=2) (n:=4) O_;refine aO (ops:=#[]) rfl (pF rfl 58 (.tmp 137) (.tmp 134) rfl gf (j*15+2) #[I_ (h1:Int),S_ A1 (f_ h1 (Z_ y.c p ((i:Int)+1)).1).kids.length p1,I_ (f_ h1 (Z_ y.c p ((i:Int)+1)).1).val,I_ (f_ h1 (Z_ y.c p ((i:Int)+1)).1).marks] rfl rfl cn L_ (aD) ?_);refine D undef _ ⟨r.putFiles (J_ xw gf (j*15+2) _) (LW.tree r.files HJ.out (oZ fl.out) t1 c1 n1) z_,?_,?_,?_,?_⟩ (r_.of_setCells _ _ _ _ (fun h=>h.2.1 rfl)) trivial
       ·exact (u_ gf _ (j*15+2) xw X O_).trans (i_ a3.out o)
       ·exact (u_ gf _ (j*15+2) xw (w) O_).trans (i_ ag.out o)
       ·exact (u_ gf _ (j*15+2) xw (w+1) O_).trans (i_ ba.out o)
       ·exact aS (d_ a6.out o) O_ _ _
      simp only[ly];refine aY ?_;intro wz hD hG;clear hG;go_wp2;go_meet
      case rel=>exact hD
     case rest=>
      clear a2 z2 z3 z4 z5 dw b3 a3 ag ba a6 c0;clear x0 N O P J M Q o0 o4 bz bx bs;obtain ⟨df,dh,dq,dj,dm⟩:=hcut;obtain ⟨co,a4,aq,d0,V⟩:=h5_ df dh dq dj dm;clear df dh dq dj dm;have du:X+1<=wc.heap.size:=p_ a4;obtain ⟨x0,N,O,P,J,M,Q⟩:=aF aq.out;have o0:=a_ a4 0;have o4:=a_ a4 4;simp only[zl] at o0 o4;have bz:=p_ aq;have bx:=p_ a4;obtain ⟨bl,ol,E1,u1,v1,E2,u2,v2,E3,u3,v3,bp,bq,a0,hA,l0,l1,l2⟩:=LlA.cells HT.lists ap.out;rw [bp,bq] at J;have HA:=H_ hA;clear hA bp bq;have a2:bl<wc:=iS a0 V.size;replace l0:=(c_ (V.block _ a0)).trans l0;replace l1:=(c_ (V.block _ a0)).trans l1;replace l2:=(c_ (V.block _ a0)).trans l2
      go_upto_region 17 with fail
      go_cut [] (fun wx=>eP wx Sx (w4) gf nf cf m nr cr (S_ Pz nz rz) (S_ Pg ng rg) q nl cl gk nk ck (S_ P7 n7 r7) (⟨C.files.set j ⟨y.dev,y.slot,(Z_ y.c p ((i:Int)+1)).1,y.size,y.blocks,y.ecnt,y.eerr,y.sseq,y.ssize,y.sblocks,y.which,y.seq⟩,C.frames,(cA C.zones u k).1,(bB C.groups t gp 1).1,C.lists.set t (jD l ((i:Int)+1) (acB clk (D_ y.c p) l.act.length)),C.clocks,C.ptes⟩:Ck)/\aW wx X (E_ (o_ gf) nf cf (o_ m) nr cr Pz nz rz Pg ng rg (o_ q) nl cl (o_ gk) nk ck P7 n7 r7) 30/\aW wx (w) (E_ (some ⟨bf,of,none⟩) C.files.length ak A2 m2 c2 A3 C.zones.length c3 A4 C.groups.length c4 A5 m5 c5 A6 m6 c6 A7 m7 c7) 30/\wx.heap[w.heap.size+1]?=some (cG)/\q_ w wx)
      case first=>
       refine bG (S:=TS Sx gf m q gk) 174 15 (inL [0,1,2,3,4,5,6,7,8,9,10,11,12,14]) (fun wx=>eP wx Sx (w4) gf nf cf m nr cr (S_ Pz nz rz) (S_ Pg ng rg) q nl cl gk nk ck (S_ P7 n7 r7) (⟨C.files.set j ⟨y.dev,y.slot,(Z_ y.c p ((i:Int)+1)).1,y.size,y.blocks,y.ecnt,y.eerr,y.sseq,y.ssize,y.sblocks,y.which,y.seq⟩,C.frames,(cA C.zones u k).1,(bB C.groups t gp 1).1,C.lists.set t (jD l ((i:Int)+1) (acB clk (D_ y.c p) l.act.length)),C.clocks,C.ptes⟩:Ck)/\aW wx X (E_ (o_ gf) nf cf (o_ m) nr cr Pz nz rz Pg ng rg (o_ q) nl cl (o_ gk) nk ck P7 n7 r7) 30/\aW wx (w) (E_ (some ⟨bf,of,none⟩) C.files.length ak A2 m2 c2 A3 C.zones.length c3 A4 C.groups.length c4 A5 m5 c5 A6 m6 c6 A7 m7 c7) 30/\wx.heap[w.heap.size+1]?=some (cG)/\q_ w wx) [SK.eq (.pointer (some ⟨X,4,none⟩)),SK.eq (S_ (some ⟨q,0,none⟩) nl cl),SK.eq (I_ (t:Int)),SK.eq (.pointer (some ⟨w,4,none⟩)),SK.eq (S_ (some ⟨bl,ol,none⟩) C.lists.length c5),SK.eq (I_ (t:Int)),SK.eq (.pointer (some ⟨bl,ol+t*3,none⟩)),SK.eq (.agg #[S_ E1 u1 v1,S_ E2 u2 v2,S_ E3 u3 v3]),SK.eq (I_ ((i:Int)+1)),SK.eq (.bool (acB clk (D_ y.c p) l.act.length)),SK.lr2 (TS Sx gf m q gk) (jD l ((i:Int)+1) (acB clk (D_ y.c p) l.act.length)) (if eU l ((i:Int)+1)=true then 5 else 0) (fun _ h=>h),SK.lr2 (TS Sx gf m q gk) (jD l ((i:Int)+1) (acB clk (D_ y.c p) l.act.length)) (if eU l ((i:Int)+1)=true then 5 else 0) (fun _ h=>h),SK.lr (TS Sx gf m q gk) (jD l ((i:Int)+1) (acB clk (D_ y.c p) l.act.length)) (fun _ h=>h),SK.eq (I_ (if eU l ((i:Int)+1)=true then 5 else 0)),SK.eq (.pointer (some ⟨q,t*3,none⟩)),SK.any] s_ s_ rfl (fun _=>trivial) ?_;refine qP fun v0=>?_;simp only[ly];refine k_ rfl rfl (fun xw A s K D=>?_) (fun v1=>?_)
       ·obtain rfl:v0=_:=s 0 s_;have o:q_ wc xw:=A;have u0:=(o.cell (p:=⟨X,_,none⟩) bx).trans o4;go_simp;exact D _ _ A K_ rfl
       simp only[ly];refine qP fun v2=>qP fun v3=>?_;simp only[ly];refine k_ rfl rfl (fun xw A s K D=>?_) (fun v4=>?_)
       ·obtain rfl:v3=_:=s 3 s_;have o:q_ wc xw:=A;have u0:=(o.cell (p:=⟨w,_,none⟩) bz).trans J;go_simp;exact D _ _ A K_ rfl
       simp only[ly];refine qP fun v5=>qP fun v6=>?_;simp only[ly];refine k_ rfl rfl (fun xw A s K D=>?_) (fun v7=>?_)
       ·obtain rfl:v6=_:=s 6 s_;have o:q_ wc xw:=A;have u0:=(o.cell (p:=⟨bl,_,none⟩) a2).trans l0;have u1:=(o.cell (p:=⟨bl,_,none⟩) a2).trans l1;have u2:=(o.cell (p:=⟨bl,_,none⟩) a2).trans l2;go_simp;exact D _ _ A K_ rfl
       simp only[ly];refine qP fun v8=>qP fun v9=>?_;simp only[ly];refine k_ rfl rfl (fun xw A s K D=>?_) (fun v10=>?_)
       ·obtain rfl:v7=_:=s 7 s_;obtain rfl:v8=_:=s 8 s_;obtain rfl:v9=_:=s 9 s_;have o:q_ wc xw:=A;go_simp
        go_at_call 135
        refine (jB_ ((i:Int)+1) (acB clk (D_ y.c p) l.act.length) (HA.step (d_ V.out o)) (HI.lok t l ap.out) ⟨O_,O_⟩ (f5 _ (dO du o.size))).mono ?_;rintro e w1 ⟨q1,q2,q3,rfl,hA,hb⟩;exact D _ _ (d_ o hb) (r_.of_below hb) ⟨q1,q2,q3,rfl,hA⟩
       simp only[ly];refine k_ rfl rfl (fun xw A s K D=>?_) (fun v11=>?_)
       ·obtain ⟨q1,q2,q3,e,hA⟩:=s 10 s_;obtain rfl:v10=_:=e;go_simp;exact D _ _ A K_ ⟨q1,q2,q3,rfl,hA⟩
       simp only[ly];refine k_ rfl rfl (fun xw A s K D=>?_) (fun v12=>?_)
       ·obtain ⟨q1,q2,q3,e,hA⟩:=s 11 s_;obtain rfl:v11=_:=e;go_simp;exact D _ _ A K_ ⟨q1,q2,q3,rfl,hA⟩
       simp only[ly];refine cD rfl (fun w=>r_.refl w) (fun xw s K D=>?_) (fun v13=>?_)
       ·obtain ⟨q1,q2,q3,e,hA⟩:=s 11 s_;obtain rfl:v11=_:=e;go_simp;exact D _ rfl
       simp only[ly];refine qP fun v14=>?_;simp only[ly];refine aL (fun xw A s K D=>?_) (fun v15=>?_)
       ·obtain rfl:v14=_:=s 14 s_;obtain ⟨q1,q2,q3,e,hA⟩:=s 12 s_;obtain rfl:v12=_:=e;have o:q_ wc xw:=A;obtain ⟨B1,j1,fq,rfl⟩:=hA.1.cap;obtain ⟨B2,fw,fr,rfl⟩:=hA.2.1.cap;obtain ⟨B3,j3,fs,rfl⟩:=hA.2.2.cap;have r:=co.step o;have cn:=LW.there r.lists (i:=t) ed (p:=0) (n:=3) O_;rw [Nat.add_zero] at cn;refine aO (ops:=#[]) rfl (pF rfl 119 (.tmp 152) (.tmp 150) rfl q (t*3) #[S_ B1 j1 fq,S_ B2 fw fr,S_ B3 j3 fs] rfl rfl cn cY (rF) ?_);refine D undef _ ⟨r.putLists (J_ xw q (t*3) _) (r.lists.set ed ⟨_,_,_,rfl,hA⟩) z_,?_,?_,?_,?_⟩ (r_.of_setCells _ _ _ _ (fun h=>h.2.2.2.1 rfl)) trivial
        ·exact (u_ q _ (t*3) xw X O_).trans (i_ a4.out o)
        ·exact (u_ q _ (t*3) xw (w) O_).trans (i_ aq.out o)
        ·exact (u_ q _ (t*3) xw (w+1) O_).trans (i_ d0.out o)
        ·exact aS (d_ V.out o) O_ _ _
       simp only[ly];refine aY ?_;intro wz hD hG;clear hG;go_wp2;go_meet
       case rel=>exact hD
      case rest=>
       clear a2 l0 l1 l2 HA co a4 aq d0 V du;clear x0 N O P J M Q o0 o4 bz bx;obtain ⟨dg,di,dr,dl,dp⟩:=hcut;obtain ⟨cp,b6,db,d3,d7⟩:=h5_ dg di dr dl dp;clear dg di dr dl dp;have dv:X+1<=wc.heap.size:=p_ b6;have eb:=fun w'=>iI_ w';have cm:=fun w'=>gU_ w';have ax:=H_ (show fB y p=if aC y p then uF else uO from rfl);generalize uO=B at eb ax;generalize uF=gH at cm ax
       go_upto_region 18 with fail
       go_upto_region 19 with (go_at_call 136;refine CM (eb _) ?_;rintro e w14 ⟨rfl,ar⟩;have cq:=H_ (cp.step ar);obtain ⟨cw,dc,d4,d8⟩:=iC b6 db d3 d7 ar;have fc:=dO dv ar.size;clear ar)
       obtain ⟨Y,hY⟩:=aZ w14.heap.size;have ab:=H_ (l_ w14 (.cells #[.string (B).data,I_ (B).valid,I_ (B).dirty] 83) Y hY.symm);have a9:=H_ ((cq.but Y (Nat.le_of_eq hY.symm)).step (b_ B_ (.cells #[.string (B).data,I_ (B).valid,I_ (B).dirty] 83)));have aa:=H_ (m_ cw (.cells #[.string (B).data,I_ (B).valid,I_ (B).dirty] 83));have a8:=H_ (m_ dc (.cells #[.string (B).data,I_ (B).valid,I_ (B).dirty] 83));have ac:=H_ (m_ d4 (.cells #[.string (B).data,I_ (B).valid,I_ (B).dirty] 83));have a7:=H_ (b_ d8 (.cells #[.string (B).data,I_ (B).valid,I_ (B).dirty] 83));rw [<-hY];generalize w14.alloc (.cells #[.string (B).data,I_ (B).valid,I_ (B).dirty] 83)=g7 at ab a9 aa a8 ac a7;have g8:X<Y:=O_
       clear hY cp b6 db d3 d7 dv cq cw dc d4 d8 fc eb;have b2:=ej.out;obtain ⟨z0,z1,z2,z3,z4,z5,z6,z7,z8,z9,za,zb,zc,zd,ze⟩:=zc (a7.block _ ch) b2;obtain ⟨x0,N,O,P,J,M,Q⟩:=aF a8.out;have an:=fun w'=>sQ y kt KB kc p hp w'
       simp only[Fl.v,Fl.rowT] at an
       cases h3:aC y p with
       | true=>
        rw [h3] at an;have b9:=H_ (show fB y p=gH by rw [ax.out,h3];rfl);clear h3
        go_upto_region 21 with (first
         | (go_at_call 137;refine CM (an _) ?_;rintro e w16 ⟨rfl,E⟩;have cz:=lJ ab E;have cs:=H_ (a9.step E);obtain ⟨cx,dd,d5,d9⟩:=iC aa a8 ac a7 E;clear E)
         | (go_at_call 138;refine CM (cm _) ?_;rintro e w17 ⟨rfl,au⟩;have b8:=lJ cz au;have ct:=H_ (cs.step au);obtain ⟨cy,de,d6,da⟩:=iC cx dd d5 d9 au;clear au)
         | (refine cV rfl 83 (.tmp 24) (.tmp 161) rfl rfl Y #[.string (gH).data,I_ (gH).valid,I_ (gH).dirty] rfl rfl 83 _ b8 dB rfl (eX) ?_))
        clear x0 N O P J M Q z0 z1 z2 z3 z4 z5 z6 z7 z8 z9 za zb zc zd ze an cm ax;have a5:=H_ (setRow_heap w17 Y _ #[.string (gH).data,I_ (gH).valid,I_ (gH).dirty] _ _ b8);have L:=H_ (ct.setRowX Y #[.string (gH).data,I_ (gH).valid,I_ (gH).dirty] (fun I=>I.2 rfl) O_);generalize hW9:w17.setRow Y #[.string (gH).data,I_ (gH).valid,I_ (gH).dirty]=fm at a5 L;have U:=srx hW9 cy;have bk:=srx hW9 de;have ad:=srx hW9 d6;have af:=srl hW9 da;clear hW9;clear ab a9 aa a8 ac a7 cz cs cx dd d5 d9 b8 ct cy de d6 da;have o1:=a_ U 1;have pp:=a5.out;have p0:=a_ pp 0;have p1:=a_ pp 1;have p2:=a_ pp 2;simp only[zl] at o1 p0 p1 p2;clear pp;have ai:=H_ (LW.there L.frames bv (p:=0) (n:=9) O_);rw [Nat.add_zero] at ai
        go_upto_region 22 with (first
         | (refine pF rfl 85 (.tmp 171) (.tmp 170) rfl m (i*9) (pC (j:Int) (p:Int) ((gH).data) ((gH).valid) ((gH).dirty) (t:Int) 0 0 0) rfl rfl ai lA (yB ⟨j,p,gH,t,0,0,0⟩) ?_)
         | fail)
        have R:=H_ (L.frame bv ⟨j,p,gH,t,0,0,0⟩);rw [show (⟨j,p,gH,t,0,0,0⟩:Fr).row=[I_ (j:Int),I_ (p:Int),.string (gH).data,I_ (gH).valid,I_ (gH).dirty,I_ (t:Int),I_ 0,I_ 0,I_ 0] from rfl] at R;generalize hW9:fm.setCells m (i*9) _=fn at R;have b7:=smx hW9 U;have ae:=smx hW9 ad;have bg:=sml hW9 af;clear hW9;clear o1 p0 p1 p2 ai L U bk ad af a5;obtain ⟨x0,N,O,P,J,M,Q⟩:=aF b7.out
        go_wp2_with (refine aJ rfl (.tmp 12) (.tmp 172) rfl rfl rfl rfl ae rfl ?_)
        show bodyPost prog f72 _ _ _ _
        refine bodyPost_ret (pI rfl rfl rfl rfl (setRow_heap _ _ _ _ _ _ ae)) rfl ?_;refine ⟨oP C j p t i y l gp (cA C.zones u k).1 (acB clk (D_ y.c p) l.act.length),_,_,_,_,_,_,_,_,_,.inr ⟨rfl,⟨HV.out,aw.out⟩,i,_,rfl,em.out,bd.out,rfl⟩,rfl,?_,j_ bg.out O_ _⟩;have bu:=((R.setRow (w+1) (E_ (o_ gf) nf cf (o_ m) nr cr Pz nz rz Pg ng rg (o_ q) nl cl (o_ gk) nk ck P7 n7 r7) (fun I=>(s1 _ (c9 _ I.1).1).2.2 rfl) O_).weak (aQ _) (fun z I=>(s1 z (c9 z I.1).1).1) (fun z I=>hS z O_)).at_;unfold oP;rw [b9.out];exact bu
       | false=>
        rw [h3] at an;have b9:=H_ (show fB y p=B by rw [ax.out,h3];rfl);clear h3
        go_upto_region 21 with (first
         | (go_at_call 137;refine CM (an _) ?_;rintro e w18 ⟨rfl,E⟩;have a5:=lJ ab E;have L:=H_ (a9.step E);obtain ⟨U,bk,ad,af⟩:=iC aa a8 ac a7 E;clear E))
        clear ab a9 aa a8 ac a7;clear x0 N O P J M Q z0 z1 z2 z3 z4 z5 z6 z7 z8 z9 za zb zc zd ze an cm ax;have o1:=a_ U 1;have pp:=a5.out;have p0:=a_ pp 0;have p1:=a_ pp 1;have p2:=a_ pp 2;simp only[zl] at o1 p0 p1 p2;clear pp;have ai:=H_ (LW.there L.frames bv (p:=0) (n:=9) O_);rw [Nat.add_zero] at ai
        go_upto_region 22 with (first
         | (refine pF rfl 85 (.tmp 171) (.tmp 170) rfl m (i*9) (pC (j:Int) (p:Int) ((B).data) ((B).valid) ((B).dirty) (t:Int) 0 0 0) rfl rfl ai lA (yB ⟨j,p,B,t,0,0,0⟩) ?_)
         | fail)
        have R:=H_ (L.frame bv ⟨j,p,B,t,0,0,0⟩);rw [show (⟨j,p,B,t,0,0,0⟩:Fr).row=[I_ (j:Int),I_ (p:Int),.string (B).data,I_ (B).valid,I_ (B).dirty,I_ (t:Int),I_ 0,I_ 0,I_ 0] from rfl] at R;generalize hW9:w18.setCells m (i*9) _=fn at R;have b7:=smx hW9 U;have ae:=smx hW9 ad;have bg:=sml hW9 af;clear hW9;clear o1 p0 p1 p2 ai L U bk ad af a5;obtain ⟨x0,N,O,P,J,M,Q⟩:=aF b7.out
        go_wp2_with (refine aJ rfl (.tmp 12) (.tmp 172) rfl rfl rfl rfl ae rfl ?_)
        show bodyPost prog f72 _ _ _ _
        refine bodyPost_ret (pI rfl rfl rfl rfl (setRow_heap _ _ _ _ _ _ ae)) rfl ?_;refine ⟨oP C j p t i y l gp (cA C.zones u k).1 (acB clk (D_ y.c p) l.act.length),_,_,_,_,_,_,_,_,_,.inr ⟨rfl,⟨HV.out,aw.out⟩,i,_,rfl,em.out,bd.out,rfl⟩,rfl,?_,j_ bg.out O_ _⟩;have bu:=((R.setRow (w+1) (E_ (o_ gf) nf cf (o_ m) nr cr Pz nz rz Pg ng rg (o_ q) nl cl (o_ gk) nk ck P7 n7 r7) (fun I=>(s1 _ (c9 _ I.1).1).2.2 rfl) O_).weak (aQ _) (fun z I=>(s1 z (c9 z I.1).1).1) (fun z I=>hS z O_)).at_;unfold oP;rw [b9.out];exact bu
   ·have d2:((cA C.zones u k).2.2 != 0)=true:=bne_iff_ne.2 ao;have bd:=H_ ao;clear ao
    go_wp2_with (refine aJ rfl (.tmp 12) (.tmp 91) rfl rfl rfl rfl bc rfl ?_)
    show bodyPost prog f72 _ _ _ _
    refine bodyPost_ret (pI rfl rfl rfl rfl (setRow_heap _ _ _ _ _ _ bc)) rfl ?_;exact ⟨C,_,_,_,_,_,_,_,_,_,.inl ⟨bd.out,rfl,.inr (.inr bd.out)⟩,rfl,(H.step (j_ bi.out O_ _)).weak (fun z _ I=>(s1 z I).1),j_ bi.out O_ _⟩
  ·have d1:((bB C.groups t gp 1).2 != 0)=true:=bne_iff_ne.2 am;have aw:=H_ am;clear am
   go_wp2_with (refine aJ rfl (.tmp 12) (.tmp 78) rfl rfl rfl rfl bb rfl ?_)
   show bodyPost prog f72 _ _ _ _
   refine bodyPost_ret (pI rfl rfl rfl rfl (setRow_heap _ _ _ _ _ _ bb)) rfl ?_;exact ⟨C,_,_,_,_,_,_,_,_,_,.inl ⟨aw.out,rfl,.inr (.inl aw.out)⟩,rfl,(H.step (j_ bh.out O_ _)).weak (fun z _ I=>(s1 z I).1),j_ bh.out O_ _⟩
 ·obtain ⟨i,x,f7,hU,fu⟩:=HI.findOk HJ.out p O_;have cj:∀w',q_ w w'->C_ 59 #[cI (S_ (some ⟨bf,of,none⟩) C.files.length ak) (S_ A2 m2 c2) (S_ A3 C.zones.length c3) (S_ A4 C.groups.length c4) (S_ A5 m5 c5) (S_ A6 m6 c6) (S_ A7 m7 c7),I_ j,I_ p] w' (fun e eh=>e = .returned (.tuple #[I_ ((i:Int)+1),.bool true])/\q_ w' eh):=fun w' hb=>by
   have:=ci w' hb;unfold eR wG at this;rw [if_neg hv,f7] at this;exact this
  have HV:=H_ (show 0<D_ y.c p by omega);clear ci hv f7 hU fu
  go_wp2_with (first | (go_at_call 59;refine CM (cj _ be) ?_;rintro e w2 ⟨rfl,br⟩;obtain ⟨bm,ay,az⟩:=bN cb e0 be br;clear br x0 N O P J M Q;obtain ⟨x0,N,O,P,J,M,Q⟩:=aF bm.out) | (refine aJ rfl (.tmp 12) (.tmp 68) rfl rfl rfl rfl ay.out rfl ?_))
  show bodyPost prog f72 _ _ _ _
  refine bodyPost_ret (pI rfl rfl rfl rfl (setRow_heap _ _ _ _ _ _ ay)) rfl ?_;exact ⟨C,_,_,_,_,_,_,_,_,_,.inl ⟨bX,rfl,.inl HV.out⟩,rfl,(H.step (j_ az.out O_ _)).weak (fun z _ I=>(s1 z I).1),j_ az.out O_ _⟩
end
section
def dk (D:List UInt8) (j p b:Nat):UInt8:=D.getD ((j*18+2+p*2)*8+b) 0
def mkO (m d:Int):Prop:=(0<=m/\m<=7)/\bits .andNot .i64 m 4=if d=0 then 0 else 1
structure Im (D:List UInt8) (e:Nat->Int) (C:Ck):Prop where
 inv:cE 2 1 1 C
 pts:C.ptes=[]
 clk:∀k ∈ C.clocks,k=0
 fr:∀(i:Nat) (x:Fr) (j:Nat) (y:Fl),dE C i x j y->pD (e j) (aC y x.page.toNat) (dk D j x.page.toNat) x/\mkO (y.c x.page.toNat).2 x.pg.dirty
 fl:∀(j:Nat) (y:Fl),C.files[j]?=some y->(y.dev=0/\y.slot=j/\y.ecnt=0/\y.eerr=0/\y.sblocks=0)/\∀p:Nat,p<8->e j<=(p:Int)*16->aC y p=true
 no:∀(i:Nat) (x:Fr),C.frames[i]?=some x->x.file=-1->x=eI
 free:∀(i:Nat) (x:Fr),C.frames[i]?=some x->x.file=-1->∃z ∈ C.zones,((i:Nat):Int)+1 ∈ z.free
 ls:∃l g,C.lists=[l]/\C.groups=[g]/\g.charge=((l.act ++ l.ina).length:Int)/\∀i:Nat,((i:Int)+1 ∈ l.act ++ l.ina↔∃x,C.frames[i]?=some x/\x.file≠-1)
theorem pD.congr {e:Int} {hl:Bool} {d d':Nat->UInt8} (h:pD e hl d x) (hd:∀b,b<16->d' b=d b):pD e hl d' x:=
 ⟨h.rd,h.wr,h.hole,h.lo,h.zero,fun hh b hb a c q=>by rw [hd b hb];exact h.img hh b hb a c q⟩
theorem eQ_:∀(m:Fin 8) (d:Bool),bits .andNot .i64 (if d then bits .andNot .i64 (bits .or .i64 (m.val:Int) 1) 2 else bits .andNot .i64 (bits .andNot .i64 (m.val:Int) 1) 2) 4=(if d then 1 else 0)/\0<=(if d then bits .andNot .i64 (bits .or .i64 (m.val:Int) 1) 2 else bits .andNot .i64 (bits .andNot .i64 (m.val:Int) 1) 2)/\(if d then bits .andNot .i64 (bits .or .i64 (m.val:Int) 1) 2 else bits .andNot .i64 (bits .andNot .i64 (m.val:Int) 1) 2)<=7:=by decide +kernel
theorem uK {p:Int} (hi:gG p=true) (hv:0<(c p.toNat).1) (d:Bool):((aT c p d false) p.toNat).2=if d then bits .andNot .i64 (bits .or .i64 (c p.toNat).2 1) 2 else bits .andNot .i64 (bits .andNot .i64 (c p.toNat).2 1) 2:=by
 have a:dH 1=true:=rfl;have b:dH 2=true:=rfl
 cases d
 ·unfold aT;simp only[Bool.false_eq_true,if_false];have h1:=dS hi a hv p.toNat;unfold aV;rw [if_pos (cJ hi a hv)];rw [if_pos (cJ hi b (by show 0<(upd c p.toNat _ p.toNat).1;unfold upd;rw [if_pos rfl];exact hv))];simp [upd]
 ·unfold aT;simp only[if_true,Bool.false_eq_true,if_false];unfold aV dJ;rw [if_pos (cJ hi a hv)];rw [if_pos (cJ hi b (by show 0<(upd c p.toNat _ p.toNat).1;unfold upd;rw [if_pos rfl];exact hv))];simp [upd]
theorem jJ {p:Int} (hi:gG p=true) (hv:0<(c p.toNat).1) (d:Bool) {q:Nat} (hq:q≠p.toNat):(aT c p d false) q=c q:=by
 have a:dH 1=true:=rfl;have b:dH 2=true:=rfl
 cases d
 ·unfold aT;simp only[Bool.false_eq_true,if_false];unfold aV;rw [if_pos (cJ hi a hv)];rw [if_pos (cJ hi b (by show 0<(upd c p.toNat _ p.toNat).1;unfold upd;rw [if_pos rfl];exact hv))];simp [upd,hq]
 ·unfold aT;simp only[if_true,Bool.false_eq_true,if_false];unfold aV dJ;rw [if_pos (cJ hi a hv)];rw [if_pos (cJ hi b (by show 0<(upd c p.toNat _ p.toNat).1;unfold upd;rw [if_pos rfl];exact hv))];simp [upd,hq]
theorem uL {p:Int} (hi:gG p=true) (hv:0<(c p.toNat).1) {d0:Int} (h:mkO (c p.toNat).2 d0) (d:Int):mkO ((aT c p (d != 0) false) p.toNat).2 d:=by
 rw [uK hi hv];have hf:=eQ_ ⟨(c p.toNat).2.toNat,by have:=h.1;omega⟩ (d != 0);rw [show (((⟨(c p.toNat).2.toNat,by have:=h.1;omega⟩:Fin 8).val:Nat):Int)=(c p.toNat).2 by have:=h.1;simp;omega] at hf;refine ⟨hf.2,hf.1.trans ?_⟩
 by_cases q:d=0
 ·subst q;rfl
 ·simp [q]
section
variable {D D':List UInt8} {e e':Nat->Int} {C C':Ck}
theorem Im.pgu (h:Im D e C) (hu:dE C i x j y):D_ y.c x.page=(i:Int)+1:=by
 obtain ⟨j0,y0,hu0,hv⟩:=h.inv.used hu.fr (by rw [hu.ix];omega);obtain ⟨_,rfl,rfl⟩:=hu.eq hu0;exact hv
theorem Im.apart (h:Im D e C) {i':Nat} (hu:dE C i x j y) (hu':dE C i' x' j y) (hne:i'≠i):x'.page.toNat≠x.page.toNat:=fun q=>by
 have h1:=h.pgu hu;have h2:=h.pgu hu';have:x'.page=x.page:=by have:=hu.ok.page;have:=hu'.ok.page;omega
 rw [this] at h2;omega
theorem Im.set (h:Im D e C) {i j:Nat} {x x':Fr} {y y2:Fl} (hu:dE C i x j y) (hI:cE 2 1 1 C') (hC1:C'.frames=C.frames.set i x') (hC2:C'.files=C.files.set j y2) (hC3:C'.zones=C.zones/\C'.groups=C.groups/\C'.lists=C.lists/\C'.clocks=C.clocks/\C'.ptes=[]) (h1:x'.file=x.file) (h2:x'.page=x.page)
  (ho:∀q:Nat,q≠x.page.toNat->y2.c q=y.c q) (hm:mkO (y2.c x.page.toNat).2 x'.pg.dirty)
  (hf:pD (e j) (aC y2 x.page.toNat) (dk D' j x.page.toNat) x') (hh:∀q:Nat,q<8->q≠x.page.toNat->aC y2 q=aC y q) (hst:y2.dev=y.dev/\y2.slot=y.slot/\y2.ecnt=y.ecnt/\y2.eerr=y.eerr/\y2.sblocks=y.sblocks)
  (hbe:e j<=x.page*16->aC y2 x.page.toNat=true) (hD:∀k q b:Nat,k≠j\/q≠x.page.toNat->q<8->b<16->C.files.length > k->dk D' k q b=dk D k q b):Im D' e C':=by
 have s:∀(k:Nat) (v:Fl),C'.files[k]?=some v->(k=j/\v=y2)\/(k≠j/\C.files[k]?=some v):=fun k v f=>by
  rw [hC2] at f
  by_cases q:k=j
  ·subst q;rw [w_ hu.fl] at f;exact .inl ⟨rfl,(aP f).symm⟩
  ·rw [gN_ (fun a=>q a.symm)] at f;exact .inr ⟨q,f⟩
 have n:∀(k:Nat) (v:Fr),C'.frames[k]?=some v->(k=i/\v=x')\/(k≠i/\C.frames[k]?=some v):=fun k v f=>by
  rw [hC1] at f
  by_cases q:k=i
  ·subst q;rw [w_ hu.fr] at f;exact .inl ⟨rfl,(aP f).symm⟩
  ·rw [gN_ (fun a=>q a.symm)] at f;exact .inr ⟨q,f⟩
 have o:x.file≠-1:=by rw [hu.ix];omega
 have t:∀{k:Nat} {v:Fl},C.files[k]?=some v->C.files.length > k:=fun f=>(bK f);obtain ⟨W,X,Y,Z,z5⟩:=hC3;refine ⟨hI,z5,by rw [Z];exact h.clk,fun k u B v d=>?_,fun k v m=>?_,fun k u m w=>?_,fun k u m w=>?_,?_⟩
 ·rcases n k u d.fr with ⟨rfl,rfl⟩ | ⟨hki,hku⟩
  ·have F:B=j:=by have:=d.ix;have:=hu.ix;omega
   subst F
   rcases s B v d.fl with ⟨_,rfl⟩ | ⟨hne,_⟩
   ·rw [h2];exact ⟨hf,hm⟩
   ·exact absurd rfl hne
  ·rcases s B v d.fl with ⟨rfl,rfl⟩ | ⟨hne,hkv⟩
   ·have A:dE C k u B y:=⟨hku,hu.fl,d.ix,d.ok⟩;have r:=h.apart hu A hki;obtain ⟨a1,a2⟩:=h.fr _ _ _ _ A;have z:u.page.toNat<8:=by have:=d.ok.page;omega
    rw [hh _ z r,ho _ r];exact ⟨a1.congr (fun b E=>hD _ _ _ (.inr r) z E (t hu.fl)),a2⟩
   ·obtain ⟨a1,a2⟩:=h.fr _ _ _ _ ⟨hku,hkv,d.ix,d.ok⟩;exact ⟨a1.congr (fun b E=>hD _ _ _ (.inl hne) (by have:=d.ok.page;omega) E (t hkv)),a2⟩
 ·rcases s k v m with ⟨rfl,rfl⟩ | ⟨hne,hkv⟩
  ·obtain ⟨⟨I,J,K,L,M⟩,N⟩:=h.fl _ _ hu.fl;obtain ⟨c1,c2,O,P,Q⟩:=hst;refine ⟨⟨c1.trans I,c2.trans J,O.trans K,P.trans L,Q.trans M⟩,fun p H G=>?_⟩
   by_cases q:p=x.page.toNat
   ·rw [q];refine hbe ?_;have:=hu.ok.page;omega
   ·rw [hh p H q];exact N p H G
  ·exact h.fl _ _ hkv
 ·rcases n k u m with ⟨rfl,rfl⟩ | ⟨_,hku⟩
  ·exact absurd (h1.symm.trans w) o
  ·exact h.no _ _ hku w
 ·rw [W]
  rcases n k u m with ⟨rfl,rfl⟩ | ⟨_,hku⟩
  ·exact absurd (h1.symm.trans w) o
  ·exact h.free _ _ hku w
 ·obtain ⟨l,g,R,S,U,V⟩:=h.ls;refine ⟨l,g,Y.trans R,X.trans S,U,fun k=>(V k).trans ?_⟩
  by_cases q:k=i
  ·subst q;exact ⟨fun _=>⟨x',by rw [hC1];exact w_ hu.fr,by rw [h1];exact o⟩,fun _=>⟨x,hu.fr,o⟩⟩
  ·exact ⟨fun ⟨u,a,b⟩=>⟨u,by rw [hC1];exact bY q a,b⟩,fun ⟨u,a,b⟩=>by
    rcases n k u a with ⟨rfl,_⟩ | ⟨_,hku⟩
    ·exact absurd rfl q
    ·exact ⟨u,hku,b⟩⟩
theorem Im.put (h:Im D e C) (hu:dE C i x j y) (hk:fE x') (h1:x'.file=x.file) (h2:x'.page=x.page) (h3:x'.tenant=x.tenant) (hf:pD (e j) (aC y x.page.toNat) (dk D j x.page.toNat) x'):Im D e (eY C i j y x'):=by
 have b:(x'.writing != 0)=false:=by rw [hf.wr];rfl
 obtain ⟨a,hv⟩:=eE (c:=y.c) (p:=x.page) (by rw [h.pgu hu];omega);refine h.set (y2:={y with c:=aT y.c x'.page (x'.pg.dirty != 0) (x'.writing != 0)}) hu (h.inv.put hu hk h1 h2 h3 rfl (h.inv.file j y hu.fl) C.ptes h.inv.pok) rfl rfl ⟨rfl,rfl,rfl,rfl,h.pts⟩ h1 h2 (fun q f=>?_) ?_ hf (fun q _ _=>rfl) ⟨rfl,rfl,rfl,rfl,rfl⟩ (fun d=>(h.fl _ _ hu.fl).2 _ (by have:=hu.ok.page;omega) (by have:=hu.ok.page;omega)) (fun _ _ _ _ _ _ _=>rfl)
 ·show aT y.c x'.page _ _ q=_
  rw [b,h2,jJ a hv _ f]
 ·show mkO (aT y.c x'.page _ _ x.page.toNat).2 _
  rw [b,h2];exact uL a hv (h.fr _ _ _ _ hu).2 _
theorem qA {l l':List Int} (h:l.Nodup) (h':l'.Nodup) (hm:∀n,n ∈ l↔n ∈ l'):l.length=l'.length:=((List.perm_ext_iff_of_nodup h h').2 hm).length_eq
theorem vD {a:Lr} (ok:eQ a) {f:Int}(n:Int):n ∈ (dP a f).act ++ (dP a f).ina↔n ∈ a.act ++ a.ina:=by
 unfold dP
 split
 ·rename_i hh
  have hf:f ∈ a.act ++ a.ina:=by simpa [eU] using hh
  split
  ·split
   ·rename_i hi
    simp only[List.mem_append,qJ,bL,List.mem_filter,bne_iff_ne]
    constructor
    ·rintro ((rfl | h) | ⟨h,_⟩)
     ·exact .inr hi
     ·exact .inl h
     ·exact .inr h
    ·rintro (h | h)
     ·exact .inl (.inr h)
     ·by_cases q:n=f
      ·exact .inl (.inl q)
      ·exact .inr ⟨h,q⟩
   ·exact Iff.rfl
  ·exact Iff.rfl
 ·exact Iff.rfl
theorem Im.acc (h:Im D e C) (hl:C.lists[t]?=some l):Im D e (zJ C t l i):=by
 obtain ⟨j,g,d,m,o,p⟩:=h.ls;have c:t=0/\l=j:=by
  rw [d] at hl
  match t,hl with
  | 0,hl=>exact ⟨rfl,(aP hl).symm⟩
  | t+1,hl=>simp at hl
 obtain ⟨c,b⟩:=c;subst c;subst b;have lok:=h.inv.lok 0 l hl;refine ⟨h.inv.acc hl,h.pts,h.clk,fun k u f v a=>h.fr k u f v ⟨a.fr,a.fl,a.ix,a.ok⟩,h.fl,h.no,h.free,dP l ((i:Int)+1),g,?_,m,?_,fun k=>(vD lok _).trans (p k)⟩
 ·show C.lists.set 0 _=_
  rw [d]
  rfl
 ·rw [o,qA lok.dup (lok.touch _).dup (fun n=>(vD lok n).symm)]
theorem Im.size (h:Im D e C) (hj:C.files[j]?=some y) {sz:Nat} (hs:sz<=128):Im D e {C with files:=C.files.set j {y with size:=(sz:Int)}}:=by
 have d:∀(k:Nat) (v:Fl),(C.files.set j {y with size:=(sz:Int)})[k]?=some v->∃u:Fl,C.files[k]?=some u/\u.c=v.c/\u.blocks=v.blocks/\u.dev=v.dev/\u.slot=v.slot/\u.ecnt=v.ecnt/\u.eerr=v.eerr/\u.sblocks=v.sblocks:=fun k v b=>by
  by_cases q:k=j
  ·subst q;rw [w_ hj] at b;obtain rfl:=aP b;exact ⟨y,hj,rfl,rfl,rfl,rfl,rfl,rfl,rfl⟩
  ·rw [gN_ (fun a=>q a.symm)] at b;exact ⟨v,b,rfl,rfl,rfl,rfl,rfl,rfl,rfl⟩
 have f:∀{u v:Fl} (p:Nat),u.blocks=v.blocks->aC v p=aC u p:=fun p E=>by unfold aC;rw [E]
 refine ⟨h.inv.size hj hs,h.pts,h.clk,fun i x k v g=>?_,fun k v b=>?_,h.no,h.free,h.ls⟩
 ·obtain ⟨u,a1,a2,a3,_⟩:=d k v g.fl;rw [f _ a3,<-a2];exact h.fr i x k u ⟨g.fr,a1,g.ix,g.ok⟩
 ·obtain ⟨u,a1,a2,a3,a4,m,n,o,r⟩:=d k v b;obtain ⟨⟨s,t,w,z,A⟩,B⟩:=h.fl k u a1;exact ⟨⟨a4 ▸ s,m ▸ t,n ▸ w,o ▸ z,r ▸ A⟩,fun p F l=>by rw [f p a3];exact B p F l⟩
theorem Im.ends (h:Im D e C) (hf:∀(i:Nat) (x:Fr) (j:Nat) (y:Fl),dE C i x j y->pD (e j) (aC y x.page.toNat) (dk D j x.page.toNat) x->pD (e' j) (aC y x.page.toNat) (dk D j x.page.toNat) x)
  (hb:∀(j:Nat) (y:Fl),C.files[j]?=some y->∀p:Nat,p<8->e' j<=(p:Int)*16->aC y p=true):Im D e' C:=
 ⟨h.inv,h.pts,h.clk,fun i x j y hu=>⟨hf i x j y hu (h.fr i x j y hu).1,(h.fr i x j y hu).2⟩,fun j y hj=>⟨(h.fl j y hj).1,hb j y hj⟩,h.no,h.free,h.ls⟩
end
end
section
theorem aj_:∀(b:Fin 256) (p q:Fin 8),((bits .and .i64 (bits .andNot .i64 (b.val:Int) (wrap64 (2 ^ p.val))) (wrap64 (2 ^ q.val)) == 0)=(decide (q=p)||(bits .and .i64 (b.val:Int) (wrap64 (2 ^ q.val)) == 0)))/\((bits .and .i64 (bits .or .i64 (b.val:Int) (wrap64 (2 ^ p.val))) (wrap64 (2 ^ q.val)) == 0)=(!decide (q=p)&&(bits .and .i64 (b.val:Int) (wrap64 (2 ^ q.val)) == 0))):=by decide +kernel
theorem jZ {y y':Fl} (hb:jN y.blocks) {q:Nat} (hp:p<8) (hq:q<8) (h:y'.blocks=bits .andNot .i64 y.blocks (wrap64 (2 ^ p))):aC y' q=(decide (q=p)||aC y q):=by
 have h1:0<=y.blocks/\y.blocks<=255:=hb;have:=(aj_ ⟨y.blocks.toNat,O_⟩ ⟨p,hp⟩ ⟨q,hq⟩).1;rw [show (((⟨y.blocks.toNat,O_⟩:Fin 256).val:Nat):Int)=y.blocks by simp;omega] at this;unfold aC;rw [h];refine this.trans ?_;simp [Fin.ext_iff]
theorem b7_ {y y':Fl} (hb:jN y.blocks) {p q:Nat} (hp:p<8) (hq:q<8) (h:y'.blocks=bits .or .i64 y.blocks (wrap64 (2 ^ p))):aC y' q=(!decide (q=p)&&aC y q):=by
 have h1:0<=y.blocks/\y.blocks<=255:=hb;have:=(aj_ ⟨y.blocks.toNat,O_⟩ ⟨p,hp⟩ ⟨q,hq⟩).2;rw [show (((⟨y.blocks.toNat,O_⟩:Fin 256).val:Nat):Int)=y.blocks by simp;omega] at this;unfold aC;rw [h];refine this.trans ?_;simp [Fin.ext_iff]
theorem pA {p:Int} (hp:gG p=true) {q:Nat} (hq:q≠p.toNat):(Z_ c p v).1 q=c q:=by
 unfold Z_;rw [if_pos hp];simp [upd,hq]
theorem dq_ {p:Int} (hp:gG p=true):(Z_ c p v).1 p.toNat=(v,0):=by
 unfold Z_;rw [if_pos hp];simp [upd]
section
variable {D D':List UInt8} {e e':Nat->Int} {C C':Ck}
theorem Im.file (h:Im D e C) {y':Fl} (hj:C.files[j]?=some y) (hI:cE 2 1 1 {C with files:=C.files.set j y'})
  (hq:∀(i:Nat) (x:Fr),dE C i x j y->aC y' x.page.toNat=aC y x.page.toNat/\(y'.c x.page.toNat).2=(y.c x.page.toNat).2)
  (hst:y'.dev=y.dev/\y'.slot=y.slot/\y'.ecnt=y.ecnt/\y'.eerr=y.eerr/\y'.sblocks=y.sblocks) (hbe:∀p:Nat,p<8->e j<=(p:Int)*16->aC y' p=true):Im D e {C with files:=C.files.set j y'}:=by
 have f:∀(k:Nat) (v:Fl),(C.files.set j y')[k]?=some v->(k=j/\v=y')\/(k≠j/\C.files[k]?=some v):=fun k v d=>by
  by_cases q:k=j
  ·subst q;rw [w_ hj] at d;exact .inl ⟨rfl,(aP d).symm⟩
  ·rw [gN_ (fun a=>q a.symm)] at d;exact .inr ⟨q,d⟩
 refine ⟨hI,h.pts,h.clk,fun i x k v b=>?_,fun k v d=>?_,h.no,h.free,h.ls⟩
 ·rcases f k v b.fl with ⟨rfl,rfl⟩ | ⟨_,hkv⟩
  ·have g:dE C i x k y:=⟨b.fr,hj,b.ix,b.ok⟩;obtain ⟨a1,a2⟩:=hq i x g;rw [a1,a2];exact h.fr i x k y g
  ·exact h.fr i x k v ⟨b.fr,hkv,b.ix,b.ok⟩
 ·rcases f k v d with ⟨rfl,rfl⟩ | ⟨_,hkv⟩
  ·obtain ⟨⟨l,m,n,o,r⟩,w⟩:=h.fl _ _ hj;obtain ⟨c1,c2,s,t,u⟩:=hst;exact ⟨⟨c1.trans l,c2.trans m,s.trans n,t.trans o,u.trans r⟩,hbe⟩
  ·exact h.fl _ _ hkv
theorem Im.unset (h:Im D e C) (hj:C.files[j]?=some y) (hp:p<8) (hv:D_ y.c p<=0):Im D e {C with files:=C.files.set j {y with c:=(Z_ y.c p 0).1,blocks:=bits .andNot .i64 y.blocks (wrap64 (2 ^ p))}}:=by
 have a:=(h.inv.file j y hj).st.1;have k:gG (p:Int)=true:=by unfold gG;simp;omega
 refine h.file hj (h.inv.unset hj hp hv _ (a.andNot _)) (fun i x f=>?_) ⟨rfl,rfl,rfl,rfl,rfl⟩ (fun q g d=>?_)
 ·have b:x.page.toNat≠p:=fun q=>by
   have h1:=h.pgu f;have:x.page=(p:Int):=by have:=f.ok.page;omega
   rw [this] at h1;omega
  refine ⟨?_,?_⟩
  ·rw [jZ (y:=y) a hp (by have:=f.ok.page;omega) rfl];simp [b]
  ·show ((Z_ y.c p 0).1 x.page.toNat).2=_
   rw [pA k (by simpa using b)]
 ·rw [jZ (y:=y) a hp g rfl,(h.fl _ _ hj).2 q g d];simp
theorem sV {α:Type} {L:List α} {a b:α} (h:L=[a]) (ht:L[t]?=some b):t=0/\b=a:=by
 rw [h] at ht
 match t,ht with
 | 0,ht=>exact ⟨rfl,(aP ht).symm⟩
 | t+1,ht=>simp at ht
theorem Im.gone (h:Im D e C) {z:Zn} (hu:dE C i x j y) (hg:zD C i t k x l gp z) (hxp:x.page=(p:Int)):Im D e {mF C i j t k x y l gp z 0 with files:=(mF C i j t k x y l gp z 0).files.set j {({y with c:=(Z_ y.c x.page 0).1}:Fl) with blocks:=bits .andNot .i64 y.blocks (wrap64 (2 ^ p))}}:=by
 have A:=(h.inv.file j y hu.fl).st.1;have hB:=mI hu.ok;have G:p<8:=by have:=hu.ok.page;omega
 have a3:x.page.toNat=p:=O_
 have P:x.file≠-1:=by rw [hu.ix];omega
 have J:=(h.inv.gone hu hg (Int.le_refl 0) C.clocks h.inv.nk).blocks (w_ hu.fl) (bits .andNot .i64 y.blocks (wrap64 (2 ^ p))) (A.andNot _);have E:∀(k:Nat) (v:Fl),((C.files.set j {y with c:=(Z_ y.c x.page 0).1}).set j {({y with c:=(Z_ y.c x.page 0).1}:Fl) with blocks:=bits .andNot .i64 y.blocks (wrap64 (2 ^ p))})[k]?=some v->(k=j/\v={({y with c:=(Z_ y.c x.page 0).1}:Fl) with blocks:=bits .andNot .i64 y.blocks (wrap64 (2 ^ p))})\/(k≠j/\C.files[k]?=some v):=fun k v w=>by
  rw [List.set_set] at w
  by_cases q:k=j
  ·subst q;rw [w_ hu.fl] at w;exact .inl ⟨rfl,(aP w).symm⟩
  ·rw [gN_ (fun a=>q a.symm)] at w;exact .inr ⟨q,w⟩
 have o:∀(k:Nat) (v:Fr),(C.frames.set i eI)[k]?=some v->(k=i/\v=eI)\/(k≠i/\C.frames[k]?=some v):=fun k v w=>by
  by_cases q:k=i
  ·subst q;rw [w_ hu.fr] at w;exact .inl ⟨rfl,(aP w).symm⟩
  ·rw [gN_ (fun a=>q a.symm)] at w;exact .inr ⟨q,w⟩
 obtain ⟨l0,g,W,X,q3,Y⟩:=h.ls;obtain ⟨ht,L⟩:=sV W hg.lst;subst ht;subst L;obtain ⟨_,K⟩:=sV X hg.grp;subst K;have F:(i:Int)+1 ∈ l.act ++ l.ina:=(Y i).2 ⟨x,hu.fr,P⟩;have lok:=hg.lok;refine ⟨J,?_,h.clk,fun f u R v d=>?_,fun f v r=>?_,fun f u r N=>?_,fun f u r N=>?_,?_⟩
 ·show gB C.ptes _=[]
  rw [h.pts]
  rfl
 ·rcases o f u d.fr with ⟨_,rfl⟩ | ⟨hki,hku⟩
  ·have h1:(-1:Int)=(R:Int):=d.ix;omega
  ·rcases E R v d.fl with ⟨rfl,rfl⟩ | ⟨_,hkv⟩
   ·have H:dE C f u R y:=⟨hku,hu.fl,d.ix,d.ok⟩;have B:=h.apart hu H hki;have O:u.page.toNat<8:=by have:=d.ok.page;omega
    obtain ⟨a1,a2⟩:=h.fr _ _ _ _ H;refine ⟨?_,?_⟩
    ·rw [jZ (y:=y) A G O rfl,show decide (u.page.toNat=p)=false from dF (fun q=>B O_)];exact a1
    ·show mkO ((Z_ y.c x.page 0).1 u.page.toNat).2 _
     rw [pA hB B];exact a2
   ·exact h.fr _ _ _ _ ⟨hku,hkv,d.ix,d.ok⟩
 ·rcases E f v r with ⟨rfl,rfl⟩ | ⟨_,hkv⟩
  ·obtain ⟨b0,b6⟩:=h.fl _ _ hu.fl;refine ⟨b0,fun q V M=>?_⟩;rw [jZ (y:=y) A G V rfl,b6 q V M];simp
  ·exact h.fl _ _ hkv
 ·rcases o f u r with ⟨_,rfl⟩ | ⟨_,hku⟩
  ·rfl
  ·exact h.no _ _ hku N
 ·show ∃z' ∈ C.zones.set k {z with free:=dQ z.free ((i:Int)+1)},_
  have a0:=bK hg.zon
  rcases o f u r with ⟨rfl,_⟩ | ⟨_,hku⟩
  ·exact ⟨_,fF (w_ hg.zon),iQ.2 (.inl rfl)⟩
  ·obtain ⟨Z,Q,I⟩:=h.free _ _ hku N;obtain ⟨m,U⟩:=List.getElem?_of_mem Q
   by_cases q:m=k
   ·subst q;obtain rfl:Z=z:=aP (U.symm.trans hg.zon);exact ⟨_,fF (w_ hg.zon),iQ.2 (.inr I)⟩
   ·exact ⟨Z,fF (bY q U),I⟩
 ·have hh:eU l ((i:Int)+1)=true:=by simpa [eU] using F
  have s:∀n,n ∈ (iY l ((i:Int)+1)).act ++ (iY l ((i:Int)+1)).ina↔n ∈ l.act ++ l.ina/\n≠(i:Int)+1:=fun n=>by
   unfold iY;rw [if_pos hh];simp only[bL,List.mem_append,List.mem_filter,bne_iff_ne]
   constructor
   ·rintro (⟨a,b⟩ | ⟨a,b⟩)
    ·exact ⟨.inl a,b⟩
    ·exact ⟨.inr a,b⟩
   ·rintro ⟨a | a,b⟩
    ·exact .inl ⟨a,b⟩
    ·exact .inr ⟨a,b⟩
  have S:(l.act ++ l.ina).length=((iY l ((i:Int)+1)).act ++ (iY l ((i:Int)+1)).ina).length+1:=by
   refine qA (l':=((i:Int)+1) :: ((iY l ((i:Int)+1)).act ++ (iY l ((i:Int)+1)).ina)) lok.dup (List.nodup_cons.2 ⟨fun a=>((s _).1 a).2 rfl,(lok.rem _).dup⟩) (fun n=>?_);rw [qJ,s]
   constructor
   ·intro a
    by_cases q:n=(i:Int)+1
    ·exact .inl q
    ·exact .inr ⟨a,q⟩
   ·rintro (rfl | a)
    ·exact F
    ·exact a.1
  refine ⟨iY l ((i:Int)+1),{gp with charge:=gp.charge - 1},?_,?_,?_,fun f=>?_⟩
  ·show C.lists.set 0 _=_
   rw [W]
   rfl
  ·show (bZ C.groups 0 gp 1).1=_
   unfold bZ;rw [if_neg O_,X]
   rfl
  ·show gp.charge - 1=_
   omega
  ·rw [s,Y f]
   show _↔∃u,(C.frames.set i eI)[f]?=some u/\_
   by_cases q:f=i
   ·subst q;refine ⟨fun a=>absurd rfl a.2,fun ⟨u,a,b⟩=>?_⟩
    rcases o f u a with ⟨_,rfl⟩ | ⟨hne,_⟩
    ·exact absurd rfl b
    ·exact absurd rfl hne
   ·refine ⟨fun ⟨⟨u,a,b⟩,_⟩=>⟨u,bY q a,b⟩,fun ⟨u,a,b⟩=>?_⟩
    rcases o f u a with ⟨rfl,_⟩ | ⟨_,hku⟩
    ·exact absurd rfl q
    ·exact ⟨⟨u,hku,b⟩,O_⟩
theorem Im.ins (h:Im D e C) {ac:Bool} (hj:C.files[j]?=some y) (hp:p<8) (hl:C.lists[0]?=some l) (hgp:C.groups[0]?=some gp) (hno:D_ y.c p<=0) (hch:(bB C.groups 0 gp 1).2=0) (hz1:(cA C.zones u k).2.1=(i:Int)+1) (hz2:(cA C.zones u k).2.2=0) (hI:cE 2 1 1 (oP C j p 0 i y l gp (cA C.zones u k).1 ac)):Im D e (oP C j p 0 i y l gp (cA C.zones u k).1 ac):=by
 have Z:gG (p:Int)=true:=by unfold gG;simp;omega
 obtain ⟨m,z,V,S,hT⟩:=vC h.inv.zok hz2;rw [hT] at hz1;obtain ⟨L,Y,r⟩:∃L Y,z.free=L :: Y:=by
  cases hf:z.free with
  | nil=>exact absurd hf S
  | cons a b=>exact ⟨a,b,rfl⟩
 have a0:L=(i:Int)+1:=by
  have h1:z.free.headD 0=(i:Int)+1:=hz1;rw [r] at h1;exact h1
 obtain ⟨f,x0,b1,M,b3⟩:=h.inv.free m z V L (by rw [r];exact .head _);obtain rfl:f=i:=O_
 obtain ⟨l0,g,q1,q2,q3,q4⟩:=h.ls;obtain ⟨_,R⟩:=sV q1 hl;subst R;obtain ⟨_,P⟩:=sV q2 hgp;subst P;have J:¬((f:Int)+1 ∈ l.act ++ l.ina):=fun a=>by
  obtain ⟨x,c1,c2⟩:=(q4 f).1 a;obtain rfl:x=x0:=aP (c1.symm.trans M);exact c2 b3
 have B:∀(k:Nat) (v:Fl),(C.files.set j {y with c:=(Z_ y.c p ((f:Int)+1)).1})[k]?=some v->(k=j/\v={y with c:=(Z_ y.c p ((f:Int)+1)).1})\/(k≠j/\C.files[k]?=some v):=fun k v A=>by
  by_cases q:k=j
  ·subst q;rw [w_ hj] at A;exact .inl ⟨rfl,(aP A).symm⟩
  ·rw [gN_ (fun a=>q a.symm)] at A;exact .inr ⟨q,A⟩
 have t:∀(k:Nat) (v:Fr),(C.frames.set f ⟨j,p,fB y p,((0:Nat):Int),0,0,0⟩)[k]?=some v->(k=f/\v=⟨j,p,fB y p,((0:Nat):Int),0,0,0⟩)\/(k≠f/\C.frames[k]?=some v):=fun k v A=>by
  by_cases q:k=f
  ·subst q;rw [w_ M] at A;exact .inl ⟨rfl,(aP A).symm⟩
  ·rw [gN_ (fun a=>q a.symm)] at A;exact .inr ⟨q,A⟩
 refine ⟨hI,h.pts,h.clk,fun o v F w d=>?_,fun o w s=>?_,fun o v s I=>?_,fun o v s I=>?_,?_⟩
 ·rcases t o v d.fr with ⟨rfl,rfl⟩ | ⟨hki,hku⟩
  ·have Q:F=j:=by have h1:(j:Int)=(F:Int):=d.ix;omega
   subst Q
   rcases B F w d.fl with ⟨_,rfl⟩ | ⟨hx,_⟩
   ·refine ⟨?_,?_⟩
    ·have U:((⟨F,p,fB y p,((0:Nat):Int),0,0,0⟩:Fr).page).toNat=p:=z_
     rw [U];refine pD.new p _ _ _ ?_
     show aC y p=true/\_\/aC y p=false/\_
     unfold fB
     cases aC y p
     ·exact .inr ⟨rfl,rfl⟩
     ·exact .inl ⟨rfl,rfl⟩
    ·show mkO ((Z_ y.c p ((o:Int)+1)).1 ((p:Int)).toNat).2 (fB y p).dirty
     rw [dq_ Z];have:(fB y p).dirty=0:=by unfold fB;split <;> rfl
     rw [this];exact ⟨⟨by show (0:Int)<=0;omega,by show (0:Int)<=7;omega⟩,by show bits .andNot .i64 0 4=if (0:Int)=0 then 0 else 1;decide⟩
   ·exact absurd rfl hx
  ·rcases B F w d.fl with ⟨rfl,rfl⟩ | ⟨_,hkv⟩
   ·have K:dE C o v F y:=⟨hku,hj,d.ix,d.ok⟩;have N:v.page.toNat≠((p:Int)).toNat:=fun q=>by
     have h1:=h.pgu K;have:v.page=(p:Int):=by have:=d.ok.page;omega
     rw [this] at h1;omega
    obtain ⟨a1,a2⟩:=h.fr _ _ _ _ K;refine ⟨a1,?_⟩
    show mkO ((Z_ y.c p ((f:Int)+1)).1 v.page.toNat).2 _
    rw [pA Z N];exact a2
   ·exact h.fr _ _ _ _ ⟨hku,hkv,d.ix,d.ok⟩
 ·rcases B o w s with ⟨rfl,rfl⟩ | ⟨_,hkv⟩
  ·exact h.fl o y hj
  ·exact h.fl _ _ hkv
 ·rcases t o v s with ⟨_,rfl⟩ | ⟨_,hku⟩
  ·have h1:(j:Int)=-1:=I;omega
  ·exact h.no _ _ hku I
 ·show ∃z' ∈ (cA C.zones u k).1,_
  rw [hT]
  rcases t o v s with ⟨_,rfl⟩ | ⟨hki,hku⟩
  ·have h1:(j:Int)=-1:=I;omega
  ·obtain ⟨X,W,E⟩:=h.free _ _ hku I;obtain ⟨m0,hm⟩:=List.getElem?_of_mem W
   by_cases q:m0=m
   ·subst q;obtain rfl:X=z:=aP (hm.symm.trans V);refine ⟨_,fF (w_ V),?_⟩
    show (o:Int)+1 ∈ X.free.drop 1
    rw [r] at E ⊢
    rcases List.mem_cons.1 E with a | a
    ·omega
    ·exact a
   ·exact ⟨X,fF (bY q hm),E⟩
 ·have hh:eU l ((f:Int)+1)=false:=by simpa [eU] using J
  have G:∀n,n ∈ (jD l ((f:Int)+1) ac).act ++ (jD l ((f:Int)+1) ac).ina↔n=(f:Int)+1\/n ∈ l.act ++ l.ina:=fun n=>by
   unfold jD;rw [hh]
   cases ac
   ·simp only[Bool.false_eq_true,if_false,List.mem_append,qJ]
    constructor
    ·rintro (a | a | a)
     ·exact .inr (.inl a)
     ·exact .inl a
     ·exact .inr (.inr a)
    ·rintro (a | a | a)
     ·exact .inr (.inl a)
     ·exact .inl a
     ·exact .inr (.inr a)
   ·simp only[Bool.false_eq_true,if_false,if_true,List.mem_append,qJ]
    constructor
    ·rintro ((a | a) | a)
     ·exact .inl a
     ·exact .inr (.inl a)
     ·exact .inr (.inr a)
    ·rintro (a | a | a)
     ·exact .inl (.inl a)
     ·exact .inl (.inr a)
     ·exact .inr a
  have H:((jD l ((f:Int)+1) ac).act ++ (jD l ((f:Int)+1) ac).ina).length=(l.act ++ l.ina).length+1:=by
   unfold jD;rw [hh]
   cases ac <;> simp <;> omega
  have O:¬(gp.limit - gp.charge<1):=fun a=>by
   unfold bB at hch;rw [if_pos a] at hch;have hch:(3:Int)=0:=hch;omega
  refine ⟨jD l ((f:Int)+1) ac,{gp with charge:=gp.charge+1},?_,?_,?_,fun o=>?_⟩
  ·show C.lists.set 0 _=_
   rw [q1]
   rfl
  ·show (bB C.groups 0 gp 1).1=_
   unfold bB;rw [if_neg O,q2]
   rfl
  ·show gp.charge+1=_
   rw [H];omega
  ·rw [G,q4 o]
   show _↔∃v,(C.frames.set f _)[o]?=some v/\_
   by_cases q:o=f
   ·subst q;exact ⟨fun _=>⟨_,w_ M,by show (j:Int)≠-1;omega⟩,fun _=> .inl rfl⟩
   ·refine ⟨fun a=>?_,fun ⟨v,a,b⟩=>?_⟩
    ·rcases a with a | ⟨v,a,b⟩
     ·omega
     ·exact ⟨v,bY q a,b⟩
    ·rcases t o v a with ⟨rfl,_⟩ | ⟨_,hku⟩
     ·exact absurd rfl q
     ·exact .inr ⟨v,hku,b⟩
end
end
section
def upE (e:Nat->Int) (j:Nat) (n:Int) (k:Nat):Int:=if k=j then n else e k
theorem kM (e:Nat->Int) (j:Nat) (n:Int):upE e j n j=n:=if_pos rfl
theorem kL {e:Nat->Int} (h:k≠j):upE e j n k=e k:=if_neg h
theorem qF (s:Int):0<=xB s/\xB s<=3:=by unfold xB;split <;> omega
theorem iS_ {s:Int} {b:Nat} (hs:0<=s) (hb:b<16) (h:s % 16<=(b:Int)):bt (xB s) (b / 8)=true:=by
 unfold xB
 split
 ·obtain q | q:b / 8=0\/b / 8=1:=O_
  all_goals rw [q];decide
 ·rw [show b / 8=1 by omega];decide
section
variable {D D':List UInt8} {e e':Nat->Int} {C C' C0:Ck}
theorem Im.nonneg (h:Im D e C) (hs:Szs e C) (hj:C.files[j]?=some y):∃sz:Nat,y.size=sz/\e j=sz/\sz<=128:=by
 obtain ⟨sz,a,b⟩:=(h.inv.file j y hj).size;exact ⟨sz,a,(hs j y hj).symm.trans a,b⟩
theorem Im.up (h:Im D e C) (hj:C.files[j]?=some y) (h0:0<=e j) (hle:e j<=en)
  (ht:∀(i:Nat) (x:Fr),dE C i x j y->aC y x.page.toNat=false->x.page=e j / 16->e j % 16≠0->e j<en->∀b:Nat,b<16->e j % 16<=(b:Int)->bt x.pg.valid (b / 8)=true->bt x.pg.dirty (b / 8)=true):Im D (upE e j en) C:=by
 refine h.ends (fun i x k v f hf=>?_) (fun k v l p d c=>?_)
 ·by_cases q:k=j
  ·subst q;obtain rfl:v=y:=aP (f.fl.symm.trans hj);rw [kM];refine hf.grow hle (fun g b m h1 h2 hv=>?_);have d:=f.ok.page;have n:¬(e k<=(x.page.toNat:Int)*16):=fun a=>by
    have:=(h.fl _ _ hj).2 x.page.toNat O_ a;rw [g] at this
    cases this
   exact ht i x f g O_ O_ O_ b m O_ hv
  ·rw [kL q];exact hf
 ·by_cases q:k=j
  ·subst q;rw [kM] at c;exact (h.fl _ _ l).2 p d O_
  ·rw [kL q] at c;exact (h.fl _ _ l).2 p d c
theorem Im.soiled (h:Im D e C) (hs:Szs e C) (hj:C.files[j]?=some y) (hx:SoX C j y en C'):Im D (upE e j (max (e j) en)) C'/\nJ C C':=by
 obtain ⟨sz,a1,a2,a3⟩:=h.nonneg hs hj
 rcases hx with ⟨rfl,hno⟩ | ⟨i,x,a,⟨g,hm0⟩,hxp,hv,rfl⟩
 ·refine ⟨h.up hj O_ O_ (fun i x a B r F g b A n hv=>?_),.refl _⟩;rw [a2] at r F g;rw [a1] at hno
  rcases hno with hno | hno | hno
  ·omega
  ·omega
  ·rw [<-r,B] at hno
   cases hno
 ·have r:=a.ok.page;have p:x.page*16<e j:=O_
  obtain ⟨G,I⟩:=h.fr _ _ _ _ a;have k:fE ⟨x.file,x.page,aK x.pg (xB y.size),x.tenant,x.holds,x.reading,x.writing⟩:=⟨a.ok.page,a.ok.tenant,mQ a.ok.pg (qF _),a.ok.holds,a.ok.reading,a.ok.writing⟩;have h2:=h.put a k rfl rfl rfl (G.soil a.ok (qF y.size) p);have f:(eY C i j y ⟨x.file,x.page,aK x.pg (xB y.size),x.tenant,x.holds,x.reading,x.writing⟩).files[j]?=some {y with c:=aT y.c x.page ((aK x.pg (xB y.size)).dirty != 0) (x.writing != 0)}:=w_ hj
  refine ⟨h2.up f O_ O_ (fun z x' l B H F E b A n t=>?_),nJ.set hj rfl rfl⟩;have o:z=i:=by
   refine Classical.byContradiction fun q=>?_;have s:dE (eY C i j y ⟨x.file,x.page,aK x.pg (xB y.size),x.tenant,x.holds,x.reading,x.writing⟩) i ⟨x.file,x.page,aK x.pg (xB y.size),x.tenant,x.holds,x.reading,x.writing⟩ j {y with c:=aT y.c x.page ((aK x.pg (xB y.size)).dirty != 0) (x.writing != 0)}:=⟨w_ a.fr,f,a.ix,k⟩
   have m:=h2.apart s l q;have h3:x'.page.toNat≠x.page.toNat:=m;omega
  subst o;have w:(eY C z j y ⟨x.file,x.page,aK x.pg (xB y.size),x.tenant,x.holds,x.reading,x.writing⟩).frames[z]?=some ⟨x.file,x.page,aK x.pg (xB y.size),x.tenant,x.holds,x.reading,x.writing⟩:=w_ a.fr;obtain rfl:=aP (l.fr.symm.trans w);have u:bt x.pg.valid (b / 8)=true:=t
  show bt (bits .or .i64 x.pg.dirty (bits .and .i64 (xB y.size) x.pg.valid)) (b / 8)=true
  rw [tP a.ok.pg.d (jC_ (qF _) a.ok.pg.v) O_,d1_ (qF _) a.ok.pg.v O_,u,iS_ O_ A O_];simp
def Unw (off n j k:Nat) (C:Ck):Prop:=∃y,C.files[j]?=some y/\∀(m:Nat) (p:Int),k<=m->(W_ off n)[m]?=some p->kU C j y off n true p
theorem wT {n m:Nat} {p:Int} (h:(W_ off n)[m]?=some p):p=((off / 16+m:Nat):Int):=by
 unfold W_ zA at h;rw [gP_] at h
 cases hr:(List.range ((off+n+15) / 16 - off / 16))[m]? with
 | none=>rw [hr] at h;cases h
 | some q=>
  rw [hr] at h;obtain ⟨a,rfl⟩:=List.getElem?_eq_some_iff.1 hr;have:=aP h;rw [<-this];simp
theorem e5_ {p off:Int} {a c:Nat} (h:bD p off n=((a:Int),(c:Int))):p*16+(a:Int)+(c:Int)<=off+n:=by
 unfold bD at h;have h1:=congrArg Prod.fst h;have h2:=congrArg Prod.snd h
 dsimp only at h1 h2
 omega
theorem Im.puts {n:Nat} {s:ByteArray} (hn:s.size=n) (h:Im D e C0) (he:(off:Int)+(n:Int)<=e j) (hw:Unw off n j 0 C0):∀{k:Nat} {C:Ck},xK off n s j C0 k C->Im D e C/\nJ C0 C/\Unw off n j k C:=by
 intro k C Q
 induction Q with
 | zero=>exact ⟨h,.refl _,hw⟩
 | @step k i t at' fr ct C x x' y l p hpre hpl hu hxp yX hdr hl hpt hx' ih=>
  obtain ⟨a,B,d,A,r⟩:=ih;obtain rfl:d=y:=aP (A.symm.trans hu.fl);obtain ⟨g,F,M,N,O⟩:=hpt;obtain ⟨H,b,W,L,X,E⟩:=r k p (aQ _) hpl;obtain rfl:H=i:=O_
  obtain rfl:b=x:=aP (L.fr.symm.trans hu.fr);rw [g] at E;have o:(s.extract fr (fr+ct)).size=ct:=by rw [bE_];omega
  have z:fE x':=by
   rw [hx'];exact ⟨hu.ok.page,hu.ok.tenant,kP hu.ok.pg O_,hu.ok.holds,hu.ok.reading,hu.ok.writing⟩
  have v:pD (e j) (aC d b.page.toNat) (dk D j b.page.toNat) x':=by
   rw [hx'];refine (a.fr _ _ _ _ hu).1.write hu.ok O_ O_ (by rw [o];exact E) ?_;have:=e5_ g;rw [o,hxp];omega
  have h3:=a.put hu z (by rw [hx']) (by rw [hx']) (by rw [hx']) v;refine ⟨h3.acc hl,B.trans (nJ.set hu.fl rfl rfl),{d with c:=aT d.c x'.page (x'.pg.dirty != 0) (x'.writing != 0)},w_ hu.fl,fun m J Y f=>?_⟩
  obtain ⟨I,K,S,u,U,V⟩:=r m J O_ f;have R:=wT hpl;have G:=wT f;have w:I≠H:=fun q=>by
   subst q;obtain rfl:K=b:=aP (u.fr.symm.trans hu.fr);omega
  obtain ⟨P,hv⟩:=eE (c:=d.c) (p:=b.page) (by rw [a.pgu hu];omega);refine ⟨I,K,?_,⟨bY w u.fr,w_ hu.fl,u.ix,u.ok⟩,U,V⟩
  show D_ (aT d.c x'.page _ _) J=_
  rw [show x'.page=b.page by rw [hx'],dG P hv];exact S
def Ig (D:List UInt8) (C:Ck):Prop:=∃e,Im D e C/\Szs e C
theorem Szs.up (hs:Szs e C) (hj:C.files[j]?=some y):Szs (upE e j n) {C with files:=C.files.set j {y with size:=n}}:=fun k v hk=>by
 have hk:(C.files.set j {y with size:=n})[k]?=some v:=hk
 by_cases q:k=j
 ·subst q;rw [w_ hj] at hk;rw [<-aP hk,kM]
 ·rw [gN_ (fun a=>q a.symm)] at hk;rw [kL q];exact hs k v hk
theorem Ig.write (h:Ig D C) {s:ByteArray} (hj:C.files[j]?=some y) (hsz:y.size=sz) (h1:1<=s.size) (h2:off+s.size<=128) (hw:WrP 2 1 1 C j off s.size s sz y C' err):Ig D C':=by
 obtain ⟨e,n,o⟩:=h;obtain ⟨_,_,z,A⟩:=hw
 by_cases G:err=0
 ·obtain ⟨I,J,t,⟨d,f⟩,a,hf,rfl⟩:=z G;obtain ⟨k,a1,a2,a3⟩:=n.nonneg o hj;obtain ⟨h3,L⟩:=n.soiled o hj d;have g:Unw off s.size j 0 I:=by
   rcases d with ⟨rfl,_⟩ | ⟨i,x,hu,_,hxp,hv,rfl⟩
   ·exact ⟨y,hj,fun m p _ w=>f p (fF w)⟩
   ·refine ⟨_,w_ hj,fun m p _ w=>?_⟩;obtain ⟨r,x',K,l,E,F⟩:=f p (fF w);obtain ⟨O,hc⟩:=eE (c:=y.c) (p:=x.page) (by rw [n.pgu hu];omega);have H:D_ (aT y.c x.page ((aK x.pg (xB y.size)).dirty != 0) (x.writing != 0)) p=(r:Int)+1:=by rw [dG O hc];exact K
    by_cases q:r=i
    ·subst q;obtain rfl:x'=x:=aP (l.fr.symm.trans hu.fr);exact ⟨r,_,H,⟨w_ hu.fr,w_ hj,hu.ix,⟨hu.ok.page,hu.ok.tenant,mQ hu.ok.pg (qF _),hu.ok.holds,hu.ok.reading,hu.ok.writing⟩⟩,E,F⟩
    ·exact ⟨r,x',H,⟨bY q l.fr,w_ hj,l.ix,l.ok⟩,E,F⟩
  obtain ⟨M,N,_⟩:=h3.puts rfl (by rw [kM];omega) g a;have b:Szs e J:=(o.of L).of N;have B:t.size=e j:=b j t hf;have v:max t.size ((off:Int)+((s.size:Nat):Int))=((max k (off+s.size):Nat):Int):=O_
  refine ⟨upE e j (max t.size ((off:Int)+((s.size:Nat):Int))),?_,b.up hf⟩;have u:=M.size hf (sz:=max k (off+s.size)) O_;rw [<-v] at u;rw [B] at u ⊢;exact u
 ·rw [A G];exact ⟨e,n,o⟩
theorem Ig.ins (h:Ig D C) (hj:C.files[j]?=some y) (hp:p<8) (hl:C.lists[0]?=some l) (hg:C.groups[0]?=some gp) (hi:InP C j p 0 k u y l gp C' n err):Ig D C':=by
 obtain ⟨e,a,b⟩:=h;have hinv:=(hi.inv a.inv hj hp O_ hl hg).1
 rcases hi with ⟨_,rfl,_⟩ | ⟨_,⟨hno,hch⟩,i,ac,_,hz1,hz2,rfl⟩
 ·exact ⟨e,a,b⟩
 ·exact ⟨e,a.ins hj hp hl hg hno hch hz1 hz2 hinv,b.of (nJ.set hj rfl rfl)⟩
end
end
section
section
variable {D D':List UInt8} {e e':Nat->Int} {C C' C0:Ck}
theorem bN_ (hs:sn<sz) (hp:p*16<sz):oG sn (sz - sn) sz p=true↔sn<=p*16:=by
 unfold oG bD;rw [decide_eq_true_iff]
 dsimp only
 omega
structure ClQ (D:List UInt8) (e:Nat->Int) (j sn sz q:Nat) (C:Ck):Prop where
 im:Im D e C
 zero:∀(i:Nat) (x:Fr) (y:Fl),dE C i x j y->x.page<(q:Int)->∀b:Nat,b<16->(sn:Int)<=x.page*16+(b:Int)->x.page*16+(b:Int)<(sz:Int)->bt x.pg.valid (b / 8)=true->x.pg.data.data[b]?=some 0
 whole:∀(y:Fl),C.files[j]?=some y->∀p:Nat,p<q->sn<=p*16->p*16<sz->aC y p=true
 gone:∀(i:Nat) (x:Fr) (y:Fl),dE C i x j y->x.page<(q:Int)->(sn:Int)<=x.page*16->x.page*16<(sz:Int)->False
theorem ClI.q (hsn:sn<sz) (hs8:sz<=128) (h0:Im D e C0) (hej:e j=(sz:Int)):∀{k:Nat} {C:Ck},ClI j sn (sz - sn) sz C0 k C->sn / 16+k<=(sz+15) / 16->ClQ D e j sn sz (sn / 16+k) C/\nJ C0 C:=by
 intro k C h
 induction h with
 | zero=>
  intro Q;refine ⟨⟨h0,fun i x y d E b A h1 h2 hv=>?_,fun y Y p X h1 h2=>?_,fun i x y d E h1 h2=>?_⟩,.refl _⟩
  ·omega
  ·omega
  ·omega
 | @none k p C y hpre hpe hj hwh hg ih=>
  intro Q;obtain ⟨⟨u,J,K,L⟩,M⟩:=ih O_;have n:p<8:=O_
  have H:sn<=p*16:=(bN_ hsn O_).1 hwh;have B:=(u.inv.file j y hj).st.1;have G:∀(i:Nat) (x:Fr) (v:Fl),dE C i x j v->x.page≠(p:Int):=fun i x v d a=>by
   obtain rfl:v=y:=aP (d.fl.symm.trans hj);have:=u.pgu d;rw [a] at this;omega
  have g:∀{i:Nat} {x:Fr} {v:Fl},dE {C with files:=C.files.set j {y with c:=(Z_ y.c p 0).1,blocks:=bits .andNot .i64 y.blocks (wrap64 (2 ^ p))}} i x j v->dE C i x j y:=fun d=>⟨d.fr,hj,d.ix,d.ok⟩
  refine ⟨⟨u.unset hj n hg,fun i x v d E b A h1 h2 hv=>?_,fun v hv q U h1 h2=>?_,fun i x v d E h1 h2=>?_⟩,M.trans (nJ.set hj rfl rfl)⟩
  ·have:=G _ _ _ (g d);exact J i x y (g d) O_ b A h1 h2 hv
  ·have hv:(C.files.set j {y with c:=(Z_ y.c p 0).1,blocks:=bits .andNot .i64 y.blocks (wrap64 (2 ^ p))})[j]?=some v:=hv
   rw [w_ hj] at hv;obtain rfl:=aP hv;rw [jZ (y:=y) B n O_ rfl]
   by_cases a:q=p
   ·simp [a]
   ·rw [K y hj q O_ h1 h2];simp
  ·have:=G _ _ _ (g d);exact L i x y (g d) O_ h1 h2
 | @gone k p i t k' C x y l gp z hpre hpe d hxp hgh hwh ih=>
  intro Q;obtain ⟨⟨u,J,K,L⟩,M⟩:=ih O_;have n:p<8:=O_
  have H:sn<=p*16:=(bN_ hsn O_).1 hwh;have B:=(u.inv.file j y d.fl).st.1;have g:∀{m:Nat} {x':Fr} {v:Fl},dE {mF C i j t k' x y l gp z 0 with files:=(mF C i j t k' x y l gp z 0).files.set j {({y with c:=(Z_ y.c x.page 0).1}:Fl) with blocks:=bits .andNot .i64 y.blocks (wrap64 (2 ^ p))}} m x' j v->dE C m x' j y/\x'.page≠(p:Int):=fun {m x' v} f=>by
   have hf:(C.frames.set i eI)[m]?=some x':=f.fr
   by_cases a:m=i
   ·subst a;rw [w_ d.fr] at hf;obtain rfl:=aP hf;have h1:(-1:Int)=(j:Int):=f.ix;omega
   ·rw [gN_ (fun b=>a b.symm)] at hf;have r:dE C m x' j y:=⟨hf,d.fl,f.ix,f.ok⟩;have:=u.apart d r a;exact ⟨r,O_⟩
  refine ⟨⟨u.gone d hgh hxp,fun m x' v f E b A h1 h2 hv=>?_,fun v hv q U h1 h2=>?_,fun m x' v f E h1 h2=>?_⟩,M.trans (nJ.set (y':={({y with c:=(Z_ y.c x.page 0).1}:Fl) with blocks:=bits .andNot .i64 y.blocks (wrap64 (2 ^ p))}) d.fl (by show List.set (List.set _ _ _) _ _=_;rw [List.set_set]) rfl)⟩
  ·obtain ⟨a1,a2⟩:=g f;exact J m x' y a1 O_ b A h1 h2 hv
  ·have hv:((C.files.set j {y with c:=(Z_ y.c x.page 0).1}).set j {({y with c:=(Z_ y.c x.page 0).1}:Fl) with blocks:=bits .andNot .i64 y.blocks (wrap64 (2 ^ p))})[j]?=some v:=hv
   rw [List.set_set,w_ d.fl] at hv;obtain rfl:=aP hv;rw [jZ (y:=y) B n O_ rfl]
   by_cases a:q=p
   ·simp [a]
   ·rw [K y d.fl q O_ h1 h2];simp
  ·obtain ⟨a1,a2⟩:=g f;exact L m x' y a1 O_ h1 h2
 | @cut k p i at' N C x y hpre hpe d hxp hwh hpa ha16 hn0 ih=>
  intro Q;obtain ⟨⟨u,J,K,L⟩,M⟩:=ih O_;have n:p<8:=O_
  have S:p*16<sz:=O_
  have H:¬sn<=p*16:=fun a=>by
   rw [(bN_ hsn S).2 a] at hwh
   cases hwh
  have W:(at':Int)=(sn:Int) - (p:Int)*16/\(N:Int)=min (sz:Int) (((p:Int)+1)*16) - (sn:Int):=by
   unfold bD at hpa;have h1:=congrArg Prod.fst hpa;have h2:=congrArg Prod.snd hpa
   dsimp only at h1 h2
   omega
  obtain ⟨w,F⟩:∃w:ByteArray,w=⟨(List.replicate N 0).toArray⟩:=⟨_,rfl⟩;rw [<-F];have I:w.size=N:=by rw [F];simp [ByteArray.size]
  have R:fE ⟨x.file,x.page,G_ x.pg at' w,x.tenant,x.holds,x.reading,x.writing⟩:=⟨d.ok.page,d.ok.tenant,kP d.ok.pg O_,d.ok.holds,d.ok.reading,d.ok.writing⟩;have P:=(u.fr _ _ _ _ d).1.write d.ok (o:=at') (s:=w) O_ O_ (by rw [I];exact hn0) (by rw [I,hxp,hej];omega);have g:∀{m:Nat} {x':Fr} {v:Fl},dE (eY C i j y ⟨x.file,x.page,G_ x.pg at' w,x.tenant,x.holds,x.reading,x.writing⟩) m x' j v->(m=i/\x'=⟨x.file,x.page,G_ x.pg at' w,x.tenant,x.holds,x.reading,x.writing⟩)\/(dE C m x' j y/\x'.page≠(p:Int)):=fun {m x' v} f=>by
   have hf:(C.frames.set i ⟨x.file,x.page,G_ x.pg at' w,x.tenant,x.holds,x.reading,x.writing⟩)[m]?=some x':=f.fr
   by_cases a:m=i
   ·subst a;rw [w_ d.fr] at hf;exact .inl ⟨rfl,(aP hf).symm⟩
   ·rw [gN_ (fun b=>a b.symm)] at hf;have r:dE C m x' j y:=⟨hf,d.fl,f.ix,f.ok⟩;have:=u.apart d r a;exact .inr ⟨r,O_⟩
  refine ⟨⟨u.put d R rfl rfl rfl P,fun m x' v f E b A h1 h2 hv=>?_,fun v hv q U h1 h2=>?_,fun m x' v f E h1 h2=>?_⟩,M.trans (nJ.set d.fl rfl rfl)⟩
  ·rcases g f with ⟨_,rfl⟩ | ⟨a1,a2⟩
   ·have O:(sn:Int)<=x.page*16+(b:Int):=h1;have V:x.page*16+(b:Int)<(sz:Int):=h2
    show (xR x.pg.data w at').data[b]?=some 0
    rw [xS d.ok.pg.len O_ A,if_pos O_,F]
    show (List.replicate N (0:UInt8)).toArray[b - at']?=some 0
    rw [List.getElem?_toArray,List.getElem?_replicate,if_pos O_]
   ·exact J m x' y a1 O_ b A h1 h2 hv
  ·have hv:(C.files.set j {y with c:=aT y.c x.page ((G_ x.pg at' w).dirty != 0) (x.writing != 0)})[j]?=some v:=hv
   rw [w_ d.fl] at hv;obtain rfl:=aP hv;exact K y d.fl q O_ h1 h2
  ·rcases g f with ⟨_,rfl⟩ | ⟨a1,a2⟩
   ·have O:(sn:Int)<=x.page*16:=h1;omega
   ·exact L m x' y a1 O_ h1 h2
theorem Ig.trunc (h:Ig D C) (hj:C.files[j]?=some y) (hsz:y.size=sz) (hs8:sz<=128) (h2:sn<=128) (ht:TrP C j sn sz y C'):Ig D C':=by
 obtain ⟨e,l,g⟩:=h
 rcases ht with rfl | ⟨Cs,ys,C1,y1,hsx,hjs,hss,hcl,hj1,rfl⟩
 ·exact ⟨e,l,g⟩
 ·have f:e j=(sz:Int):=(g j y hj).symm.trans hsz;obtain ⟨h3,E⟩:=l.soiled g hj hsx
  by_cases r:sn<sz
  ·have m:Cs=C:=by
    rcases hsx with ⟨rfl,_⟩ | ⟨i,x,_,⟨a,_⟩,_⟩
    ·rfl
    ·omega
   subst m;have c:bI sn (128 - sn) sz=sz - sn:=by unfold bI;omega
   rw [c,if_neg O_,show sn+(sz - sn)=sz by omega] at hcl;obtain ⟨⟨w,z,A,B⟩,J⟩:=hcl.q r hs8 l f O_;have I:sn / 16+((sz+15) / 16 - sn / 16)=(sz+15) / 16:=O_
   rw [I] at z A B;have F:Im D (upE e j sn) C1:=by
    refine w.ends (fun i x k v u hf=>?_) (fun k v o p t d=>?_)
    ·by_cases a:k=j
     ·subst a;rw [kM];rw [f] at hf;have t:=u.ok.page;refine hf.shrink O_ (fun H=>?_) (fun b G h1 h2 hv=>z i x v u O_ b G h1 h2 hv);have:=hf.lo H;refine Int.lt_of_not_ge fun n=>B i x v u O_ n this
     ·rw [kL a];exact hf
    ·by_cases a:k=j
     ·subst a;rw [kM] at d
      by_cases b:p*16<sz
      ·exact A v o p O_ O_ b
      ·exact (w.fl _ _ o).2 p t O_
     ·rw [kL a] at d;exact (w.fl _ _ o).2 p t d
   exact ⟨upE e j sn,F.size hj1 h2,(g.of J).up hj1⟩
  ·have c:bI sn (128 - sn) sz=0:=by unfold bI;omega
   rw [c,if_pos rfl] at hcl
   cases hcl
   have s:max (e j) (sn:Int)=(sn:Int):=O_
   rw [s] at h3;exact ⟨upE e j sn,h3.size hj1 h2,(g.of E).up hj1⟩
theorem gI_ (h:0<=n/\n<=3):bits .or .i64 0 n=n:=by obtain rfl | rfl | rfl | rfl:=nL h <;> decide
theorem h0_ (hn:0<=n/\n<=3) (hv:0<=v/\v<=3) (h:bits .and .i64 n (bits .or .i64 v 0)=0):bits .and .i64 n v=0:=by
 revert h
 obtain rfl | rfl | rfl | rfl:=nL hn
 all_goals (obtain rfl | rfl | rfl | rfl:=nL hv)
 all_goals decide
theorem Ig.read (h:Ig D C) (hu:dE C i x j y) (hn:1<=n/\n<=3) (h3:x.pg.valid≠3) {C1:Ck} (hb:RbP C i j x y n C1) :
  cE 2 1 1 C1/\∃x1 y1,dE C1 i x1 j y1/\x1.page=x.page/\∀(t:ByteArray) (C2:Ck),(∀b:Nat,b<16->t.data.toList.getD b 0=dk D j x.page.toNat b)->ReP C1 i j x1 y1 t true C2->Ig D C2:=by
 obtain ⟨e,a,o⟩:=h;obtain ⟨g,F⟩:=a.fr _ _ _ _ hu;have u:aC y x.page.toNat=false:=by
  cases q:aC y x.page.toNat
  ·rfl
  ·exact absurd (g.hole q) h3
 rcases hb with rfl | ⟨h0,rfl⟩
 ·refine ⟨a.inv,x,y,hu,rfl,fun t C2 A z=>?_⟩
  rcases z with ⟨rfl,_⟩ | ⟨pg,hpg,rfl⟩
  ·exact ⟨e,a,o⟩
  ·rcases hpg with ⟨s,_⟩ | ⟨_,rfl⟩
   ·cases s
   ·rw [u] at g;have H:bits .and .i64 x.reading x.pg.valid=0:=by
     rw [g.rd];obtain q | q | q | q:=nL hu.ok.pg.v <;> rw [q] <;> decide
    have d:=g.fill hu.ok hu.ok.reading H A;rw [<-o j y hu.fl,<-u] at d;have m:fE ⟨x.file,x.page,fM x.pg x.reading ⟨(kQ (y.size - x.page*16) t 16).toArray⟩,x.tenant,x.holds,0,x.writing⟩:=⟨hu.ok.page,hu.ok.tenant,ac_ hu.ok.pg hu.ok.reading,hu.ok.holds,⟨by show (0:Int)<=0;omega,by show (0:Int)<=3;omega⟩,hu.ok.writing⟩;exact ⟨e,a.put hu m rfl rfl rfl (by rw [<-o j y hu.fl];exact d),o.of (nJ.set hu.fl rfl rfl)⟩
 ·rw [g.rd] at h0 ⊢;rw [gI_ ⟨O_,hn.2⟩];have w:=h0_ ⟨O_,hn.2⟩ hu.ok.pg.v h0;have k:fE ⟨x.file,x.page,x.pg,x.tenant,x.holds,n,x.writing⟩:=⟨hu.ok.page,hu.ok.tenant,hu.ok.pg,hu.ok.holds,⟨by show 0<=n;omega,hn.2⟩,hu.ok.writing⟩;obtain ⟨r,hv⟩:=eE (c:=y.c) (p:=x.page) (by rw [a.pgu hu];omega);have f:dE (eY C i j y ⟨x.file,x.page,x.pg,x.tenant,x.holds,n,x.writing⟩) i ⟨x.file,x.page,x.pg,x.tenant,x.holds,n,x.writing⟩ j {y with c:=aT y.c x.page (x.pg.dirty != 0) (x.writing != 0)}:=⟨w_ hu.fr,w_ hu.fl,hu.ix,k⟩
  have l:=a.inv.put hu k rfl rfl rfl rfl (a.inv.file j y hu.fl) C.ptes a.inv.pok;refine ⟨l,_,_,f,rfl,fun t C2 A z=>?_⟩
  rcases z with ⟨_,s⟩ | ⟨pg,hpg,rfl⟩
  ·have s:n=0:=s;omega
  ·rcases hpg with ⟨s,_⟩ | ⟨_,rfl⟩
   ·cases s
   ·rw [u] at g;have d:=g.fill hu.ok ⟨O_,hn.2⟩ w A;rw [<-o j y hu.fl,<-u] at d;have m:fE ⟨x.file,x.page,fM x.pg n ⟨(kQ (y.size - x.page*16) t 16).toArray⟩,x.tenant,x.holds,0,x.writing⟩:=⟨hu.ok.page,hu.ok.tenant,ac_ hu.ok.pg ⟨O_,hn.2⟩,hu.ok.holds,⟨by show (0:Int)<=0;omega,by show (0:Int)<=3;omega⟩,hu.ok.writing⟩;have E:(x.writing != 0)=false:=by rw [g.wr];rfl
    refine ⟨e,a.set (x':=⟨x.file,x.page,fM x.pg n ⟨(kQ (y.size - x.page*16) t 16).toArray⟩,x.tenant,x.holds,0,x.writing⟩) (y2:={y with c:=aT (aT y.c x.page (x.pg.dirty != 0) (x.writing != 0)) x.page ((fM x.pg n ⟨(kQ (y.size - x.page*16) t 16).toArray⟩).dirty != 0) (x.writing != 0)}) hu ?_ ?_ ?_ ⟨rfl,rfl,rfl,rfl,a.pts⟩ rfl rfl (fun q B=>?_) ?_ (by rw [<-o j y hu.fl];exact d) (fun q _ _=>rfl) ⟨rfl,rfl,rfl,rfl,rfl⟩ (fun G=>(a.fl _ _ hu.fl).2 _ (by have:=hu.ok.page;omega) (by have:=hu.ok.page;omega)) (fun _ _ _ _ _ _ _=>rfl),?_⟩
    ·exact l.put f m rfl rfl rfl rfl (l.file j _ f.fl) C.ptes a.inv.pok
    ·show (C.frames.set i _).set i _=_
     rw [List.set_set]
    ·show (C.files.set j _).set j _=_
     rw [List.set_set]
    ·show aT (aT y.c x.page _ _) x.page _ _ q=_
     rw [E,jJ r (by rw [kB r hv];exact hv) _ B,jJ r hv _ B]
    ·show mkO (aT (aT y.c x.page _ _) x.page _ _ x.page.toNat).2 _
     rw [E];exact uL r (by rw [kB r hv];exact hv) (uL r hv F x.pg.dirty) _
    ·exact (o.of (nJ.set (y':={y with c:=aT y.c x.page (x.pg.dirty != 0) (x.writing != 0)}) hu.fl rfl rfl)).of (nJ.set f.fl rfl rfl)
end
end
end Go.Proofs.YtehfhnbpnaiogaaGreatDoor
