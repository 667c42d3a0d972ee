/- Lemmas for the laws of this seat, part 13. -/
import Derived.Test.YtehfhnbpnaiogaaGreatDoorB12
namespace Go.Proofs.YtehfhnbpnaiogaaGreatDoor
set_option linter.all false
set_option maxRecDepth 100000
set_option maxHeartbeats 16000000
open Go.RowKit Go.Proofs.Tryz IntKind
variable {C C':Ck} {L:List Zn} {P:Program} {Q:Exit->Act->World->Prop} {S:Nat->Prop} {W w w':World} {Z i id j z:Nat} {l:List Oper} {r:Option Nat} {u:Bool} {v:Value} {y:Fl}
section
variable {F G Z:Nat}
theorem bf_:∀{p i:Nat},lM L u p=some i->∃z,L[i]?=some z/\eB_ z u=true
 | 0,i,h=>by simp [lM] at h
 | p+1,i,h=>by
  simp only[lM] at h
  cases hz:L[p]? with
  | none=>rw [hz] at h;cases h
  | some z=>
   rw [hz] at h
   dsimp only at h
   split at h
   ·rename_i hc
    injection h with h
    subst h;exact ⟨z,hz,hc⟩
   ·exact bf_ h
def bg_ {p:Nat} (hok:cI L) (h:(dD L u p).2.2=0):∃k z,L[k]?=some z/\z.free≠[]/\dD L u p=(L.set k {z with free:=z.free.drop 1},z.free.headD 0,0):=by unfold dD at h ⊢;cases ht:lM L u (p+1) with|none=>rw [ht] at h;simp at h|some k=>obtain ⟨z,a,hc⟩:=bf_ ht;dsimp only;rw [a];refine ⟨k,z,a,fun e=>?_,rfl⟩;have:=(hok.each k z a).wm;unfold eB_ at hc;rw [e] at hc;simp at hc;omega
def lE (y:Fl) (p:Nat):Pg:=if kB y p then wT else dH_
def hu_:jC dH_:=⟨rfl,⟨bY,bY⟩,⟨bY,bY⟩,bY⟩
def e9_:jC wT:=⟨rfl,⟨bY,bY⟩,⟨bY,bY⟩,bY⟩
def aJ_ (y:Fl) (p:Nat):jC (lE y p):=by unfold lE;split;exact e9_;exact hu_
def rZ (C:Ck) (j p t i:Nat) (y:Fl) (l:Lr) (gp:Gr) (zs:List Zn) (ac:Bool):Ck:=
 {gq:=C.gq.set j {y with c:=(bS y.c p ((i:Int)+1)).1},gu:=C.gu.set i ⟨j,p,lE y p,t,0,0,0⟩,ie:=zs,ib:=(cJ C.ib t gp 1).1,ia:=C.ia.set t (pH l ((i:Int)+1) ac),ig:=C.ig,it:=C.it}
def InP (C:Ck) (j p t k:Nat) (u:Bool) (y:Fl) (l:Lr) (gp:Gr) (C':Ck) (n err:Int):Prop:=
 (err≠0/\C'=C/\(0<X_ y.c p\/(cJ C.ib t gp 1).2≠0\/(dD C.ie u k).2.2≠0))\/(err=0/\X_ y.c p<=0/\∃(i:Nat) (ac:Bool),n=(i:Int)+1/\(dD C.ie u k).2.1=(i:Int)+1/\(dD C.ie u k).2.2=0/\C'=rZ C j p t i y l gp (dD C.ie u k).1 ac)
def InP.inv {p t k:Nat} {l:Lr} {gp:Gr} {n err:Int} (h:InP C j p t k u y l gp C' n err) (hI:bW F G Z C) (hj:C.gq[j]?=some y) (hp:p<8) (ht:t<G) (hl:C.ia[t]?=some l) (hg:C.ib[t]?=some gp):bW F G Z C'/\(err=0->∃(i:Nat) (x:Fr) (y':Fl),n=(i:Int)+1/\C'.gq[j]?=some y'/\gQ C' i x j y'/\x.gx=p/\y'.size=y.size/\X_ y'.c p=(i:Int)+1):=by rcases h with ⟨he,rfl,_⟩ | ⟨_,hno,i,ac,rfl,h1,h2,rfl⟩;{exact ⟨hI,fun h=>absurd h he⟩};obtain ⟨q,z,o,f,g⟩:=bg_ hI.zok h2;rw [g] at h1;have s:=hI.few;have m:mT ⟨j,p,lE y p,t,0,0,0⟩:=⟨⟨by show (0:Int)<=p;omega,by show (p:Int)<8;omega⟩,⟨by show (0:Int)<=t;omega,by show (t:Int)<2;omega⟩,aJ_ y p,⟨by show (0:Int)<=0;omega,by show (0:Int)<=255;omega⟩,⟨by show (0:Int)<=0;omega,by show (0:Int)<=3;omega⟩,⟨by show (0:Int)<=0;omega,by show (0:Int)<=3;omega⟩⟩;obtain ⟨d,x0,e1,e2,_⟩:=hI.free q z o ((i:Int)+1) (by cases hf:z.free with|nil=>exact absurd hf f|cons a b=>rw [hf] at h1;have h1:a=_:=h1;rw [h1];exact List.mem_cons_self ..);obtain rfl:d=i:=O_;have hv:=hI.insert (x0:=jI) (t:=t) hj (p:=(p:Int)) ⟨O_,O_⟩ hno o h1 f hl hg m rfl rfl (by show (t:Int)<G;omega) ac;have r:rZ C j p t d y l gp (dD C.ie u k).1 ac={gq:=C.gq.set j {y with c:=(bS y.c p ((d:Int)+1)).1},gu:=C.gu.set d ⟨j,p,lE y p,t,0,0,0⟩,ie:=C.ie.set q {z with free:=z.free.drop 1},ib:=(cJ C.ib t gp 1).1,ia:=C.ia.set t (pH l ((d:Int)+1) ac),ig:=C.ig,it:=C.it}:=(by unfold rZ;rw [g]);rw [r];refine ⟨hv,fun _=>⟨d,_,_,rfl,aT hj,⟨aT e2,aT hj,rfl,m⟩,rfl,rfl,?_⟩⟩;show X_ (bS y.c p ((d:Int)+1)).1 p=_;rw [eX (by unfold lU;simp;omega),if_pos rfl]
def h7_ (P:Ck->Int->Int->Prop) (S:Nat->Prop) (w:World) (en:Ending) (w':World):Prop:=∃C' n err a b c d e f g,P C' n err/\en = .returned (.tuple #[aZ a b c d e f g,I_ n,I_ err])/\w_ w' S a b c d e f g C'/\s_ w w'
def qJ {fn:Func} {p q r:Tmp} (h:fn.results=#[.cell p 30,.tmp q,.tmp r]) {tmps:Array Value} {g:Nat} {t:TypeId} {x0 x1 x2 x3 x4 x5 x6:Value} {fr:Nat × Nat} {u:Value}
  (hp:tmps.getD p undef = P_ g) (hq:tmps.getD q undef=u) (hr:tmps.getD r undef=v) (hg:w.heap[g]?=some (.cells #[x0,x1,x2,x3,x4,x5,x6] t fr)):(results fn tmps).run prog w = .ok (.tuple #[aZ x0 x1 x2 x3 x4 x5 x6,u,v]) w:=by
 have a:tmps[p]?.getD undef = P_ g:=by simpa using hp
 have b:tmps[q]?.getD undef=u:=by simpa using hq
 have c:tmps[r]?.getD undef=v:=by simpa using hr
 simp [results,h,a,b,c,asAddr,run_loadVar_row w g t 30 #[x0,x1,x2,x3,x4,x5,x6] fr _ hg underlying30 rfl cF]
def dV.setRowX {B gf nf cf gr nr cr gl nl cl gk nk ck:Nat} {c d g:Value} (h:dV w S B gf nf cf gr nr cr c d gl nl cl gk nk ck g C) (X:Nat) (cs:Array Value) (hX:¬S X) (hB:gk<X):dV (w.setRow X cs) S B gf nf cf gr nr cr c d gl nl cl gk nk ck g C:=by have o2:=h.o2;have o3:=h.o3;have o4:=h.o4;exact h.kept (r_.of_setRow w X cs fun a=>hX a.1) (setRow_other w X gf cs O_) (setRow_other w X gr cs O_) (setRow_other w X gl cs O_) (setRow_other w X gk cs O_)
def uT (C:Ck) (j p t k:Nat) (u:Bool) (y:Fl) (l:Lr) (gp:Gr) (clk:Int) (a b c d e f g:Value) (S:Nat->Prop) (w:World) (h:w_ w S a b c d e f g C) (hI:bW F G Z C) (hj:C.gq[j]?=some y) (hp:p<8) (hl:C.ia[t]?=some l) (hg:C.ib[t]?=some gp) (hck:C.ig[t]?=some clk) (hk:k<C.ie.length) (hS:∀z,w.heap.size<=z->S z):C_ 72 #[aZ a b c d e f g,I_ j,I_ p,I_ t,I_ k,.bool u] w (h7_ (InP C j p t k u y l gp) S w):=by obtain ⟨S1,s1,s2,s3⟩:=iL hS;replace h:=h.jf s3;clear s3;have bu:=bR hj;have f8:=fun w' (hb:s_ w w')=>eY j (h.je hb) bu;have cg:=fun w' (hb:s_ w w')=>fJ j y p (h.je hb) hj;have f1:=fun w' (hb:s_ w w') (I:w.heap.size+1<w'.heap.size)=>eF_ t gp 1 (h.ib.je hb) hg hI.gok ⟨O_,O_⟩ (fun z ft=>s2 z O_);have fd:=fun w' (hb:s_ w w') (I:w.heap.size+1<w'.heap.size)=>jl_ k u (h.ie.je hb) hk hI.zok (fun z ft=>s2 z O_);have g8:=bR hg;have f9:=hI.ok;obtain ⟨HI,ao,fz,cs⟩:=rO hI hl hg hck;obtain ⟨A1,ak,rfl,q1,q2⟩:=h.gq.form;obtain ⟨A2,m2,c2,rfl⟩:=h.gu.cap;obtain ⟨A3,c3,rfl,_,_⟩:=h.ie.form;obtain ⟨A4,c4,rfl,_,_⟩:=h.ib.form;obtain ⟨A5,m5,c5,rfl⟩:=h.ia.cap;obtain ⟨A6,m6,c6,rfl⟩:=h.ig.cap;obtain ⟨A7,m7,c7,rfl⟩:=h.it.cap;obtain ⟨bf,of,kt,KB,kc,rfl,cd,k1,k2,k3,k4,b1⟩:=FlA.cells h.gq hj;have c8:=H_ (show bU y.c/\aS kt y.c/\(j_ kt y.c).jc.length<=kc/\NK w S1 KB (j_ kt y.c).jc from ⟨k1,k2,k3,k4⟩);have g9:C.gq.length<=100:=f9.gq.2;have j2:(j:Int)<C.gq.length:=O_;obtain ⟨H,HJ,eh⟩:=dY h hj b1;have i1:(0:Int)<=(p:Int):=O_;have i2:(p:Int)<8:=O_;have i3:(0:Int)<=(t:Int):=O_;have i5:(0:Int)<=(k:Int):=O_;clear h hI hl hg hck hj b1 k1 k2 k3 k4 f9;go_enter func72,ntmps72;go_upto_region 1 with fail;generalize hW9:(w.alloc _).alloc _=W;obtain ⟨HX,HR,HW,HZ⟩:=dN hW9;clear hW9 HZ;obtain ⟨x0,N,O,P,J,M,Q⟩:=J_ HX.o;go_upto_region 3 with (go_at_call 92;refine CM (f8 _ HW) ?_;rintro e w1 ⟨rfl,ew⟩;obtain ⟨c9,dy,bd⟩:=bN HX HR HW ew;clear ew x0 N O P J M Q;obtain ⟨x0,N,O,P,J,M,Q⟩:=J_ c9.o);clear f8 HX HR HW;by_cases hv:X_ y.c p<=0;{have HV:=H_ hv;have ch:∀w',s_ w w'->C_ 59 #[aZ (S_ (some ⟨bf,of,none⟩) C.gq.length ak) (S_ A2 m2 c2) (S_ A3 C.ie.length c3) (S_ A4 C.ib.length c4) (S_ A5 m5 c5) (S_ A6 m6 c6) (S_ A7 m7 c7),I_ j,I_ p] w' (fun e ee=>e = .returned (.tuple #[I_ 0,.bool false])/\s_ w' ee):=fun w' hb=>(by have:=cg w' hb;unfold dP tM at this;rw [if_pos hv] at this;exact this);clear cg hv;go_upto_region 7 with (first|(go_at_call 59;refine CM (ch _ bd) ?_;rintro e w2 ⟨rfl,bq⟩;obtain ⟨bk,aw,ax⟩:=bN c9 dy bd bq;clear bq x0 N O P J M Q;obtain ⟨x0,N,O,P,J,M,Q⟩:=J_ bk.o)|(go_at_call 131;refine CM (f1 _ ax (l_ aw)) ?_;rintro e w3 ⟨gv,rfl,f6,ex⟩;obtain ⟨e4,ba,bg⟩:=bN bk aw ax ex;have b3:=H_ f6;clear f6 ex)|fail);obtain ⟨Pg,ng,rg,f7⟩:=b3.cap;subst f7;clear x0 N O P J M Q c9 dy bd bk aw ax f1 ch;obtain ⟨x0,N,O,P,J,M,Q⟩:=J_ e4.o;by_cases b0:(cJ C.ib t gp 1).2=0;{have d1:((cJ C.ib t gp 1).2 != 0)=false:=(by rw [b0];rfl);clear b0;go_upto_region 10 with (first|(go_at_call 132;refine CM (fd _ bg (l_ ba)) ?_;rintro e w4 ⟨zv,rfl,fg,e7⟩;obtain ⟨e5,bb,bh⟩:=bN e4 ba bg e7;have ct:=H_ (b3.je e7);have bm:=H_ fg;clear fg e7)|fail);obtain ⟨Pz,nz,rz,fh⟩:=bm.cap;subst fh;clear x0 N O P J M Q e4 ba bg b3 fd d1;obtain ⟨x0,N,O,P,J,M,Q⟩:=J_ e5.o;by_cases an:(dD C.ie u k).2.2=0;{have d2:((dD C.ie u k).2.2 != 0)=false:=(by rw [an];rfl);have bc:=H_ an;obtain ⟨k',z',ff,du,et⟩:=bg_ HI.zok an;obtain ⟨i,xf,e8,fe,_⟩:=HI.free k' z' ff (dD C.ie u k).2.1 (by rw [et];cases hf:z'.free with|nil=>exact absurd hf du|cons a b=>exact List.mem_cons_self ..);rw [e8];have ei:=H_ e8;have bt:=bR fe;have gc:=HI.nr;clear an ff du et e8 fe;have gh:w.heap.size+1<w4.heap.size:=l_ bb;have f2:=gC (H.je bh.o) HI.ok (fun z I=>s2 z O_);go_upto_region 13 with (go_at_call 21;refine CM f2 ?_;rintro e w5 ⟨gf,nf,cf,m,nr,cr,c',d',q,nl,cl,gk,nk,ck,g',rfl,a1,al⟩;obtain ⟨P3,n3,r3,rfl⟩:=a1.ie.cap;obtain ⟨P4,n4,r4,rfl⟩:=a1.ib.cap;obtain ⟨P7,n7,r7,rfl⟩:=a1.it.cap);obtain ⟨X,hX⟩:=bB w5.heap.size;obtain ⟨Sx,az⟩:=bB (fun z=>S1 z/\z≠X);have c0:∀z,Sx z->S1 z/\z≠X:=fun z I=>(by rw [az] at I;exact I);have eu:w4.heap.size<=X/\gk<X:=⟨by have:=al.size;omega,by rw [hX];exact a1.lt⟩;have fy:∀z,X<z->Sx z:=fun z I=>(by rw [az];exact ⟨s2 z O_,O_⟩);have g3:w4<=gf/\gf<m/\m<q/\q<gk:=⟨a1.o1,a1.o2,a1.o3,a1.o4⟩;have HT:=H_ (H.jf (S':=TS Sx gf m q gk) (fun z I h=>⟨by rw [az];exact ⟨h,O_⟩,O_,O_,O_,O_⟩));have ed:∀z,z<w4.heap.size->S1 z->TS Sx gf m q gk z:=fun z I h=>⟨by rw [az];exact ⟨h,O_⟩,O_,O_,O_,O_⟩;have au:=b_ (aJ (w5) w5) (.cells (z_ (o_ gf) nf cf (o_ m) nr cr P3 n3 r3 P4 n4 r4 (o_ q) nl cl (o_ gk) nk ck P7 n7 r7) 30);have b4:=H_ (((ct.jf ed).je al).je au);have bn:=H_ (((bm.jf ed).je al).je au);have r:=H_ (show dV (w5.alloc (.cells (z_ (o_ gf) nf cf (o_ m) nr cr P3 n3 r3 P4 n4 r4 (o_ q) nl cl (o_ gk) nk ck P7 n7 r7) 30)) Sx (w4) gf nf cf m nr cr (S_ P3 n3 r3) (S_ P4 n4 r4) q nl cl gk nk ck (S_ P7 n7 r7) C by rw [az];exact (a1.but X O_).je (b_ B_ _));have ah:=H_ (m_ w5 (.cells (z_ (o_ gf) nf cf (o_ m) nr cr P3 n3 r3 P4 n4 r4 (o_ q) nl cl (o_ gk) nk ck P7 n7 r7) 30) X hX.symm);have e6:=H_ (n_ (k_ e5 al) (.cells (z_ (o_ gf) nf cf (o_ m) nr cr P3 n3 r3 P4 n4 r4 (o_ q) nl cl (o_ gk) nk ck P7 n7 r7) 30));have dz:=H_ (n_ (k_ bb al) (.cells (z_ (o_ gf) nf cf (o_ m) nr cr P3 n3 r3 P4 n4 r4 (o_ q) nl cl (o_ gk) nk ck P7 n7 r7) 30));have e3:=H_ (b_ (h_ bh al) (.cells (z_ (o_ gf) nf cf (o_ m) nr cr P3 n3 r3 P4 n4 r4 (o_ q) nl cl (o_ gk) nk ck P7 n7 r7) 30));have fb:(w5.alloc (.cells (z_ (o_ gf) nf cf (o_ m) nr cr P3 n3 r3 P4 n4 r4 (o_ q) nl cl (o_ gk) nk ck P7 n7 r7) 30)).heap.size=X+1:=(by simp [hX]);rw [<-hX];generalize w5.alloc (.cells (z_ (o_ gf) nf cf (o_ m) nr cr P3 n3 r3 P4 n4 r4 (o_ q) nl cl (o_ gk) nk ck P7 n7 r7) 30)=W6 at r ah e6 dz e3 fb b4 bn au;have f3:∀w':World,X+1<=w'.heap.size->∀z,w'.heap.size<=z->TS Sx gf m q gk z:=fun w' gd z I=>⟨fy z O_,O_,O_,O_,O_⟩;have ga:j<nf/\nf<=1000:=⟨by rw [<-r.ef];exact bu,by rw [<-r.ef];omega⟩;have g2:i<nr/\nr<=1000:=⟨by rw [<-r.er];exact bt,by rw [<-r.er];omega⟩;have eb:=bR ao;have g4:=bR cs;have gb:t<nl/\nl<=1000:=⟨by rw [<-r.el];exact eb,by rw [<-r.el];have:=HI.ok.ia.2;omega⟩;have nX:¬Sx X:=fun I=>(c0 _ I).2 rfl;clear hX az a1 al au f2 e5 bb bh ct bm x0 N O P J M Q ed;have o2:=a_ ah 2;have fv:=t_ ah 2;have o3:=a_ ah 3;have fw:=t_ ah 3;go_upto_region 14 with fail;have ej:=H_ (show (W6.setCell ⟨X,3,none⟩ (S_ Pg ng rg)).heap[X]?=some (.cells (z_ (o_ gf) nf cf (o_ m) nr cr P3 n3 r3 Pg ng rg (o_ q) nl cl (o_ gk) nk ck P7 n7 r7) 30 (0,0)) from Y_ ah _);have dx:=H_ (show ((W6.setCell ⟨X,3,none⟩ (S_ Pg ng rg)).setCell ⟨X,2,none⟩ (S_ Pz nz rz)).heap[X]?=some (.cells (z_ (o_ gf) nf cf (o_ m) nr cr Pz nz rz Pg ng rg (o_ q) nl cl (o_ gk) nk ck P7 n7 r7) 30 (0,0)) from Y_ ej _);have ca:=H_ ((iR (W6.setCell ⟨X,3,none⟩ (S_ Pg ng rg)) ⟨X,2,none⟩ (S_ Pz nz rz) w (by show w.heap.size≠X;omega)).trans ((iR W6 ⟨X,3,none⟩ (S_ Pg ng rg) w (by show w.heap.size≠X;omega)).trans e6.o));have e0:=H_ ((iR (W6.setCell ⟨X,3,none⟩ (S_ Pg ng rg)) ⟨X,2,none⟩ (S_ Pz nz rz) (w+1) (by show w.heap.size+1≠X;omega)).trans ((iR W6 ⟨X,3,none⟩ (S_ Pg ng rg) (w+1) (by show w.heap.size+1≠X;omega)).trans dz.o));have bi:=H_ (aN (aN e3 ⟨X,3,none⟩ (S_ Pg ng rg) (by show w.heap.size<=X;omega)) ⟨X,2,none⟩ (S_ Pz nz rz) (by show w.heap.size<=X;omega));have dw:=H_ (((r.with_ bn b4 r.it).setCellX X 3 (S_ Pg ng rg) nX eu.2).setCellX X 2 (S_ Pz nz rz) nX eu.2);have ea:X+1<=((W6.setCell ⟨X,3,none⟩ (S_ Pg ng rg)).setCell ⟨X,2,none⟩ (S_ Pz nz rz)).heap.size:=(by simp [World.setCell];omega);generalize (W6.setCell ⟨X,3,none⟩ (S_ Pg ng rg)).setCell ⟨X,2,none⟩ (S_ Pz nz rz)=W8 at dx ca e0 bi dw ea;clear o2 fv o3 fw r ah e6 dz e3 fb ej b4 bn;have b1:=eh.o;obtain ⟨z0,z1,z2,z3,z4,z5,z6,z7,z8,z9,za,zb,zc,zd,ze⟩:=zc (bi.block _ cd) b1;obtain ⟨x0,N,O,P,J,M,Q⟩:=J_ ca.o;have f4:=c1_ kc p c8.o.1 c8.o.2.1 c8.o.2.2.1 (c8.o.2.2.2.je bi);go_upto_region 15 with (go_at_call 127;refine CM f4 ?_;rintro e w9 ⟨rfl,cc⟩);have eg:=H_ (dw.je cc);obtain ⟨em,cb,en,ay⟩:=dZ dx ca e0 bi cc;have fc:X+1<=w9.heap.size:=dX ea cc.size;clear f4 dw dx ca e0 bi ea cc z0 z1 z2 z3 z4 z5 z6 z7 z8 z9 za zb zc zd ze x0 N O P J M Q;obtain ⟨x0,N,O,P,J,M,Q⟩:=J_ cb.o;obtain ⟨bl,ol,E1,u1,v1,E2,u2,v2,E3,u3,v3,bo,bp,a0,hA,l0,l1,l2⟩:=LlA.cells HT.ia ao.o;obtain ⟨Ae,ce,es,_,_⟩:=hA.1.form;rw [es] at l0;rw [bo,bp] at J;replace l0:=(d_ (ay.block _ a0)).trans l0;obtain ⟨fn,gm,fS,ek,_,_,ez,_,ec⟩:=IL.cell H.ig cs.o;replace ec:=(d_ (ay.block _ ez)).trans ec;injection ek with eA6 em6 ec6;rw [eA6,em6] at M;have fr:=l_ cb;have dp:bl<w9:=fG a0 ay.size;have f0:fn<w9:=fG ez ay.size;have t5:(t:Int)<C.ig.length:=O_;have t4:(t:Int)<C.ia.length:=O_;have xe:=V_ w9;have ev:=fun z=>a7_ clk (X_ y.c p) (l.act.length:Int) (ext w9 z);clear bo bp eA6 em6 ec6 es l1 l2 hA;go_cut [23] (fun s23 wx=>s23 = .bool (acB clk (X_ y.c p) (l.act.length:Int))/\∃z,wx=ext w9 z);{refine y_ p_ p_ ?_;(repeat (go_big_quiet_step ((exact eS_ (ev _)))));refine wpQuiet_nil ?_;rintro w' ⟨z,rfl⟩;go_wp2;go_meet;exact ⟨rfl,z,rfl⟩};obtain ⟨rfl,z,rfl⟩:=hcut;have b2:=H_ (eg.je (q_ w9 z));have a3:=H_ (k_ em (q_ w9 z));have ag:=H_ (k_ cb (q_ w9 z));have b9:=H_ (k_ en (q_ w9 z));have a6:=H_ (h_ ay (q_ w9 z));have bx:X+1<=(ext w9 z).heap.size:=dX fc (q_ w9 z).size;have br:bl<(ext w9 z).heap.size:=fG dp (q_ w9 z).size;generalize ext w9 z=aj at b2 a3 ag b9 a6 bx br;clear eg em cb en ay fc x0 N O P J M Q l0 ec f0 dp fr xe ev;obtain ⟨x0,N,O,P,J,M,Q⟩:=J_ ag.o;have o0:=a_ a3 0;have o4:=a_ a3 4;simp only[zl] at o0 o4;have bw:=l_ ag;have bv:=l_ a3;obtain ⟨fm,fx,bz,eo,fi,ep,ey,k1,k2,k3,k4,dq⟩:=FlA.cells HT.gq HJ.o;obtain ⟨rfl,rfl⟩:bf=fm/\of=fx:=(by injection ep with e;injection e with e1 e2;exact ⟨e1,e2⟩);obtain ⟨-,-,z2,z3,z4,z5,-⟩:=zc (a6.block _ cd) dq;have a2:bf<aj:=fG cd a6.size;have fj:=H_ k1;have dt:=fun w' (hb:s_ aj w')=>ca_ fi p ((i:Int)+1) k1 k2 k3 (k4.je (h_ a6 hb)) (f3 w' (dX bx hb.size));clear dq ep ey k1 k2 k3 k4;go_upto_region 16 with fail;go_cut [] (fun wx=>dV wx Sx (w4) gf nf cf m nr cr (S_ Pz nz rz) (S_ Pg ng rg) q nl cl gk nk ck (S_ P7 n7 r7) (⟨C.gq.set j ⟨y.dev,y.ik,(bS y.c p ((i:Int)+1)).1,y.size,y.blocks,y.iz,y.iy,y.ja,y.iw,y.iu,y.iq,y.seq⟩,C.gu,(dD C.ie u k).1,(cJ C.ib t gp 1).1,C.ia,C.ig,C.it⟩:Ck)/\aX wx X (z_ (o_ gf) nf cf (o_ m) nr cr Pz nz rz Pg ng rg (o_ q) nl cl (o_ gk) nk ck P7 n7 r7) 30/\aX wx (w) (z_ (some ⟨bf,of,none⟩) C.gq.length ak A2 m2 c2 A3 C.ie.length c3 A4 C.ib.length c4 A5 m5 c5 A6 m6 c6 A7 m7 c7) 30/\wx.heap[w.heap.size+1]?=some (bF)/\s_ w wx);{refine aY (S:=TS Sx gf m q gk) 174 17 (inL [0,1,2,3,4,5,6,7,8,9,10,11,12,13,15,16]) (fun wx=>dV wx Sx (w4) gf nf cf m nr cr (S_ Pz nz rz) (S_ Pg ng rg) q nl cl gk nk ck (S_ P7 n7 r7) (⟨C.gq.set j ⟨y.dev,y.ik,(bS y.c p ((i:Int)+1)).1,y.size,y.blocks,y.iz,y.iy,y.ja,y.iw,y.iu,y.iq,y.seq⟩,C.gu,(dD C.ie u k).1,(cJ C.ib t gp 1).1,C.ia,C.ig,C.it⟩:Ck)/\aX wx X (z_ (o_ gf) nf cf (o_ m) nr cr Pz nz rz Pg ng rg (o_ q) nl cl (o_ gk) nk ck P7 n7 r7) 30/\aX wx (w) (z_ (some ⟨bf,of,none⟩) C.gq.length ak A2 m2 c2 A3 C.ie.length c3 A4 C.ib.length c4 A5 m5 c5 A6 m6 c6 A7 m7 c7) 30/\wx.heap[w.heap.size+1]?=some (bF)/\s_ w wx) [SK.eq (P_ X),SK.eq (S_ (some ⟨gf,0,none⟩) nf cf),SK.eq (I_ j),SK.eq (P_ (w)),SK.eq (S_ (some ⟨bf,of,none⟩) C.gq.length ak),SK.eq (I_ j),SK.eq (.pointer (some ⟨bf,of+j*15,none⟩)),SK.eq (.pointer (some ⟨bf,of+j*15+2,none⟩)),SK.eq (.agg #[I_ bz,S_ eo (j_ bz y.c).jc.length fi,I_ (j_ bz y.c).val,I_ (j_ bz y.c).jd]),SK.eq (I_ p),SK.eq (I_ ((i:Int)+1)),SK.tr2 (TS Sx gf m q gk) (bS y.c p ((i:Int)+1)).1 (bS y.c p ((i:Int)+1)).2 (fun _ h=>h),SK.tr2 (TS Sx gf m q gk) (bS y.c p ((i:Int)+1)).1 (bS y.c p ((i:Int)+1)).2 (fun _ h=>h),SK.tr1 (TS Sx gf m q gk) (bS y.c p ((i:Int)+1)).1 (fun _ h=>h),SK.eq (I_ (bS y.c p ((i:Int)+1)).2),SK.eq (.pointer (some ⟨gf,j*15,none⟩)),SK.eq (.pointer (some ⟨gf,j*15+2,none⟩)),SK.any] p_ p_ rfl (fun _=>trivial) ?_;refine qP fun v0=>?_;simp only[ly];refine e_ rfl rfl (fun xw A s K D=>?_) (fun v1=>?_);{obtain rfl:v0=_:=s 0 p_;have o:s_ aj xw:=A;have u0:=(o.cell (p:=⟨X,_,none⟩) bv).trans o0;go_simp;exact D _ _ A K_ rfl};simp only[ly];refine qP fun v2=>qP fun v3=>?_;simp only[ly];refine e_ rfl rfl (fun xw A s K D=>?_) (fun v4=>?_);{obtain rfl:v3=_:=s 3 p_;have o:s_ aj xw:=A;have u0:=(o.cell (p:=⟨w,_,none⟩) bw).trans x0;go_simp;exact D _ _ A K_ rfl};simp only[ly];refine qP fun v5=>qP fun v6=>qP fun v7=>?_;simp only[ly];refine e_ rfl rfl (fun xw A s K D=>?_) (fun v8=>?_);{obtain rfl:v7=_:=s 7 p_;have o:s_ aj xw:=A;have u0:=(o.cell (p:=⟨bf,_,none⟩) a2).trans z2;have u1:=(o.cell (p:=⟨bf,_,none⟩) a2).trans z3;have u2:=(o.cell (p:=⟨bf,_,none⟩) a2).trans z4;have u3:=(o.cell (p:=⟨bf,_,none⟩) a2).trans z5;go_simp;exact D _ _ A K_ rfl};simp only[ly];refine qP fun v9=>qP fun v10=>?_;simp only[ly];refine e_ rfl rfl (fun xw A s K D=>?_) (fun v11=>?_);{obtain rfl:v8=_:=s 8 p_;obtain rfl:v9=_:=s 9 p_;obtain rfl:v10=_:=s 10 p_;have o:s_ aj xw:=A;go_simp;go_at_call 134;refine (dt xw o).mono ?_;rintro e w1 ⟨h1,A1,p1,rfl,t1,c1,n1,hb⟩;exact D _ _ (h_ o hb) (r_.of_below hb) ⟨h1,A1,p1,rfl,t1,c1,n1⟩};simp only[ly];refine e_ rfl rfl (fun xw A s K D=>?_) (fun v12=>?_);{obtain ⟨h1,A1,p1,e,t1,c1,n1⟩:=s 11 p_;obtain rfl:v11=_:=e;go_simp;exact D _ _ A K_ ⟨h1,A1,p1,rfl,t1,c1,n1⟩};simp only[ly];refine e_ rfl rfl (fun xw A s K D=>?_) (fun v13=>?_);{obtain ⟨h1,A1,p1,e,t1,c1,n1⟩:=s 12 p_;obtain rfl:v12=_:=e;go_simp;exact D _ _ A K_ ⟨h1,A1,p1,rfl,t1,c1,n1⟩};simp only[ly];refine aD rfl (fun w=>r_.refl w) (fun xw s K D=>?_) (fun v14=>?_);{obtain ⟨h1,A1,p1,e,t1,c1,n1⟩:=s 12 p_;obtain rfl:v12=_:=e;go_simp;exact D _ rfl};simp only[ly];refine qP fun v15=>qP fun v16=>?_;simp only[ly];refine F_ (fun xw A s K D=>?_) (fun v17=>?_);{obtain rfl:v16=_:=s 16 p_;obtain ⟨h1,A1,p1,e,t1,c1,n1⟩:=s 13 p_;obtain rfl:v13=_:=e;have o:s_ aj xw:=A;have r:=b2.je o;have cj:=LW.there r.gq (i:=j) bu (p:=2) (n:=4) O_;refine aQ (ops:=#[]) rfl (mY rfl 58 (.tmp 137) (.tmp 134) rfl gf (j*15+2) #[I_ h1,S_ A1 (j_ h1 (bS y.c p ((i:Int)+1)).1).jc.length p1,I_ (j_ h1 (bS y.c p ((i:Int)+1)).1).val,I_ (j_ h1 (bS y.c p ((i:Int)+1)).1).jd] rfl rfl cj aB (aO) ?_);refine D undef _ ⟨r.putFiles (M_ xw gf (j*15+2) _) (LW.tree r.gq HJ.o (pZ fj.o) t1 c1 n1) A_,?_,?_,?_,?_⟩ (r_.of_setCells _ _ _ _ (fun h=>h.2.1 rfl)) trivial;{exact (x_ gf _ (j*15+2) xw X O_).trans (k_ a3.o o)};{exact (x_ gf _ (j*15+2) xw (w) O_).trans (k_ ag.o o)};{exact (x_ gf _ (j*15+2) xw (w+1) O_).trans (k_ b9.o o)};exact aW (h_ a6.o o) O_ _ _};simp only[ly];refine N_ ?_;intro wz hD hG;clear hG;go_wp2;go_meet;exact hD};clear a2 z2 z3 z4 z5 dt b2 a3 ag b9 a6 bx;clear x0 N O P J M Q o0 o4 bw bv br;obtain ⟨dd,df,dl,dh,dj⟩:=hcut;obtain ⟨cm,a4,ap,cy,V⟩:=h5_ dd df dl dh dj;clear dd df dl dh dj;have dr:X+1<=wc.heap.size:=l_ a4;obtain ⟨x0,N,O,P,J,M,Q⟩:=J_ ap.o;have o0:=a_ a4 0;have o4:=a_ a4 4;simp only[zl] at o0 o4;have bw:=l_ ap;have bv:=l_ a4;obtain ⟨bl,ol,E1,u1,v1,E2,u2,v2,E3,u3,v3,bo,bp,a0,hA,l0,l1,l2⟩:=LlA.cells HT.ia ao.o;rw [bo,bp] at J;have HA:=H_ hA;clear hA bo bp;have a2:bl<wc:=fG a0 V.size;replace l0:=(d_ (V.block _ a0)).trans l0;replace l1:=(d_ (V.block _ a0)).trans l1;replace l2:=(d_ (V.block _ a0)).trans l2;go_upto_region 17 with fail;go_cut [] (fun wx=>dV wx Sx (w4) gf nf cf m nr cr (S_ Pz nz rz) (S_ Pg ng rg) q nl cl gk nk ck (S_ P7 n7 r7) (⟨C.gq.set j ⟨y.dev,y.ik,(bS y.c p ((i:Int)+1)).1,y.size,y.blocks,y.iz,y.iy,y.ja,y.iw,y.iu,y.iq,y.seq⟩,C.gu,(dD C.ie u k).1,(cJ C.ib t gp 1).1,C.ia.set t (pH l ((i:Int)+1) (acB clk (X_ y.c p) l.act.length)),C.ig,C.it⟩:Ck)/\aX wx X (z_ (o_ gf) nf cf (o_ m) nr cr Pz nz rz Pg ng rg (o_ q) nl cl (o_ gk) nk ck P7 n7 r7) 30/\aX wx (w) (z_ (some ⟨bf,of,none⟩) C.gq.length ak A2 m2 c2 A3 C.ie.length c3 A4 C.ib.length c4 A5 m5 c5 A6 m6 c6 A7 m7 c7) 30/\wx.heap[w.heap.size+1]?=some (bF)/\s_ w wx);{refine aY (S:=TS Sx gf m q gk) 174 15 (inL [0,1,2,3,4,5,6,7,8,9,10,11,12,14]) (fun wx=>dV wx Sx (w4) gf nf cf m nr cr (S_ Pz nz rz) (S_ Pg ng rg) q nl cl gk nk ck (S_ P7 n7 r7) (⟨C.gq.set j ⟨y.dev,y.ik,(bS y.c p ((i:Int)+1)).1,y.size,y.blocks,y.iz,y.iy,y.ja,y.iw,y.iu,y.iq,y.seq⟩,C.gu,(dD C.ie u k).1,(cJ C.ib t gp 1).1,C.ia.set t (pH l ((i:Int)+1) (acB clk (X_ y.c p) l.act.length)),C.ig,C.it⟩:Ck)/\aX wx X (z_ (o_ gf) nf cf (o_ m) nr cr Pz nz rz Pg ng rg (o_ q) nl cl (o_ gk) nk ck P7 n7 r7) 30/\aX wx (w) (z_ (some ⟨bf,of,none⟩) C.gq.length ak A2 m2 c2 A3 C.ie.length c3 A4 C.ib.length c4 A5 m5 c5 A6 m6 c6 A7 m7 c7) 30/\wx.heap[w.heap.size+1]?=some (bF)/\s_ w wx) [SK.eq (.pointer (some ⟨X,4,none⟩)),SK.eq (S_ (some ⟨q,0,none⟩) nl cl),SK.eq (I_ t),SK.eq (.pointer (some ⟨w,4,none⟩)),SK.eq (S_ (some ⟨bl,ol,none⟩) C.ia.length c5),SK.eq (I_ t),SK.eq (.pointer (some ⟨bl,ol+t*3,none⟩)),SK.eq (.agg #[S_ E1 u1 v1,S_ E2 u2 v2,S_ E3 u3 v3]),SK.eq (I_ ((i:Int)+1)),SK.eq (.bool (acB clk (X_ y.c p) l.act.length)),SK.lr2 (TS Sx gf m q gk) (pH l ((i:Int)+1) (acB clk (X_ y.c p) l.act.length)) (if gX l ((i:Int)+1)=true then 5 else 0) (fun _ h=>h),SK.lr2 (TS Sx gf m q gk) (pH l ((i:Int)+1) (acB clk (X_ y.c p) l.act.length)) (if gX l ((i:Int)+1)=true then 5 else 0) (fun _ h=>h),SK.lr (TS Sx gf m q gk) (pH l ((i:Int)+1) (acB clk (X_ y.c p) l.act.length)) (fun _ h=>h),SK.eq (I_ (if gX l ((i:Int)+1)=true then 5 else 0)),SK.eq (.pointer (some ⟨q,t*3,none⟩)),SK.any] p_ p_ rfl (fun _=>trivial) ?_;refine qP fun v0=>?_;simp only[ly];refine e_ rfl rfl (fun xw A s K D=>?_) (fun v1=>?_);{obtain rfl:v0=_:=s 0 p_;have o:s_ wc xw:=A;have u0:=(o.cell (p:=⟨X,_,none⟩) bv).trans o4;go_simp;exact D _ _ A K_ rfl};simp only[ly];refine qP fun v2=>qP fun v3=>?_;simp only[ly];refine e_ rfl rfl (fun xw A s K D=>?_) (fun v4=>?_);{obtain rfl:v3=_:=s 3 p_;have o:s_ wc xw:=A;have u0:=(o.cell (p:=⟨w,_,none⟩) bw).trans J;go_simp;exact D _ _ A K_ rfl};simp only[ly];refine qP fun v5=>qP fun v6=>?_;simp only[ly];refine e_ rfl rfl (fun xw A s K D=>?_) (fun v7=>?_);{obtain rfl:v6=_:=s 6 p_;have o:s_ wc xw:=A;have u0:=(o.cell (p:=⟨bl,_,none⟩) a2).trans l0;have u1:=(o.cell (p:=⟨bl,_,none⟩) a2).trans l1;have u2:=(o.cell (p:=⟨bl,_,none⟩) a2).trans l2;go_simp;exact D _ _ A K_ rfl};simp only[ly];refine qP fun v8=>qP fun v9=>?_;simp only[ly];refine e_ rfl rfl (fun xw A s K D=>?_) (fun v10=>?_);{obtain rfl:v7=_:=s 7 p_;obtain rfl:v8=_:=s 8 p_;obtain rfl:v9=_:=s 9 p_;have o:s_ wc xw:=A;go_simp;go_at_call 135;refine (j4_ ((i:Int)+1) (acB clk (X_ y.c p) l.act.length) (HA.je (h_ V.o o)) (HI.lok t l ao.o) ⟨O_,O_⟩ (f3 _ (dX dr o.size))).mono ?_;rintro e w1 ⟨q1,q2,q3,rfl,hA,hb⟩;exact D _ _ (h_ o hb) (r_.of_below hb) ⟨q1,q2,q3,rfl,hA⟩};simp only[ly];refine e_ rfl rfl (fun xw A s K D=>?_) (fun v11=>?_);{obtain ⟨q1,q2,q3,e,hA⟩:=s 10 p_;obtain rfl:v10=_:=e;go_simp;exact D _ _ A K_ ⟨q1,q2,q3,rfl,hA⟩};simp only[ly];refine e_ rfl rfl (fun xw A s K D=>?_) (fun v12=>?_);{obtain ⟨q1,q2,q3,e,hA⟩:=s 11 p_;obtain rfl:v11=_:=e;go_simp;exact D _ _ A K_ ⟨q1,q2,q3,rfl,hA⟩};simp only[ly];refine aD rfl (fun w=>r_.refl w) (fun xw s K D=>?_) (fun v13=>?_);{obtain ⟨q1,q2,q3,e,hA⟩:=s 11 p_;obtain rfl:v11=_:=e;go_simp;exact D _ rfl};simp only[ly];refine qP fun v14=>?_;simp only[ly];refine F_ (fun xw A s K D=>?_) (fun v15=>?_);{obtain rfl:v14=_:=s 14 p_;obtain ⟨q1,q2,q3,e,hA⟩:=s 12 p_;obtain rfl:v12=_:=e;have o:s_ wc xw:=A;obtain ⟨B1,j1,fo,rfl⟩:=hA.1.cap;obtain ⟨B2,fu,fp,rfl⟩:=hA.2.1.cap;obtain ⟨B3,j3,fq,rfl⟩:=hA.2.2.cap;have r:=cm.je o;have cj:=LW.there r.ia (i:=t) eb (p:=0) (n:=3) O_;rw [Nat.add_zero] at cj;refine aQ (ops:=#[]) rfl (mY rfl 119 (.tmp 152) (.tmp 150) rfl q (t*3) #[S_ B1 j1 fo,S_ B2 fu fp,S_ B3 j3 fq] rfl rfl cj dJ (sE) ?_);refine D undef _ ⟨r.putLists (M_ xw q (t*3) _) (r.ia.set eb ⟨_,_,_,rfl,hA⟩) A_,?_,?_,?_,?_⟩ (r_.of_setCells _ _ _ _ (fun h=>h.2.2.2.1 rfl)) trivial;{exact (x_ q _ (t*3) xw X O_).trans (k_ a4.o o)};{exact (x_ q _ (t*3) xw (w) O_).trans (k_ ap.o o)};{exact (x_ q _ (t*3) xw (w+1) O_).trans (k_ cy.o o)};exact aW (h_ V.o o) O_ _ _};simp only[ly];refine N_ ?_;intro wz hD hG;clear hG;go_wp2;go_meet;exact hD};clear a2 l0 l1 l2 HA cm a4 ap cy V dr;clear x0 N O P J M Q o0 o4 bw bv;obtain ⟨de,dg,dm,di,dk⟩:=hcut;obtain ⟨cn,b5,d9,cz,d5⟩:=h5_ de dg dm di dk;clear de dg dm di dk;have ds:X+1<=wc.heap.size:=l_ b5;have e9:=fun w'=>ja_ w';have ci:=fun w'=>hB_ w';have av:=H_ (show lE y p=if kB y p then wT else dH_ from rfl);generalize dH_=B at e9 av;generalize wT=gH at ci av;go_upto_region 18 with fail;go_upto_region 19 with (go_at_call 136;refine CM (e9 _) ?_;rintro e w14 ⟨rfl,aq⟩;have co:=H_ (cn.je aq);obtain ⟨cu,da,d0,d6⟩:=dZ b5 d9 cz d5 aq;have fa:=dX ds aq.size;clear aq);obtain ⟨Y,hY⟩:=bB w14.heap.size;have ab:=H_ (m_ w14 (.cells #[.string (B).data,I_ (B).ip,I_ (B).ij] 83) Y hY.symm);have a9:=H_ ((co.but Y (Nat.le_of_eq hY.symm)).je (b_ B_ (.cells #[.string (B).data,I_ (B).ip,I_ (B).ij] 83)));have aa:=H_ (n_ cu (.cells #[.string (B).data,I_ (B).ip,I_ (B).ij] 83));have a8:=H_ (n_ da (.cells #[.string (B).data,I_ (B).ip,I_ (B).ij] 83));have ac:=H_ (n_ d0 (.cells #[.string (B).data,I_ (B).ip,I_ (B).ij] 83));have a7:=H_ (b_ d6 (.cells #[.string (B).data,I_ (B).ip,I_ (B).ij] 83));rw [<-hY];generalize w14.alloc (.cells #[.string (B).data,I_ (B).ip,I_ (B).ij] 83)=g5 at ab a9 aa a8 ac a7;have g6:X<Y:=O_;clear hY cn b5 d9 cz d5 ds co cu da d0 d6 fa e9;have b1:=eh.o;obtain ⟨z0,z1,z2,z3,z4,z5,z6,z7,z8,z9,za,zb,zc,zd,ze⟩:=zc (a7.block _ cd) b1;obtain ⟨x0,N,O,P,J,M,Q⟩:=J_ a8.o;have am:=fun w'=>cG_ y kt KB kc p hp w';simp only[Fl.v,Fl.rowT] at am;cases h3:kB y p with|true=>rw [h3] at am;have b8:=H_ (show lE y p=gH by rw [av.o,h3];rfl);clear h3;go_upto_region 21 with (first|(go_at_call 137;refine CM (am _) ?_;rintro e w16 ⟨rfl,E⟩;have cx:=eO ab E;have cp:=H_ (a9.je E);obtain ⟨cv,db,d3,d7⟩:=dZ aa a8 ac a7 E;clear E)|(go_at_call 138;refine CM (ci _) ?_;rintro e w17 ⟨rfl,ar⟩;have b7:=eO cx ar;have cq:=H_ (cp.je ar);obtain ⟨cw,dc,d4,d8⟩:=dZ cv db d3 d7 ar;clear ar)|(refine cL rfl 83 (.tmp 24) (.tmp 161) rfl rfl Y #[.string (gH).data,I_ (gH).ip,I_ (gH).ij] rfl rfl 83 _ b7 cS rfl (eJ) ?_));clear x0 N O P J M Q z0 z1 z2 z3 z4 z5 z6 z7 z8 z9 za zb zc zd ze am ci av;have a5:=H_ (setRow_heap w17 Y _ #[.string (gH).data,I_ (gH).ip,I_ (gH).ij] _ _ b7);have L:=H_ (cq.setRowX Y #[.string (gH).data,I_ (gH).ip,I_ (gH).ij] (fun I=>I.2 rfl) O_);generalize hW9:w17.setRow Y #[.string (gH).data,I_ (gH).ip,I_ (gH).ij]=fk at a5 L;have U:=srx hW9 cw;have bj:=srx hW9 dc;have ad:=srx hW9 d4;have af:=srl hW9 d8;clear hW9;clear ab a9 aa a8 ac a7 cx cp cv db d3 d7 b7 cq cw dc d4 d8;have o1:=a_ U 1;have pp:=a5.o;have p0:=a_ pp 0;have p1:=a_ pp 1;have p2:=a_ pp 2;simp only[zl] at o1 p0 p1 p2;clear pp;have ai:=H_ (LW.there L.gu bt (p:=0) (n:=9) O_);rw [Nat.add_zero] at ai;go_upto_region 22 with (first|(refine mY rfl 85 (.tmp 171) (.tmp 170) rfl m (i*9) (zR (j:Int) (p:Int) ((gH).data) ((gH).ip) ((gH).ij) (t:Int) 0 0 0) rfl rfl ai tN (yR ⟨j,p,gH,t,0,0,0⟩) ?_)|fail);have R:=H_ (L.frame bt ⟨j,p,gH,t,0,0,0⟩);rw [show (⟨j,p,gH,t,0,0,0⟩:Fr).row=[I_ j,I_ p,.string (gH).data,I_ (gH).ip,I_ (gH).ij,I_ t,I_ 0,I_ 0,I_ 0] from rfl] at R;generalize hW9:fk.setCells m (i*9) _=fl at R;have b6:=zW hW9 U;have ae:=zW hW9 ad;have be:=sml hW9 af;clear hW9;clear o1 p0 p1 p2 ai L U bj ad af a5;obtain ⟨x0,N,O,P,J,M,Q⟩:=J_ b6.o;go_wp2_with (refine G_ rfl (.tmp 12) (.tmp 172) rfl rfl rfl rfl ae rfl ?_);show bodyPost prog f72 _ _ _ _;refine bodyPost_ret (qJ rfl rfl rfl rfl (setRow_heap _ _ _ _ _ _ ae)) rfl ?_;refine ⟨rZ C j p t i y l gp (dD C.ie u k).1 (acB clk (X_ y.c p) l.act.length),_,_,_,_,_,_,_,_,_,.inr ⟨rfl,HV.o,i,_,rfl,ei.o,bc.o,rfl⟩,rfl,?_,f_ be.o O_ _⟩;have bs:=((R.setRow (w+1) (z_ (o_ gf) nf cf (o_ m) nr cr Pz nz rz Pg ng rg (o_ q) nl cl (o_ gk) nk ck P7 n7 r7) (fun I=>(s1 _ (c0 _ I.1).1).2.2 rfl) O_).jf (bA _) (fun z I=>(s1 z (c0 z I.1).1).1) (fun z I=>hS z O_)).at_;unfold rZ;rw [b8.o];exact bs|false=>rw [h3] at am;have b8:=H_ (show lE y p=B by rw [av.o,h3];rfl);clear h3;go_upto_region 21 with (first|(go_at_call 137;refine CM (am _) ?_;rintro e w18 ⟨rfl,E⟩;have a5:=eO ab E;have L:=H_ (a9.je E);obtain ⟨U,bj,ad,af⟩:=dZ aa a8 ac a7 E;clear E));clear ab a9 aa a8 ac a7;clear x0 N O P J M Q z0 z1 z2 z3 z4 z5 z6 z7 z8 z9 za zb zc zd ze am ci av;have o1:=a_ U 1;have pp:=a5.o;have p0:=a_ pp 0;have p1:=a_ pp 1;have p2:=a_ pp 2;simp only[zl] at o1 p0 p1 p2;clear pp;have ai:=H_ (LW.there L.gu bt (p:=0) (n:=9) O_);rw [Nat.add_zero] at ai;go_upto_region 22 with (first|(refine mY rfl 85 (.tmp 171) (.tmp 170) rfl m (i*9) (zR (j:Int) (p:Int) ((B).data) ((B).ip) ((B).ij) (t:Int) 0 0 0) rfl rfl ai tN (yR ⟨j,p,B,t,0,0,0⟩) ?_)|fail);have R:=H_ (L.frame bt ⟨j,p,B,t,0,0,0⟩);rw [show (⟨j,p,B,t,0,0,0⟩:Fr).row=[I_ j,I_ p,.string (B).data,I_ (B).ip,I_ (B).ij,I_ t,I_ 0,I_ 0,I_ 0] from rfl] at R;generalize hW9:w18.setCells m (i*9) _=fl at R;have b6:=zW hW9 U;have ae:=zW hW9 ad;have be:=sml hW9 af;clear hW9;clear o1 p0 p1 p2 ai L U bj ad af a5;obtain ⟨x0,N,O,P,J,M,Q⟩:=J_ b6.o;go_wp2_with (refine G_ rfl (.tmp 12) (.tmp 172) rfl rfl rfl rfl ae rfl ?_);show bodyPost prog f72 _ _ _ _;refine bodyPost_ret (qJ rfl rfl rfl rfl (setRow_heap _ _ _ _ _ _ ae)) rfl ?_;refine ⟨rZ C j p t i y l gp (dD C.ie u k).1 (acB clk (X_ y.c p) l.act.length),_,_,_,_,_,_,_,_,_,.inr ⟨rfl,HV.o,i,_,rfl,ei.o,bc.o,rfl⟩,rfl,?_,f_ be.o O_ _⟩;have bs:=((R.setRow (w+1) (z_ (o_ gf) nf cf (o_ m) nr cr Pz nz rz Pg ng rg (o_ q) nl cl (o_ gk) nk ck P7 n7 r7) (fun I=>(s1 _ (c0 _ I.1).1).2.2 rfl) O_).jf (bA _) (fun z I=>(s1 z (c0 z I.1).1).1) (fun z I=>hS z O_)).at_;unfold rZ;rw [b8.o];exact bs};have d2:((dD C.ie u k).2.2 != 0)=true:=bne_iff_ne.2 an;have bc:=H_ an;clear an;go_wp2_with (refine G_ rfl (.tmp 12) (.tmp 91) rfl rfl rfl rfl bb rfl ?_);show bodyPost prog f72 _ _ _ _;refine bodyPost_ret (qJ rfl rfl rfl rfl (setRow_heap _ _ _ _ _ _ bb)) rfl ?_;exact ⟨C,_,_,_,_,_,_,_,_,_,.inl ⟨bc.o,rfl,.inr (.inr bc.o)⟩,rfl,(H.je (f_ bh.o O_ _)).jf (fun z _ I=>(s1 z I).1),f_ bh.o O_ _⟩};have d1:((cJ C.ib t gp 1).2 != 0)=true:=bne_iff_ne.2 b0;have dv:=H_ b0;clear b0;go_wp2_with (refine G_ rfl (.tmp 12) (.tmp 78) rfl rfl rfl rfl ba rfl ?_);show bodyPost prog f72 _ _ _ _;refine bodyPost_ret (qJ rfl rfl rfl rfl (setRow_heap _ _ _ _ _ _ ba)) rfl ?_;exact ⟨C,_,_,_,_,_,_,_,_,_,.inl ⟨dv.o,rfl,.inr (.inl dv.o)⟩,rfl,(H.je (f_ bg.o O_ _)).jf (fun z _ I=>(s1 z I).1),f_ bg.o O_ _⟩};obtain ⟨i,x,f5,hU,fs⟩:=HI.findOk HJ.o p O_;have ch:∀w',s_ w w'->C_ 59 #[aZ (S_ (some ⟨bf,of,none⟩) C.gq.length ak) (S_ A2 m2 c2) (S_ A3 C.ie.length c3) (S_ A4 C.ib.length c4) (S_ A5 m5 c5) (S_ A6 m6 c6) (S_ A7 m7 c7),I_ j,I_ p] w' (fun e ee=>e = .returned (.tuple #[I_ ((i:Int)+1),.bool true])/\s_ w' ee):=fun w' hb=>(by have:=cg w' hb;unfold dP tM at this;rw [if_neg hv,f5] at this;exact this);have HV:=H_ (show 0<X_ y.c p by omega);clear cg hv f5 hU fs;go_wp2_with (first | (go_at_call 59;refine CM (ch _ bd) ?_;rintro e w2 ⟨rfl,bq⟩;obtain ⟨bk,aw,ax⟩:=bN c9 dy bd bq;clear bq x0 N O P J M Q;obtain ⟨x0,N,O,P,J,M,Q⟩:=J_ bk.o) | (refine G_ rfl (.tmp 12) (.tmp 68) rfl rfl rfl rfl aw.o rfl ?_));show bodyPost prog f72 _ _ _ _;refine bodyPost_ret (qJ rfl rfl rfl rfl (setRow_heap _ _ _ _ _ _ aw)) rfl ?_;exact ⟨C,_,_,_,_,_,_,_,_,_,.inl ⟨bY,rfl,.inl HV.o⟩,rfl,(H.je (f_ ax.o O_ _)).jf (fun z _ I=>(s1 z I).1),f_ ax.o O_ _⟩
end
section
variable {F G Z:Nat}
abbrev oS (F G Z:Nat) (S:Nat->Prop) (w:World) (e:Ending) (w':World):Prop:=fD (fun C'=>bW F G Z C') S w e w'
def fD.inv {P:Ck->Prop} {e:Ending} (hP:∀C',P C'->bW F G Z C') (h:fD P S w e w'):oS F G Z S w e w':=by obtain ⟨C',er,a,b,c,d,e',f,g,h1,h2,h3,h4⟩:=h;exact ⟨C',er,a,b,c,d,e',f,g,hP _ h1,h2,h3,h4⟩
def jL_ (F G Z:Nat) (S:Nat->Prop) (w:World) (e:Ending) (w':World):Prop:=∃C' err a b c d e' f g rq,bW F G Z C'/\e = .returned (.tuple #[aZ a b c d e' f g,rq,I_ err])/\w_ w' S a b c d e' f g C'/\s_ w w'
section
variable (C:Ck) (i:Nat) (x:Fr) (a b c d e f g:Value) (S:Nat->Prop) (w:World) (h:w_ w S a b c d e f g C) (hI:bW F G Z C) (hx:C.gu[i]?=some x) (hf:x.file≠-1) (hS:∀z,w.heap.size<=z->S z)
include h hI hx hf hS
def iR_ (n:Int) (hn:-1<=n/\n<=1):C_ 167 #[aZ a b c d e f g,I_ ((i:Int)+1),I_ n] w (oS F G Z S w):=by obtain ⟨j,y,hu,_⟩:=hI.used hx hf;exact (iS_ n h hI.ok hu O_ hS).mono fun e w' he=>fD.inv (fun C'=>hI.putP hu) he
def bb_ (n:Int) (hn:1<=n/\n<=3):C_ 90 #[aZ a b c d e f g,I_ ((i:Int)+1),I_ n] w (oS F G Z S w):=by obtain ⟨j,y,hu,_⟩:=hI.used hx hf;exact (sV n h hI.ok hu hn hS).mono fun e w' he=>fD.inv (fun C'=>hI.putP hu) he
def xJ (t:ByteArray) (ok:Bool) (ht:t.size=16):C_ 91 #[aZ a b c d e f g,I_ ((i:Int)+1),.string t,.bool ok] w (oS F G Z S w):=by obtain ⟨j,y,hu,_⟩:=hI.used hx hf;exact (dZ_ t ok h hI.ok hu ht hS).mono fun e w' he=>fD.inv (fun C'=>hI.putP hu) he
def j7_ (n:Int):C_ 17 #[aZ a b c d e f g,I_ ((i:Int)+1),I_ n] w (oS F G Z S w):=by obtain ⟨j,y,hu,_⟩:=hI.used hx hf;exact (j9_ n h hI.ok hu (hI.file j y hu.fl).err hS).mono fun e w' he=>fD.inv (fun C'=>hI.putQ hu) he
def gR_:C_ 11 #[aZ a b c d e f g,I_ ((i:Int)+1)] w (jL_ F G Z S w):=by obtain ⟨j,y,l,_⟩:=hI.used hx hf;obtain ⟨s,q,k⟩:=(hI.file j y l.fl).ik;refine (gT_ s h hI.ok l q k hI.pok hS).mono fun e w' p=>?_;obtain ⟨m,er,a,b,c,d,n,f,g,rq,h1,h2,h3,o⟩:=p;exact ⟨m,er,a,b,c,d,n,f,g,rq,hI.putB l h1,h2,h3,o⟩
def hb_:C_ 166 #[aZ a b c d e f g,I_ ((i:Int)+1)] w (oS F G Z S w):=by obtain ⟨j,y,o,_⟩:=hI.used hx hf;obtain ⟨t,k,l,q,z,m,p,n⟩:=hI.goneH o;refine (hc_ m h hI.ok o p n hS).mono fun e w' s=>fD.inv (fun u r=>?_) s;rcases r with rfl | ⟨v,zz,hv,rfl⟩;{exact hI};exact hI.gone o p hv _ (by rw [kM];exact hI.nk)
end
def kA {F G:Nat} (hI:bW F G Z C) (hj:j<F):∃y sz,C.gq[j]?=some y/\y.size=((sz:Nat):Int)/\sz<=128:=by
 have hl:j<C.gq.length:=by rw [hI.nf];exact hj
 obtain ⟨sz,h1,h2⟩:=(hI.file j _ (cM hl)).size;exact ⟨_,sz,cM hl,h1,h2⟩
def InQ (F G Z:Nat) (j p:Nat) (C':Ck) (n err:Int):Prop:=bW F G Z C'/\(err=0->∃(i:Nat) (x:Fr) (y':Fl),n=(i:Int)+1/\C'.gq[j]?=some y'/\gQ C' i x j y'/\x.gx=p)
section
variable (C:Ck) (j:Nat) (a b c d e f g:Value) (S:Nat->Prop) (w:World) (h:w_ w S a b c d e f g C) (hI:bW F G Z C) (hj:j<F) (hS:∀z,w.heap.size<=z->S z)
include h hI hj hS
def hE_ (off n:Nat) (h2:off+n<=128):C_ 38 #[aZ a b c d e f g,I_ j,I_ off,I_ n] w (oS F G Z S w):=by obtain ⟨y,sz,hy,hsz,_⟩:=kA hI hj;exact hF_ j off n sz y h hI hy hsz h2 hS
def cl_ (sn:Nat) (h2:sn<=128):C_ 35 #[aZ a b c d e f g,I_ j,I_ sn] w (oS F G Z S w):=by obtain ⟨y,sz,hy,hsz,_⟩:=kA hI hj;exact cm_ j sn sz y h hI hy hsz h2 hS
def g9_ (pr pa p:Nat) (wr0:Bool) (hpr:pr<8) (hpa:pa<64) (hp8:p<8):C_ 168 #[aZ a b c d e f g,I_ pr,I_ pa,I_ j,I_ p,.bool wr0] w (oS F G Z S w):=by obtain ⟨y,sz,hy,hsz,_⟩:=kA hI hj;exact ha_ pr pa j p sz y wr0 h hI hy hsz hpr hpa hp8 hS
def eK_ (off:Nat) (s:ByteArray) (h1:1<=s.size) (h2:off+s.size<=128):C_ 34 #[aZ a b c d e f g,I_ j,I_ off,.string s] w (oS F G Z S w):=by obtain ⟨y,sz,o,i,_⟩:=kA hI hj;refine (as_ C j off sz y s a b c d e f g S w h hI o i h1 h2 hS).mono fun e w' n=>?_;obtain ⟨k,er,a,b,c,d,l,f,g,h1,h2,h3,m⟩:=n;exact ⟨k,er,a,b,c,d,l,f,g,h1.1,h2,h3,m⟩
def aK_ (p t k:Nat) (u:Bool) (hp:p<8) (ht:t<G) (hk:k<Z):C_ 72 #[aZ a b c d e f g,I_ j,I_ p,I_ t,I_ k,.bool u] w (h7_ (InQ F G Z j p) S w):=by
 obtain ⟨y,sz,o,z,_⟩:=kA hI hj;have m:t<C.ia.length:=by rw [hI.nl];exact ht
 have l:t<C.ib.length:=by rw [hI.ng];exact ht
 have hc:t<C.ig.length:=by rw [hI.nk];exact ht
 refine (uT C j p t k u y _ _ _ a b c d e f g S w h hI o hp (cM m) (cM l) (cM hc) (by rw [hI.nz];exact hk) hS).mono fun e w' v=>?_;obtain ⟨q,n,er,a,b,c,d,r,f,g,h1,h2,h3,s⟩:=v;obtain ⟨A,B⟩:=h1.inv hI o hp ht (cM m) (cM l);refine ⟨q,n,er,a,b,c,d,r,f,g,⟨A,fun h0=>?_⟩,h2,h3,s⟩;obtain ⟨i,x,J,D,E,H,I,_⟩:=B h0;exact ⟨i,x,J,D,E,H,I⟩
end
end
section
variable {τ:Type} {S:Nat->Prop}
abbrev GH (τ:Type):=Option Nat × Option τ
def KG (S:Nat->Prop) (g:GH τ) (w:World) (g':GH τ) (w':World):Prop:=
 w.heap.size<=w'.heap.size/\(∀z,S z->g'.1≠some z->z<w.heap.size->w'.heap[z]?=w.heap[z]?)/\(g'.1=g.1\/g.1=none/\∀z,g'.1=some z->w.heap.size<=z)/\(g'.2=g.2\/g.2=none)
def KG.of_ks {g:GH τ} (h:r_ S w w'):KG S g w g w':=⟨h.1,fun z hz _ hl=>h.2 z hz hl,.inl rfl,.inl rfl⟩
def KG.of_below {g:GH τ} (h:s_ w w'):KG S g w g w':= .of_ks (.of_below h)
def KG.ans {t:τ} (h:s_ w w'):KG S (r,none) w (r,some t) w':=⟨h.size,fun z hz _ hl=>h.block z hl,.inl rfl,.inr rfl⟩
def KG.alloc {r:Option τ} (o:Obj):KG S (none,r) w (some w.heap.size,r) (w.alloc o):=⟨A_,fun z _ _ hl=>(aJ (w) w |>.alloc (bA _) o).block z hl,.inr ⟨rfl,fun z hz=>by injection hz with hz;omega⟩,.inl rfl⟩
def KG.store {r:Option τ} (cs:Array Value):KG S (some Z,r) w (some Z,r) (w.setRow Z cs):=⟨by simp [World.setRow],fun z _ hn _=>setRow_other _ _ _ _ (fun e=>hn (by rw [e])),.inl rfl,.inl rfl⟩
def Sg (S:Nat->Prop) (g:GH τ) (z:Nat):Prop:=S z/\g.1≠some z
def KG.s {g g':GH τ} (h:KG S g w g' w'):r_ (Sg S g') w w':=⟨h.1,fun z hz hl=>h.2.1 z hz.1 hz.2 hl⟩
def KG.up {g g':GH τ} (h:KG S g w g' w'):∀z,z<w.heap.size->Sg S g z->Sg S g' z:=fun z hl hz=>⟨hz.1,fun e=>by
 rcases h.2.2.1 with h1 | ⟨h1,h2⟩
 ·exact hz.2 (h1 ▸ e)
 ·have:=h2 z e;omega⟩
structure SG (S:Nat->Prop) (τ:Type) where
 p:GH τ->Value->World->Prop
 st:∀v g w g' w',KG S g w g' w'->p g v w->p g' v w'
def SG.any:SG S τ:=⟨fun _ _ _=>True,fun _ _ _ _ _ _ h=>h⟩
def SG.eq (x:Value):SG S τ:=⟨fun _ v _=>v=x,fun _ _ _ _ _ _ h=>h⟩
def SG.box:SG S τ:=⟨fun g v _=>∃z,v = P_ z/\g.1=some z,fun _ g _ g' _ h ⟨z,h1,h2⟩=>⟨z,h1,by
 rcases h.2.2.1 with h3 | ⟨h3,_⟩
 ·rw [h3];exact h2
 ·rw [h3] at h2;cases h2⟩⟩
structure RQ (τ:Type) where
 q:World->(Nat->Prop)->τ->Value->Prop
 st:∀w w' S t v,r_ S w w'->q w S t v->q w' S t v
 wk:∀w S S' t v,(∀b,b<w.heap.size->S b->S' b)->q w S t v->q w S' t v
def SG.res (R:RQ τ):SG S τ where
 p g v w:=∃t,g.2=some t/\R.q w (Sg S g) t v
 st v g w g' w' h:=fun ⟨t,h1,h2⟩=>by
  refine ⟨t,?_,R.st _ _ _ _ _ h.s (R.wk _ _ _ _ _ h.up h2)⟩
  rcases h.2.2.2 with h3 | h3
  ·rw [h3];exact h1
  ·rw [h3] at h1;cases h1
def RQ.flat (f:τ->Value):RQ τ:=⟨fun _ _ t v=>v=f t,fun _ _ _ _ _ _ h=>h,fun _ _ _ _ _ _ h=>h⟩
def GG (ls:List (SG S τ)) (g:GH τ) (j:Nat) (v:Value) (w:World):Prop:=(ls.getD j SG.any).p g v w
def GG.keep {ls:List (SG S τ)} {g g':GH τ} (h:KG S g w g' w') (j:Nat) (v:Value) (hg:GG ls g j v w):GG ls g' j v w':=(ls.getD j SG.any).st v g w g' w' h hg
structure CG (bx cl s:Nat) (B:World->Prop) (N:Nat) (o:Obj) (I:τ->Prop) (D:τ->World->Nat->Prop) (g:GH τ) (d:Nat->Bool) (x:World):Prop where
 b:B x
 nb:d bx=false->g.1=none
 nc:d cl=false->g.2=none
 bo:∀z,g.1=some z->N<=z/\z<x.heap.size/\(d s=false->x.heap[z]?=some o)
 an:∀t,g.2=some t->I t
 st:d s=true->∃z t,g=(some z,some t)/\D t x z
def nds {a p:Bool} (hp:a=true->p=false) (h:p=true):a=false:=by cases ha:a with|false=>rfl|true=>rw [hp ha] at h;cases h
def U_ {d:Nat->Bool} {i j:Nat} (h:(j == i)=false):aC d i j=d j:=by unfold aC;rw [h,Bool.or_false]
def cQ (d:Nat->Bool) (i:Nat):aC d i i=true:=by simp [aC]
section
variable {bx cl s i:Nat} {B:World->Prop} {N:Nat} {o:Obj} {I:τ->Prop} {D:τ->World->Nat->Prop} {g:GH τ} {d:Nat->Bool} {x y:World}
def CG.pure (h:CG bx cl s B N o I D g d x) (i:Nat) (h1:(bx == i)=false) (h2:(cl == i)=false) (h3:(s == i)=false):CG bx cl s B N o I D g (aC d i) x:=
 ⟨h.b,fun e=>h.nb (by rwa [U_ h1] at e),fun e=>h.nc (by rwa [U_ h2] at e),fun z hz=>by rw [U_ h3];exact h.bo z hz,h.an,fun e=>h.st (by rwa [U_ h3] at e)⟩
def CG.grown (h:CG bx cl s B N o I D g d x) (i:Nat) (h1:(bx == i)=false) (h2:(cl == i)=false) (h3:(s == i)=false) (hd:d s=false) (hg:x.grownBy y r) (hr:∀k,r=some k->k<N) (hB:B y):CG bx cl s B N o I D g (aC d i) y:=
 ⟨hB,fun e=>h.nb (by rwa [U_ h1] at e),fun e=>h.nc (by rwa [U_ h2] at e),fun z c=>by
  obtain ⟨f,a,j⟩:=h.bo z c;exact ⟨f,fG a hg.size,fun _=>(hg.block z a (fun b=>by have:=hr z b.symm;omega)).trans (j hd)⟩,h.an,fun e=>by rw [U_ h3,hd] at e;cases e⟩
def CG.je (h:CG bx cl s B N o I D g d x) (i:Nat) (h1:(bx == i)=false) (h2:(cl == i)=false) (h3:(s == i)=false) (hd:d s=false) (hb:s_ x y) (hB:B y):CG bx cl s B N o I D g (aC d i) y:=
 h.grown i h1 h2 h3 hd (aE hb none) (fun k hk=>by cases hk) hB
def CG.boxed {r:Option τ} (h:CG bx cl s B N o I D (none,r) d x) (h2:(cl == bx)=false) (h3:(s == bx)=false) (hd:d s=false) (hN:N<=x.heap.size) (o':Obj) (ho:(x.alloc o').heap[x.heap.size]?=some o) (hB:B (x.alloc o')):CG bx cl s B N o I D (some x.heap.size,r) (aC d bx) (x.alloc o'):=
 ⟨hB,fun e=>(by rw [cQ] at e;cases e),fun e=>h.nc (by rwa [U_ h2] at e),fun z hz=>by
  injection hz with hz
  subst hz;exact ⟨hN,A_,fun _=>ho⟩,h.an,fun e=>by rw [U_ h3,hd] at e;cases e⟩
def CG.called {t:τ} (h:CG bx cl s B N o I D (r,none) d x) (h1:(bx == cl)=false) (h3:(s == cl)=false) (hd:d s=false) (hb:s_ x y) (hB:B y) (hI:I t):CG bx cl s B N o I D (r,some t) (aC d cl) y:=
 ⟨hB,fun e=>h.nb (by rwa [U_ h1] at e),fun e=>(by rw [cQ] at e;cases e),fun z c=>by
  obtain ⟨f,b,g⟩:=h.bo z c;exact ⟨f,fG b hb.size,fun _=>(hb.block z b).trans (g hd)⟩,fun i a=>by injection a with a;subst a;exact hI,fun e=>by rw [U_ h3,hd] at e;cases e⟩
def CG.stored {t:τ} {cs:Array Value} (h:CG bx cl s B N o I D (some z,some t) d x) (hB:B (x.setRow z cs)) (hD:D t (x.setRow z cs) z):CG bx cl s B N o I D (some z,some t) (aC d s) (x.setRow z cs):=
 ⟨hB,fun e=>absurd (h.nb (by unfold aC at e;simp at e;exact e.1)) A_,fun e=>absurd (h.nc (by unfold aC at e;simp at e;exact e.1)) A_,fun f a=>by
  obtain ⟨b,c,_⟩:=h.bo f a;exact ⟨b,by simpa [World.setRow] using c,fun e=>(by rw [cQ] at e;cases e)⟩,h.an,fun _=>⟨z,t,rfl,hD⟩⟩
end
def pC {A:Act} (m s:Nat) (pl:Nat->Bool) (C:GH τ->(Nat->Bool)->World->Prop) (ls:List (SG S τ))
  (hm:P.follows .mixedOrders=true) (hB:nJ l.toArray m s pl=true) (hs:A.tmps.size=m) (hC:C (none,none) (fun _=>false) {W with drawn:=W.drawn+1}) (hs0:(List.range l.toArray.size).all (fun i=>(l.toArray[i]?).all (fun o=>o.dst.isSome)||i == s)=true) (hs1:∀g w,GG ls g s undef w)
  (h:dM P l.toArray C (GG ls) s pl (fun a'=>∀g d w',(∀j,j<l.toArray.size->d j=true)->C g d w'->(∀j,j<l.toArray.size->GG ls g j (fH l.toArray a' j) w')->wpList P l.toArray Q [] a' w') 0 l A):(Code.region id l.toArray true).wp P Q A W:=
 aU m s pl C (GG ls) (none,none) hm hB hs hC (fun i o a b g v w f=>by
  have c:i<l.toArray.size:=(Array.getElem?_eq_some_iff.1 a).1;have:=List.all_eq_true.1 hs0 i (List.mem_range.2 c);rw [a] at this;simp [b] at this;subst this;exact hs1 g w) h
end
section
def jN_ (l:List Int) (S:Nat->Prop) (w:World) (e:Ending) (w':World):Prop:=∃v,e = .returned v/\LO Z_ 3 w' (w) S v l/\s_ w w'
def hw_ (off n:Nat) (S:Nat->Prop) (w:World) (h1:1<=n) (h2:off+n<=128):C_ 88 #[I_ off,I_ n] w (jN_ (aP off n) S w):=by have r:=fun w'=>kU (off:Int) (n:Int) w' O_ O_ O_ O_;have H:¬((n:Int)<1):=O_;have y:((off:Int):Int).tdiv 16=((off / 16:Nat):Int):=(by rw [tv_ O_];rfl);have z:(off:Int) / 16=((off / 16:Nat):Int):=(by rfl);obtain ⟨a,q,C,D⟩:∃a:Nat,off / 16=a/\a*16<=off/\off<a*16+16:=⟨off / 16,rfl,O_,O_⟩;have B:=H_ (show aP off n=pgL a ((off+n+15) / 16 - a) by rw [<-q];rfl);rw [q] at y z;clear q;go_enter func88,ntmps88;go_upto_region 5 with (go_at_call 93;(with_reducible refine CM (r _) ?_);rintro e w1 ⟨rfl,rfl⟩);clear y z;go_loopw [5,6] (fun u i wx=>∃k:Nat,i = I_ ((a+k:Nat):Nat)/\k<=9/\(k=0\/(a+k)*16<off+n+16)/\LO Z_ 3 wx (w) S u (pgL a k)/\s_ w wx) (fun _ i _=>100 - (intOf i).toNat);{exact ⟨0,rfl,O_,.inl rfl,LO.nil _ _ _ _ _,aJ _ _⟩};obtain ⟨k,rfl,G,v,x,o⟩:=hrel;have p:=H_ x;have m:=H_ o;clear x o;by_cases l:(a+k)*16<off+n;{have g:=H_ (a2_ a k);obtain ⟨j,f⟩:=bB (a+k);rw [<-f] at g l ⊢;have c:=H_ f;have E:j<=8:=O_;have F:((j:Int)*16)<(off:Int)+n:=O_;clear f;go_wp2_with (at_builtin;(refine Q_ cW rfl (.tmp 25) (.tmp 27) rfl S rfl (p.alloc _) (by have:=m.size;simp;omega) (by rw [tT];omega) #[I_ j] rfl (m_ _ _ _ rfl) (j:Int) rfl ?_);intro v4 w4 d s t);go_roundw;{exact ⟨k+1,by have:=c.o;go_num,by have:=c.o;omega,by have:=c.o;omega,by rw [g.o];exact d,(b_ m.o _).grown s (b_ m.o _).size (fun b o=>(p.own o).1)⟩};exact bT};have A:=H_ (show aP off n=pgL a k by rw [B.o];congr 1;omega);obtain ⟨j,f⟩:=bB (a+k);rw [<-f] at l ⊢;have F:¬((j:Int)*16)<(off:Int)+n:=O_;have E:j<=20:=O_;clear f;go_wp2;go_ret;exact ⟨_,rfl,by rw [A.o];exact p,m.o⟩
section
variable {F G Z:Nat} {S:Nat->Prop} {W w Wk wx wy:World} {bt X R N:Nat} {K:Option Nat} {a b c d e f g:Value} {C:Ck}
structure PB (F G Z:Nat) (S:Nat->Prop) (W w Wk:World) (bt X R N:Nat) (K:Option Nat) (a b c d e f g:Value) (C:Ck) (wx:World):Prop where
 pc:PC F G Z S W w Wk bt X R K a b c d e f g C wx
 old:w_ wx (fun z=>Sx S X R K z/\z<N) a b c d e f g C
 xn:X<N
 rn:R<N
 kn:∀z,K=some z->z<N
 wn:w.heap.size<=N
 nn:N<=wx.heap.size
def PC.pb (h:PC F G Z S W w Wk bt X R K a b c d e f g C wx):PB F G Z S W w Wk bt X R (wx) K a b c d e f g C wx:=
 ⟨h,h.at_.jf (fun z hz h=>⟨h,hz⟩),l_ h.box,l_ h.res,fun z hz=>(h.kk z hz).1,h.gb.size,bA _⟩
def PB.je (h:PB F G Z S W w Wk bt X R N K a b c d e f g C wx) (hb:s_ wx wy):PB F G Z S W w Wk bt X R N K a b c d e f g C wy:=
 ⟨h.pc.je hb,h.old.je hb,h.xn,h.rn,h.kn,h.wn,dX h.nn hb.size⟩
def PB.aside (h:PB F G Z S W w Wk bt X R N K a b c d e f g C wx) (hz:N<=z) (cs:Array Value):PB F G Z S W w Wk bt X R N K a b c d e f g C (wx.setRow z cs):=by have k:=h.old.kept (r_.of_setRow wx z cs (fun q=>by omega));have h1:=h.xn;have h2:=h.rn;have h3:=h.wn;have i:=h.pc;refine ⟨⟨i.inv,k.jf (fun z _ hz=>hz.1),(setRow_other _ _ _ _ O_).trans i.box,(setRow_other _ _ _ _ O_).trans i.res,i.tp.gb (eW _ _ _) (oh_ i.bw),yT i.gb O_,fun l j=>?_,i.xw,i.rw_,i.bw,i.xr,i.nS,i.fS⟩,k,h1,h2,h.kn,h3,by simpa [World.setRow] using h.nn⟩;obtain ⟨m,n,o,p⟩:=i.kk l j;have:=h.kn l j;exact ⟨by simpa [World.setRow] using m,n,o,(setRow_other _ _ _ _ O_).trans p⟩
end
def c3_ {W1 wx:World} {u:Value} {L:List Int} (ho:LO Z_ 3 wx (W1) (fun z=>W1.heap.size<=z) u L) (hl:1<=L.length) (ha:∀z ∈ L,0<=z/\z<8) (hn:L.length<=20) (hb:s_ W1 wx):∃(gl cl:Nat) (L:List Int),u = S_ (some ⟨gl,0,none⟩) L.length cl/\W1<=gl/\gl<wx/\(∀(k:Nat) (z:Int),L[k]?=some z->wx.cell? ⟨gl,k,none⟩=some (I_ z))/\(∀z ∈ L,0<=z/\z<8)/\L.length<=20/\s_ W1 wx:=by obtain ⟨gl,cl,rfl,_,_,h1,b⟩:=ho.lw hl;refine ⟨gl,cl,L,rfl,h1,b.lt,fun k z c=>?_,ha,hn,hb⟩;obtain ⟨r,a,hc⟩:=b.at_ c;have a:r=[I_ z]:=a;subst a;have:=hc 0 _ rfl;rw [Nat.mul_one,Nat.add_zero] at this;exact this
def RQ.ck3:RQ (Ck × Int × Int):=⟨fun w S t v=>∃a b c d e f g,v = .tuple #[aZ a b c d e f g,I_ t.2.1,I_ t.2.2]/\w_ w S a b c d e f g t.1,fun _ _ _ _ _ hk ⟨a,b,c,d,e,f,g,h1,h2⟩=>⟨a,b,c,d,e,f,g,h1,h2.kept hk⟩,fun _ _ _ _ _ hS ⟨a,b,c,d,e,f,g,h1,h2⟩=>⟨a,b,c,d,e,f,g,h1,h2.jf hS⟩⟩
def RQ.ck {τ:Type} (f0:τ->Ck):RQ τ:=⟨fun w S t v=>∃a b c d e f g,v=aZ a b c d e f g/\w_ w S a b c d e f g (f0 t),fun _ _ _ _ _ hk ⟨a,b,c,d,e,f,g,h1,h2⟩=>⟨a,b,c,d,e,f,g,h1,h2.kept hk⟩,fun _ _ _ _ _ hS ⟨a,b,c,d,e,f,g,h1,h2⟩=>⟨a,b,c,d,e,f,g,h1,h2.jf hS⟩⟩
def ct_ {a:Int} (ha:0<=a/\a<=3):0<=bits .andNot .i64 3 a/\bits .andNot .i64 3 a<=3:=by obtain rfl | rfl | rfl | rfl:a=0\/a=1\/a=2\/a=3:=O_;all_goals decide
def zZ.used {x:Fr} (h:zZ C i j x y C') (hu:gQ C i x j y):∃x2,C'.gu[i]?=some x2/\x2.file≠-1:=by rcases h with rfl | ⟨x',_,h2,_,_,rfl⟩;{exact ⟨x,hu.fr,by rw [hu.ix];omega⟩};exact ⟨x',aT hu.fr,by rw [h2,hu.ix];omega⟩
end
section
structure Pl where
 dev:Int
 ik:Int
def Pl.row (x:Pl):List Value:=[I_ x.dev,I_ x.ik]
def PlR:RR Pl 2:=RR.flat Pl.row (fun a=>⟨rfl,fun u hu=>by
 simp only[Pl.row,pP,List.not_mem_nil,or_false] at hu
 rcases hu with rfl | rfl <;> rfl⟩)
structure zY (L:List Pl):Prop where
 each:∀x ∈ L,0<=x.dev/\x.dev<4/\0<=x.ik/\x.ik<7
 pos:1<=L.length
 few:L.length<=8
 dup:∀(i k:Nat) (x y:Pl),k<i->L[i]?=some x->L[k]?=some y->y.dev≠x.dev\/y.ik≠x.ik
def PlA.cells {A:Option Addr} {n cap:Nat} {L:List Pl} (h:LA PlR w S (S_ A n cap) L) {x:Pl} (hi:L[i]?=some x):∃b o,A=some ⟨b,o,none⟩/\b<w.heap.size/\w.cell? ⟨b,o+i*2,none⟩=some (I_ x.dev)/\w.cell? ⟨b,o+i*2+1,none⟩=some (I_ x.ik):=by obtain ⟨b,o,cap',r,hv,c1,c2,hb,hS,hp,hc⟩:=h.at_ hi;injection hv with e1 _ _;have hp:r=x.row:=hp;subst hp;exact ⟨b,o,e1,hb,hc 0 _ rfl,hc 1 _ rfl⟩
def fN_ {L:List Pl} (h:LA PlR w S v L) (ok:zY L):C_ 81 #[v] w (bM true w):=by obtain ⟨A,cap,rfl,K,n⟩:=h.form;obtain ⟨j,Z,l2,l⟩:=ok;obtain ⟨H,D,C⟩:=dY h j l;have n1:(1:Int)<=(L.length:Int):=O_;have n2:(L.length:Int)<=8:=O_;have t:=fun w'=>c9_ w';unfold maxLen at n;clear h j l;go_enter func81,ntmps81;go_wp2;go_loopw [3,4] (fun i _ wx=>∃k:Nat,i = I_ k/\k<=L.length/\s_ w wx) (fun i _ _=>L.length - (intOf i).toNat);{exact ⟨0,rfl,O_,aJ _ _⟩};obtain ⟨k,rfl,X,g⟩:=hrel;have a:=H_ g;clear g;by_cases r:k<L.length;{obtain ⟨x,m⟩:∃x,L[k]?=some x:=⟨_,cM r⟩;obtain ⟨b,o,rfl,J,c0,c1⟩:=PlA.cells (H.je a.o) m;obtain ⟨O,P,Q,R⟩:=D.o x (iI m);have f:=H_ m;have N:(k:Int)<L.length:=O_;have E:decide (x.dev<0)=false:=dF O_;have F:decide (4<=x.dev)=false:=dF O_;have G:decide (x.ik<0)=false:=dF O_;have I:decide (7<=x.ik)=false:=dF O_;clear m;go_upto_region 4 with fail;go_quiet ((go_at_call 146;exact Calls.quiet_of_eq (t _)));have d:=H_ (below_drewN a.o nq);clear a E F G I O P Q R c0 c1;go_wp2;go_loopw [4] (fun i wx=>∃q:Nat,i = I_ q/\q<=k/\s_ w wx) (fun i _=>k - (intOf i).toNat);{exact ⟨0,rfl,O_,d.o⟩};obtain ⟨q,rfl,Y,g⟩:=hrel;have a:=H_ g;clear g d;by_cases s:q<k;{obtain ⟨y,u⟩:∃y,L[q]?=some y:=⟨_,cM O_⟩;obtain ⟨U,o1,e1,z,c0,c1⟩:=PlA.cells (H.je a.o) f.o;obtain ⟨V,o2,e2,B,c2,W⟩:=PlA.cells (H.je a.o) u;injection e1 with e1;injection e1 with e11 e12;injection e2 with e2;injection e2 with e21 e22;subst e11 e12 e21 e22;have c:=C k q x y s f u;have qk:(q:Int)<k:=O_;have ql:(q:Int)<L.length:=O_;clear u;by_cases p:y.dev=x.dev;{have M:¬y.ik=x.ik:=(by rcases c with h | h;{exact absurd p h};exact h);clear c;go_upto_region 9 with fail;go_quiet (fail);go_wp2;go_roundw;{exact ⟨q+1,by go_num,O_,below_drewN a.o nq⟩};exact bT};clear c;go_upto_region 9 with fail;go_quiet (fail);go_wp2;go_roundw;{exact ⟨q+1,by go_num,O_,below_drewN a.o nq⟩};exact bT};obtain rfl:k=q:=O_;go_wp2;go_roundw;{exact ⟨k+1,by go_num,O_,a.o⟩};exact bT};obtain rfl:k=L.length:=O_;go_wp2;go_ret;exact ⟨rfl,a.o⟩
end
section
abbrev GP:=Option (Value × Bool)
def KPh (g:GP) (w:World) (g':GP) (w':World):Prop:=(g=none/\g'=none/\s_ w w')\/(g'≠none/\∀v p,g=some (v,p)->∃p',g'=some (v,p'))
structure PF where
 p:GP->Value->World->Prop
 st:∀v g w g' w',KPh g w g' w'->p g v w->p g' v w'
def PF.any:PF:=⟨fun _ _ _=>True,fun _ _ _ _ _ _ h=>h⟩
def PF.eq (x:Value):PF:=⟨fun _ v _=>v=x,fun _ _ _ _ _ _ h=>h⟩
def PF.p0 (q:SP):PF:=⟨fun g v w=>g=none->q.p v w,fun v g w g' w' h hp hg=>by
 rcases h with ⟨h1,_,h3⟩ | ⟨h1,_⟩
 ·exact q.st v w w' h3 (hp h1)
 ·exact absurd hg h1⟩
def PF.res:PF:=⟨fun g v _=>∃p,g=some (v,p),fun v g w g' w' h ⟨p,hp⟩=>by
 rcases h with ⟨h1,_,_⟩ | ⟨_,h2⟩
 ·rw [h1] at hp;cases hp
 ·exact h2 v p hp⟩
def GF (ls:List PF) (g:GP) (j:Nat) (v:Value) (w:World):Prop:=(ls.getD j PF.any).p g v w
def GF.keep {ls:List PF} {g g':GP} (h:KPh g w g' w') (j:Nat) (v:Value) (hg:GF ls g j v w):GF ls g' j v w':=(ls.getD j PF.any).st v g w g' w' h hg
structure zT (s t:Nat) (P0:World->Prop) (P1 P2:Value->World->Prop) (g:GP) (d:Nat->Bool) (x:World):Prop where
 n0:d s=false->g=none
 n1:d t=false->∀v,g≠some (v,true)
 c0:g=none->P0 x
 c1:∀v,g=some (v,false)->P1 v x
 c2:∀v,g=some (v,true)->P2 v x
 fin:d t=true->∃v,g=some (v,true)
section
variable {s t:Nat} {P0:World->Prop} {P1 P2:Value->World->Prop} {g:GP} {d:Nat->Bool} {x y:World}
def zT.start (h:P0 x):zT s t P0 P1 P2 none (fun _=>false) x:=⟨fun _=>rfl,fun _ v h=>(by cases h),fun _=>h,fun v h=>(by cases h),fun v h=>(by cases h),fun h=>(by cases h)⟩
def zT.pure (h:zT s t P0 P1 P2 g d x) (i:Nat) (h1:(s == i)=false) (h2:(t == i)=false):zT s t P0 P1 P2 g (aC d i) x:=
 ⟨fun e=>h.n0 (by rwa [U_ h1] at e),fun e=>h.n1 (by rwa [U_ h2] at e),h.c0,h.c1,h.c2,fun e=>h.fin (by rwa [U_ h2] at e)⟩
def zT.je (h:zT s t P0 P1 P2 none d x) (i:Nat) (h1:(s == i)=false) (h2:(t == i)=false) (hP:P0 y):zT s t P0 P1 P2 none (aC d i) y:=
 ⟨fun e=>rfl,fun e v h=>(by cases h),fun _=>hP,fun v h=>(by cases h),fun v h=>(by cases h),fun e=>(by
  obtain ⟨v,hv⟩:=h.fin (by rwa [U_ h2] at e)
  cases hv)⟩
def zT.app (h:zT s t P0 P1 P2 none d x) (h2:(t == s)=false) (hP:P1 v y):zT s t P0 P1 P2 (some (v,false)) (aC d s) y:=
 ⟨fun e=>(by rw [cQ] at e;cases e),fun e v h=>(by injection h with h;injection h with _ h;cases h),fun e=>(by cases e),fun a e=>(by injection e with e;injection e with e _;subst e;exact hP),fun v h=>(by injection h with h;injection h with _ h;cases h),fun e=>(by
  obtain ⟨v,hv⟩:=h.fin (by rwa [U_ h2] at e)
  cases hv)⟩
def zT.sto (h:zT s t P0 P1 P2 (some (v,false)) d x) (h2:(s == t)=false) (hP:P2 v y):zT s t P0 P1 P2 (some (v,true)) (aC d t) y:=
 ⟨fun e=>absurd (h.n0 (by rwa [U_ h2] at e)) A_,fun e=>(by rw [cQ] at e;cases e),fun e=>(by cases e),fun a e=>(by injection e with e;injection e with _ e;cases e),fun a e=>(by injection e with e;injection e with e _;subst e;exact hP),fun _=>⟨v,rfl⟩⟩
end
def zO {A:Act} (m s t:Nat) (pl:Nat->Bool) (P0:World->Prop) (P1 P2:Value->World->Prop) (ls:List PF)
  (hm:P.follows .mixedOrders=true) (hB:nJ l.toArray m s pl=true) (hs:A.tmps.size=m) (hC:P0 {W with drawn:=W.drawn+1}) (hs0:(List.range l.toArray.size).all (fun i=>(l.toArray[i]?).all (fun o=>o.dst.isSome)||i == t)=true) (hs1:∀g w,GF ls g t undef w)
  (h:dM P l.toArray (zT s t P0 P1 P2) (GF ls) s pl (fun a'=>∀g d w',(∀j,j<l.toArray.size->d j=true)->zT s t P0 P1 P2 g d w'->(∀j,j<l.toArray.size->GF ls g j (fH l.toArray a' j) w')->wpList P l.toArray Q [] a' w') 0 l A):(Code.region id l.toArray true).wp P Q A W:=
 aU m s pl (zT s t P0 P1 P2) (GF ls) none hm hB hs (zT.start hC) (fun i o a b g v w f=>by
  have c:i<l.toArray.size:=(Array.getElem?_eq_some_iff.1 a).1;have:=List.all_eq_true.1 hs0 i (List.mem_range.2 c);rw [a] at this;simp [b] at this;subst this;exact hs1 g w) h
end
section
def kD (p:Pl):Fl:=⟨p.dev,p.ik,eN,0,0,0,0,0,0,0,0,0⟩
def yV:Lr:=⟨[],[],[]⟩
def vV (Ls:List Pl) (sz:List Int) (gs:List Gr):Ck:=⟨Ls.map kD,List.replicate (fT (bX 1 sz)) jI,bX 1 sz,gs,List.replicate gs.length yV,List.replicate gs.length 0,[]⟩
def dG_ {p:Pl}:jY.p w S (kD p) ((kD p).rowT 0 none 0):=
 ⟨0,none,0,fun i=> .inl rfl,aS.zero,bA _,.nil _,rfl⟩
theorem jB:∀(l:List Int) (a:Int),(∀n ∈ l,1<=n)->(fT (bX a l):Int)=cX l
 | [],_,_=>rfl
 | x :: l,a,h=>by
  have ih:=jB l (a+x) (fun n b=>h n (List.mem_cons_of_mem _ b));have c:=h x (List.mem_cons_self ..);have e:cX (x :: l)=x+cX l:=by unfold cX;rw [List.foldl_cons,nY];omega
  have e2:fT (bX a (x :: l))=x.toNat+fT (bX (a+x) l):=by
   show fT (dI_ a x :: bX (a+x) l)=_
   unfold fT;rw [List.map_cons,List.sum_cons]
   congr 1
   exact dd_ a x.toNat
  rw [e,e2];omega
def dx_ (p:Int):X_ eN p=0:=by unfold X_;split <;> rfl
theorem cQ_:∀(l:List Int) (a:Int) (z:Zn) (f:Int),(∀n ∈ l,1<=n)->z ∈ bX a l->f ∈ z.free->a<=f/\f<a+cX l
 | [],_,z,f,_,h,_=>by cases h
 | x :: l,a,z,f,hn,h,hf=>by
  have hx:=hn x (List.mem_cons_self ..);have e:cX (x :: l)=x+cX l:=by unfold cX;rw [List.foldl_cons,nY];omega
  have c:0<=cX l:=by rw [<-jB l 0 (fun n b=>hn n (List.mem_cons_of_mem _ b))];omega
  rcases List.mem_cons.1 h with rfl | h
  ·have:=de_ (show f ∈ xR a x.toNat from hf);omega
  ·have:=cQ_ l (a+x) z f (fun n b=>hn n (List.mem_cons_of_mem _ b)) h hf;omega
def yU {F G Z:Nat} {Ls:List Pl} {sz:List Int} {gs:List Gr} (hF:Ls.length=F) (hG:gs.length=G) (hZ:sz.length=Z) (hf:1<=F/\F<=3/\1<=G/\G<=2/\1<=Z/\Z<=2) (hP:zY Ls) (hz:tB sz) (hg:fW gs):bW F G Z (vV Ls sz gs) where
 few:=hf
 nf:=by simp [vV,hF]
 nr:=by
  have:=jB sz 1 hz.each;have h1:=hz.all;have h2:1<=cX sz:=by
   have a:sz[0]?=some sz[0]:=cM hz.pos;have:=hz.each _ (iI a);have:=(hz.part 0 O_).2.2 _ a;have:=(hz.part 0 O_).1;omega
  simp only[vV,rL_];omega
 ng:=hG
 nl:=by simp [vV,hG]
 nk:=by simp [vV,hG]
 nz:=by simp [vV,lF,hZ]
 ten:=fun i x a=>by
  have a:(List.replicate _ jI)[i]?=some x:=a;obtain rfl:=(List.mem_replicate.1 (iI a)).2
  show (0:Int)<G
  omega
 file:=fun j y b=>by
  have b:(Ls.map kD)[j]?=some y:=b;rw [gP_] at b;obtain ⟨p,m,rfl⟩:=Option.map_eq_some_iff.1 b;obtain ⟨_,_,h3,n⟩:=hP.each p (iI m);exact ⟨⟨0,rfl,O_⟩,⟨p.ik.toNat,by show p.ik=_;omega,O_⟩,⟨by show (0:Int)<=0;omega,by show (0:Int)<=1000000;omega,Iff.rfl⟩,⟨⟨Int.le_refl 0,by show (0:Int)<=255;omega⟩,rfl,rfl,rfl,rfl⟩⟩
 frame:=fun i x a=>by
  have a:(List.replicate _ jI)[i]?=some x:=a;obtain rfl:=(List.mem_replicate.1 (iI a)).2;exact .inl rfl
 find:=fun j y p b h0=>by
  have b:(Ls.map kD)[j]?=some y:=b;rw [gP_] at b;obtain ⟨q,o,rfl⟩:=Option.map_eq_some_iff.1 b;have h0:0<X_ eN p:=h0;rw [dx_] at h0;omega
 free:=fun k z d f c=>by
  have d:(bX 1 sz)[k]?=some z:=d;have:=cQ_ sz 1 z f hz.each (iI d) c;have h2:=jB sz 1 hz.each;refine ⟨(f - 1).toNat,jI,O_,?_,rfl⟩
  show (List.replicate _ jI)[_]?=_
  rw [List.getElem?_replicate,if_pos O_]
 zok:=hz.ie
 zsum:=by
  show tR (bX 1 sz)=((List.replicate _ jI).length:Int)+1
  rw [xB,rL_,jB sz 1 hz.each];omega
 gok:=hg
 lok:=fun t l g=>by
  have g:(List.replicate _ yV)[t]?=some l:=g;obtain rfl:=(List.mem_replicate.1 (iI g)).2;exact ⟨fun x a=>(by cases a),List.nodup_nil,fun x a=>(by cases a),List.Pairwise.nil⟩
 pok:=⟨fun p m=>(by cases m),List.Pairwise.nil⟩
def wW (a:Value) (k n:Nat) (hk:0<k):(madeCells (Array.replicate k a) (n*k)).toList=(List.replicate n (List.replicate k a)).flatten:=by rw [List.flatten_replicate_replicate];apply List.ext_getElem?;intro i;by_cases h:i<n*k;{have b:i % k<k:=Nat.mod_lt _ hk;simp [madeCells,h,List.getElem?_replicate,b]};simp [madeCells,h,List.getElem?_replicate]
end
end Go.Proofs.YtehfhnbpnaiogaaGreatDoor
