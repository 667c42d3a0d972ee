/-
  Lemmas and contracts for the laws of this seat, part 10; several texts joined by a program.
-/
import Derived.Test.YtehfhnbpnaiogaaGreatDoorE09
import Derived.Test.YtehfhnbpnaiogaaGreatDoorE00
namespace Go.Proofs.YtehfhnbpnaiogaaGreatDoor
set_option linter.unusedVariables false
set_option linter.unusedSimpArgs false
set_option maxRecDepth 100000
set_option maxHeartbeats 16000000
open Go.RowKit Go.Proofs.Tryz IntKind
variable {C:Ck} {S:Nat->Prop} {j n o off:Nat} {w:World} {y:Fl}
section
variable {F G Z:Nat}
def dJ_ (P:Ck->Prop) (S:Nat->Prop) (w:World) (en:Ending) (w':World):Prop:=∃C' a b c d e f g,P C'/\en = .returned (cI a b c d e f g)/\x_ w' S a b c d e f g C'/\q_ w w'
def zF (F G Z off n j k:Nat) (C:Ck):Prop:=cE F G Z C/\∃y,C.files[j]?=some y/\∀(m:Nat) (p:Int),k<=m->(W_ off n)[m]?=some p->kU C j y off n true p
theorem tT {off n lo:Int}:∀{j:Nat},(∃i:Nat,i<j/\off<=lo+(i:Int)/\lo+(i:Int)<off+n)->0<eO off n lo j
 | 0,⟨i,h,_⟩=>by omega
 | j+1,⟨i,h,h1,h2⟩=>by
  unfold eO;have hb:=pK off n lo j
  by_cases e:i=j
  ·subst e;rw [if_pos ⟨h1,h2⟩];omega
  ·have:=tT (off:=off) (n:=n) (lo:=lo) (j:=j) ⟨i,O_,h1,h2⟩
   split <;> omega
theorem fs_ (h1:1<=n) (h2:o+n<=16):eL (o:Int) (n:Int)≠0:=by
 show (if jF (o:Int) (n:Int) 0 then (1:Int) else 0)+(if jF (o:Int) (n:Int) 1 then (2:Int) else 0)≠0
 by_cases a:o<8
 ·have:jF (o:Int) (n:Int) 0=true:=dT (tT ⟨o,a,O_,O_⟩);rw [this,if_pos rfl]
  split <;> omega
 ·have:jF (o:Int) (n:Int) 1=true:=dT (tT ⟨o - 8,O_,O_,O_⟩);rw [this,if_pos rfl]
  split <;> omega
theorem iE_ {a b:Int} (ha:0<=a/\a<=3) (hb:0<=b/\b<=3) (hn:b≠0):bits .or .i64 a b≠0:=by
 obtain rfl | rfl | rfl | rfl:a=0\/a=1\/a=2\/a=3:=O_
 all_goals (obtain rfl | rfl | rfl:b=1\/b=2\/b=3:=by omega) <;> decide
inductive xK (off n:Nat) (s:ByteArray) (j:Nat) (C0:Ck):Nat->Ck->Prop
 | zero:xK off n s j C0 0 C0
 | step {k i t at' fr ct:Nat} {C:Ck} {x x':Fr} {y:Fl} {l:Lr} {p:Int}:xK off n s j C0 k C->(W_ off n)[k]?=some p->dE C i x j y->x.page=p->D_ y.c p=(i:Int)+1->x'.pg.dirty≠0->C.lists[t]?=some l->(bD p off n=((at':Int),(ct:Int))/\at'+ct<=16/\1<=ct/\fr+ct<=n/\p*16+(at':Int) - (off:Int)=(fr:Int))->x'=⟨x.file,x.page,G_ x.pg at' (s.extract fr (fr+ct)),x.tenant,x.holds,x.reading,x.writing⟩->xK off n s j C0 (k+1) (zJ (eY C i j y x') t l i)
theorem kJ (a b:Int):0<=eL a b/\eL a b<=3:=by
 unfold eL mO
 cases jF a b 0 <;> cases jF a b 1 <;> simp
theorem kP {p:Pg} (h:jC p) {s:ByteArray} (hr:o+s.size<=16):jC (G_ p o s):=by
 obtain ⟨d,v,y⟩:=p;obtain ⟨h1,h2,h3,a⟩:=h
 dsimp only at h1 h2 h3 a
 have b:=kJ (o:Int) (s.size:Int);refine ⟨?_,or3 h2 b,or3 h3 b,?_⟩
 ·show (xR d s o).size=16
  unfold xR;rw [bA_,bA_,bE_,bE_];omega
 ·show bits .andNot .i64 (bits .or .i64 y (eL o s.size)) (bits .or .i64 v (eL o s.size))=0
  generalize eL o s.size=t at *;obtain rfl | rfl | rfl | rfl:v=0\/v=1\/v=2\/v=3:=O_
  all_goals (obtain rfl | rfl | rfl | rfl:y=0\/y=1\/y=2\/y=3:=by omega)
  all_goals (obtain rfl | rfl | rfl | rfl:t=0\/t=1\/t=2\/t=3:=by omega)
  all_goals first
   | decide
   | exact absurd a bX
theorem zF.next {k:Nat} (h:zF F G Z off n j k C) {i t:Nat} {x x':Fr} {l:Lr} {p:Int} (hk:(W_ off n)[k]?=some p) (hu:dE C i x j y) (hxp:x.page=p) (h1:fE x') (h2:x'.file=x.file) (h3:x'.page=x.page) (h4:x'.tenant=x.tenant) (hl:C.lists[t]?=some l):zF F G Z off n j (k+1) (zJ (eY C i j y x') t l i):=by
 obtain ⟨o,y',a,H⟩:=h;obtain rfl:y'=y:=aP (a.symm.trans hu.fl);have B:=o.put hu h1 h2 h3 h4 rfl (o.file j y' a) C.ptes o.pok;refine ⟨cE.acc B hl,{y' with c:=aT y'.c x'.page (x'.pg.dirty != 0) (x'.writing != 0)},w_ a,fun m q E f=>?_⟩
 obtain ⟨w,u,z,g,v,A⟩:=H m q O_ f;obtain ⟨L,I,s,hv⟩:=o.used hu.fr (by rw [hu.ix];omega);obtain ⟨_,rfl,rfl⟩:=hu.eq s;obtain ⟨D,hc⟩:=eE (c:=I.c) (p:=x.page) (by rw [hv];omega);have r:w≠i:=fun e=>by
  subst e;obtain rfl:u=x:=aP (g.fr.symm.trans hu.fr);rw [hxp] at v;obtain ⟨a1,J,K⟩:=br_ (fF hk);have b:=bK hk;have d:=bK f;rw [iV] at b d;rw [gJ _ _ _ b] at hk;rw [gJ _ _ _ d] at f;injection hk with hk
  injection f with f
  omega
 refine ⟨w,u,?_,⟨bY r g.fr,w_ a,g.ix,g.ok⟩,v,A⟩
 show D_ (aT _ _ _ _) q=_
 rw [h3,dG D hc];exact z
theorem ig_ {C0:Ck} (j off:Nat) (s:ByteArray) {a b c d e f g:Value} (h:x_ w S a b c d e f g C0) (hp:zF F G Z off s.size j 0 C0) (h1:1<=s.size) (h2:off+s.size<=128) (hS:∀z,w.heap.size<=z->S z) :
  C_ 96 #[cI a b c d e f g,I_ j,I_ off,.string s] w (dJ_ (fun C'=>zF F G Z off s.size j ((off+s.size+15) / 16 - off / 16) C'/\xK off s.size s j C0 ((off+s.size+15) / 16 - off / 16) C') S w):=by
 obtain ⟨S1,s1,s2,s3⟩:=oB hS;replace h:=h.weak s3;clear s3;obtain ⟨A1,m1,c1,A2,m2,c2,A3,m3,c3,A4,m4,c4,A5,m5,c5,A6,m6,c6,A7,m7,c7,rfl,rfl,rfl,rfl,rfl,rfl,rfl⟩:=x_.caps h;obtain ⟨n,hn⟩:=aZ s.size;rw [<-hn] at h1 h2 hp ⊢;have HN:=H_ hn;have bh:=fun w' (N:w.heap.size+1<w'.heap.size)=>sW off n (fun z=>w.heap.size+1<z) w' h1 h2 (fun b hb=>by omega);have bj:=fun (p:Nat) (hp:p<8) w'=>yG (p:Int) (off:Int) (n:Int) w' ⟨O_,O_⟩ ⟨O_,O_⟩ ⟨O_,O_⟩;have cv:(s.size:Int)=(n:Int):=O_
 have H:=H_ h;have ay:=H_ hp;clear h hp hn;go_enter func96,ntmps96
 go_upto_region 1 with fail
 generalize hW9:(w.alloc _).alloc _=W;obtain ⟨HX,HR,HW,HZ⟩:=fV hW9;clear hW9 HZ;have cp:w.heap.size+1<W.heap.size:=p_ HR
 go_upto_region 2 with (first
  | (go_at_call 88;refine CM (bh _ cp) ?_;rintro e w3 ⟨pv,rfl,bm,b7⟩;obtain ⟨az,af,ai⟩:=bN HX HR HW b7;have a2:=H_ (bm.old);clear bm b7)
  | fail)
 clear bh HX HR HW;obtain ⟨B,hB⟩:=aZ w3.heap.size;rw [<-hB] at a2;have d1:w.heap.size+1<B:=by rw [hB];exact p_ af
 obtain ⟨J,U⟩:=aZ ((off+n+15) / 16 - off / 16);have ci:(W_ off n).length=J:=by rw [iV,U]
 have d5:J<=9:=O_
 obtain ⟨A8,P,a8,_,_⟩:=a2.form;rw [ci] at a8;subst a8;have HB:=H_ hB;have ab:=H_ U;clear hB U;go_wp2
 go_loopw [10] (fun s10 wx=>∃(k:Nat) (C:Ck) (a b c d e f g:Value),s10 = I_ k/\k<=J/\zF F G Z off n j k C/\xK off n s j C0 k C/\aW wx (w) #[a,b,c,d,e,f,g] 30/\x_ wx S1 a b c d e f g C/\LA M_ wx (fun z=>w.heap.size+1<z/\z<B) (S_ A8 J P) (W_ off n)/\q_ w wx/\B<=wx.heap.size/\wx.heap[w.heap.size+1]?=some (cG)) (fun s10 _=>100 - (intOf s10).toNat)
 case atStart=>exact ⟨0,C0,_,_,_,_,_,_,_,rfl,O_,ay.out,.zero,az.out,H.step ai.out,a2.out,ai.out,by rw [HB.out];exact aQ _,af⟩
 case round=>
  clear a2 ai az af H ay;obtain ⟨k,C,a,b,c,d,e,f,g,rfl,hk,bk,bi,hX,r,hp,hb,cb,hR⟩:=hrel;have ax:=H_ bi;clear bi;obtain ⟨A1,m1,c1,rfl⟩:=r.files.cap;obtain ⟨A2,Q,rfl,q3,q4⟩:=r.frames.form;obtain ⟨A3,m3,c3,rfl⟩:=r.zones.cap;obtain ⟨A4,m4,c4,rfl⟩:=r.groups.cap;obtain ⟨A5,m5,c5,rfl⟩:=r.lists.cap;obtain ⟨A6,m6,c6,rfl⟩:=r.clocks.cap;obtain ⟨A7,m7,c7,rfl⟩:=r.ptes.cap;obtain ⟨HP,HW,HX,HR,HC,HS⟩:=h6_ hp hb hX hR r bk;have d4:=p_ hX;have d3:=p_ hR;obtain ⟨x0,x1,x2,x3,x4,x5,x6⟩:=aF hX;clear hb hX hR
  by_cases d7:k<J
  ·have D:=gJ off n k (by have:=ab.out;omega);have bn:=pS (off:=off) (n:=n) (k:=k) (by have:=ab.out;omega) h2;obtain ⟨p,bg⟩:=aZ (off / 16+k);rw [<-bg] at D bn;obtain ⟨r1,r2,r3⟩:=bn;have a6:=H_ D;obtain ⟨hI,y,hj,bo⟩:=bk;obtain ⟨i,x,ao,hU,bp,ap⟩:=bo k p (aQ _) D;obtain ⟨m,v,fr,a5,cd,bc,cg,bd⟩:∃m v fr:Nat,bD p off n=((m:Int),(v:Int))/\m+v<=16/\1<=v/\fr+v<=n/\(p:Int)*16+(m:Int) - (off:Int)=(fr:Int):=by
    by_cases ho:off<=p*16
    ·refine ⟨0,(min (off+n) ((p+1)*16)) - p*16,p*16 - off,?_,O_,O_,O_,O_⟩;unfold bD;rw [Int.max_eq_right O_];refine Prod.ext ?_ ?_ <;> (dsimp only;omega)
    ·refine ⟨off - p*16,(min (off+n) ((p+1)*16)) - off,0,?_,O_,O_,O_,O_⟩;unfold bD;rw [Int.max_eq_left O_];refine Prod.ext ?_ ?_ <;> (dsimp only;omega)
   have aq:∀w',C_ 151 #[I_ (p:Int),I_ (off:Int),I_ (n:Int)] w' (nK (.tuple #[I_ (m:Int),I_ (v:Int)]) w'):=fun w'=>by
    have:=bj p r3 w';rw [a5] at this;exact this
   have bz:=H_ (show bD p off n=((m:Int),(v:Int))/\m+v<=16/\1<=v/\fr+v<=n/\(p:Int)*16+(m:Int) - (off:Int)=(fr:Int) from ⟨a5,cd,bc,cg,bd⟩);rw [a5] at ap;obtain ⟨sub,X⟩:=aZ (s.extract fr (fr+v));have ar:sub.size=v:=by rw [X,bE_];have:=HN.out;omega
   have co:=fun w'=>aF_ x.pg.data x.pg.valid x.pg.dirty m sub w' hU.ok.pg (by rw [ar];omega) (by rw [ar];exact ap);have I:=H_ X;obtain ⟨b8,o8,cs,cn,_,_,M,cu,l0⟩:=IL.cell hp D;injection cn with e81 e82 e83
   subst e81 e82 e83;obtain ⟨bb,o,rfl,u,y0,y1,y2,y3,y4,y5,y6,y7,y8⟩:=FrA.cells r.frames hU.fr;have ch:=bK hU.fr;have i2:(i:Int)<(C.frames.length:Int):=O_
   have d6:C.frames.length<=100:=by have:=hI.nr;omega
   have ba:∀z,C_ 59 #[cI (S_ A1 m1 c1) (S_ (some ⟨bb,o,none⟩) C.frames.length Q) (S_ A3 m3 c3) (S_ A4 m4 c4) (S_ A5 m5 c5) (S_ A6 m6 c6) (S_ A7 m7 c7),I_ j,I_ p] (ext wr z) (fun e cq=>e = .returned (.tuple #[I_ ((i:Int)+1),.bool true])/\Below (ext wr z).heap.size (ext wr z) cq):=fun z=>by
    have:=gR j y p (r.step (n_ wr z)) hj;unfold eR wG at this;rw [ao,if_neg O_] at this;exact this
   obtain ⟨E,HI,b1,bv,HJ⟩:=h5_ hU hI bp ao hj;have xe:=aG wr;clear D bg hp r1 r2 ao hU bp ap a5 bo X hI hj r ar
   go_upto_region 5 with fail
   refine y_ s_ s_ ?_
   repeat (go_big_quiet_step ((exact aB (ba _))))
   refine wpQuiet_nil ?_;rintro w' ⟨z,rfl⟩;have ak:=H_ (d_ HW (n_ wr z));have a3:=H_ (i_ HX (n_ wr z));have ah:=H_ (i_ HR (n_ wr z));have ae:=H_ (HP.step (n_ wr z));have ac:=H_ (HC.step (n_ wr z));have cc:B<=(ext wr z).heap.size:=dO cb (n_ wr z).size;have ce:bb<(ext wr z).heap.size:=iS u (n_ wr z).size;replace y0:(ext wr z).cell? _=_:=(c_ ((n_ wr z).block _ u)).trans y0;replace y1:(ext wr z).cell? _=_:=(c_ ((n_ wr z).block _ u)).trans y1;replace y2:(ext wr z).cell? _=_:=(c_ ((n_ wr z).block _ u)).trans y2;replace y3:(ext wr z).cell? _=_:=(c_ ((n_ wr z).block _ u)).trans y3;replace y4:(ext wr z).cell? _=_:=(c_ ((n_ wr z).block _ u)).trans y4;replace y5:(ext wr z).cell? _=_:=(c_ ((n_ wr z).block _ u)).trans y5;replace y6:(ext wr z).cell? _=_:=(c_ ((n_ wr z).block _ u)).trans y6;replace y7:(ext wr z).cell? _=_:=(c_ ((n_ wr z).block _ u)).trans y7;replace y8:(ext wr z).cell? _=_:=(c_ ((n_ wr z).block _ u)).trans y8;replace l0:(ext wr z).cell? _=_:=(c_ ((n_ wr z).block _ M)).trans l0;clear xe x0 x1 x2 x3 x4 x5 x6 ba HW HX HR HP HC M u;generalize ext wr z=V at ak a3 ah ae ac y0 y1 y2 y3 y4 y5 y6 y7 y8 l0 cc ce;obtain ⟨x0,x1,x2,x3,x4,x5,x6⟩:=aF a3.out
   go_upto_region 8 with (go_at_call 151;refine CM (aq _) ?_;rintro e w4 ⟨rfl,rfl⟩)
   have O:=H_ (l_ V (oF x) (V) rfl);have al:=H_ (m_ a3 (oF x));have ag:=H_ (m_ ah (oF x));have aj:=H_ (b_ ak (oF x));have aa:=H_ ((ac.weak (S':=fun z=>S1 z/\z<V.heap.size) (fun z N h=>⟨h,N⟩)).step (b_ (aI (V) V) (oF x)));have ad:=H_ (ae.alloc (oF x));have bf:(V.alloc (oF x)).cell? ⟨b8,o8+k,none⟩=some (I_ (p:Int)):=by
    have:=(b_ (aI (V) V) (oF x)).cell (p:=⟨b8,o8+k,none⟩) (by show b8<V;omega);exact this.trans l0
   have av:V.heap.size<(V.alloc (oF x)).heap.size:=z_
   generalize V.alloc (oF x)=W5 at O al ag aj aa ad bf av;clear x0 x1 x2 x3 x4 x5 x6 y0 y1 y2 y3 y4 y5 y6 y7 y8 l0 a3 ah ak ae ac;obtain ⟨f0,f1,f2,f3,f4,f5,f6,f7,f8⟩:=sE O.out;have cw:(fr:Int)<=(fr:Int)+(v:Int):=O_
   have cx:(fr:Int)+(v:Int)<=(n:Int):=O_
   have cy:(0:Int)<=(fr:Int)+(v:Int):=O_
   have cz:((fr:Int)+(v:Int)).toNat=fr+v:=O_
   have d0:s.extract fr (fr+v)=sub:=I.symm
   go_upto_region 9 with fail
   have a4:=p_ O;have d2:w.heap.size+1<V.heap.size:=O_
   go_cut [] (fun wx=>aW wx (V) (pC x.file x.page ((G_ x.pg m sub).data) ((G_ x.pg m sub).valid) ((G_ x.pg m sub).dirty) x.tenant x.holds x.reading x.writing) 85/\aW wx (w) (E_ A1 m1 c1 (some ⟨bb,o,none⟩) C.frames.length Q A3 m3 c3 A4 m4 c4 A5 m5 c5 A6 m6 c6 A7 m7 c7) 30/\wx.heap[w.heap.size+1]?=some (cG)/\x_ wx (fun z=>S1 z/\z<V.heap.size) (S_ A1 m1 c1) (S_ (some ⟨bb,o,none⟩) C.frames.length Q) (S_ A3 m3 c3) (S_ A4 m4 c4) (S_ A5 m5 c5) (S_ A6 m6 c6) (S_ A7 m7 c7) C/\LA M_ wx (fun z=>w.heap.size+1<z/\z<B) (S_ (some ⟨b8,o8,none⟩) (W_ off n).length P) (W_ off n)/\q_ w wx/\V.heap.size<wx.heap.size)
   case first=>
    refine bG (S:=fun _=>False) 84 14 (inL [0,1,2,3,4,5,6,7,8,9,10,11,13]) (fun wx=>aW wx (V) (pC x.file x.page ((G_ x.pg m sub).data) ((G_ x.pg m sub).valid) ((G_ x.pg m sub).dirty) x.tenant x.holds x.reading x.writing) 85/\aW wx (w) (E_ A1 m1 c1 (some ⟨bb,o,none⟩) C.frames.length Q A3 m3 c3 A4 m4 c4 A5 m5 c5 A6 m6 c6 A7 m7 c7) 30/\wx.heap[w.heap.size+1]?=some (cG)/\x_ wx (fun z=>S1 z/\z<V.heap.size) (S_ A1 m1 c1) (S_ (some ⟨bb,o,none⟩) C.frames.length Q) (S_ A3 m3 c3) (S_ A4 m4 c4) (S_ A5 m5 c5) (S_ A6 m6 c6) (S_ A7 m7 c7) C/\LA M_ wx (fun z=>w.heap.size+1<z/\z<B) (S_ (some ⟨b8,o8,none⟩) (W_ off n).length P) (W_ off n)/\q_ w wx/\V.heap.size<wx.heap.size) [SK.eq (.pointer (some ⟨V,2,none⟩)),SK.eq (.agg #[.string x.pg.data,I_ x.pg.valid,I_ x.pg.dirty]),SK.eq (I_ (m:Int)),SK.eq (.string s),SK.eq (I_ (fr:Int)),SK.eq (I_ (fr:Int)),SK.eq (I_ (v:Int)),SK.eq (I_ ((fr:Int)+(v:Int))),SK.eq (.string sub),SK.eq (.tuple #[wV (G_ x.pg m sub).data (G_ x.pg m sub).valid (G_ x.pg m sub).dirty,I_ 0]),SK.eq (.tuple #[wV (G_ x.pg m sub).data (G_ x.pg m sub).valid (G_ x.pg m sub).dirty,I_ 0]),SK.eq (wV (G_ x.pg m sub).data (G_ x.pg m sub).valid (G_ x.pg m sub).dirty),SK.eq (I_ 0),SK.eq (.pointer (some ⟨V,2,none⟩)),SK.any] s_ s_ rfl (fun _=>trivial) ?_;refine qP fun v0=>?_;simp only[ly];refine k_ rfl rfl (fun xw r A K L=>?_) (fun v1=>?_)
    ·obtain rfl:v0=_:=A 0 s_;have q:q_ W5 xw:=r;have u0:=(q.cell (p:=⟨V,_,none⟩) a4).trans f2;have u1:=(q.cell (p:=⟨V,_,none⟩) a4).trans f3;have u2:=(q.cell (p:=⟨V,_,none⟩) a4).trans f4;go_simp;exact L _ _ r K_ rfl
    simp only[ly];refine qP fun v2=>qP fun v3=>?_;simp only[ly];refine qP fun v4=>qP fun v5=>qP fun v6=>?_;simp only[ly];refine k_ rfl rfl (fun xw r A K L=>?_) (fun v7=>?_)
    ·obtain rfl:v5=_:=A 5 s_;obtain rfl:v6=_:=A 6 s_;go_simp;exact L _ _ r K_ (by first | rfl | (show Value.int _ _=Value.int _ _;simp;done) | (show Value.int _ _=Value.int _ _;simp [IntKind.wrap_i64,wrap64];done) | (show Value.int _ _=Value.int _ _;simp [IntKind.wrap_i64];omega))
    simp only[ly];refine qP fun v8=>?_;simp only[ly];refine k_ rfl rfl (fun xw r A K L=>?_) (fun v9=>?_)
    ·obtain rfl:v1=_:=A 1 s_;obtain rfl:v2=_:=A 2 s_;obtain rfl:v8=_:=A 8 s_;have q:q_ W5 xw:=r;go_simp
     go_at_call 153
     refine (co xw).mono ?_;rintro e w1 ⟨rfl,hb⟩;exact L _ _ (d_ q hb) (r_.of_below hb) rfl
    simp only[ly];refine k_ rfl rfl (fun xw r A K L=>?_) (fun v10=>?_)
    ·obtain e:=A 9 s_;obtain rfl:v9=_:=e;go_simp;exact L _ _ r K_ rfl
    simp only[ly];refine k_ rfl rfl (fun xw r A K L=>?_) (fun v11=>?_)
    ·obtain e:=A 10 s_;obtain rfl:v10=_:=e;go_simp;exact L _ _ r K_ rfl
    simp only[ly];refine cD rfl (fun w=>r_.refl w) (fun xw A K L=>?_) (fun v12=>?_)
    ·obtain e:=A 10 s_;obtain rfl:v10=_:=e;go_simp;exact L _ rfl
    simp only[ly];refine qP fun v13=>?_;simp only[ly];refine aL (fun xw r A K L=>?_) (fun v14=>?_)
    ·obtain rfl:v13=_:=A 13 s_;obtain e:=A 11 s_;obtain rfl:v11=_:=e;have q:q_ W5 xw:=r;have aw:=i_ O q;have cj:=qD aw;refine aO (ops:=#[]) rfl (pF rfl 83 (.tmp 76) (.tmp 74) rfl (V) 2 #[.string (G_ x.pg m sub).data,I_ (G_ x.pg m sub).valid,I_ (G_ x.pg m sub).dirty] rfl rfl cj dB (eX) ?_);refine L undef _ ⟨pM aw,?_,?_,?_,?_,?_,?_⟩ (r_.of_setCells _ _ _ _ (fun h=>h)) trivial
     ·exact (u_ (V) _ 2 xw (w) O_).trans (i_ al.out q)
     ·exact (u_ (V) _ 2 xw (w+1) O_).trans (i_ ag.out q)
     ·exact (aa.step q).kept (r_.of_setCells _ _ _ _ (fun h=>absurd h.2 (Nat.lt_irrefl _)))
     ·exact (ad.step q).kept (r_.of_setCells _ _ _ _ (fun h=>by have:=h.2;omega))
     ·exact aS (d_ aj.out q) O_ _ _
     ·rw [cM];exact iS av q.size
    simp only[ly];refine aY ?_;intro wz hD hG;clear hG;go_wp2;go_meet
    case rel=>exact hD
   case rest=>
    clear f0 f1 f2 f3 f4 f5 f6 f7 f8 O al ag aj aa ad bf av a4;obtain ⟨b3,am,b5,b2,b4,b6,d8⟩:=hcut;obtain ⟨c9,c0,bq,bx,c8⟩:=h5_ am b5 b2 b4 b6;obtain ⟨x0,x1,x2,x3,x4,x5,x6⟩:=aF am;obtain ⟨f0,f1,f2,f3,f4,f5,f6,f7,f8⟩:=sE b3;have a9:sub.size=v:=by have:=I.out;rw [this,bE_];have:=HN.out;omega
    obtain ⟨t,ht⟩:∃t:Nat,x.tenant=t:=⟨x.tenant.toNat,by have:=E.ok.tenant;omega⟩;have cm:t<C.lists.length:=by have:=HI.ten i x E.fr;have:=HI.nl;omega
    obtain ⟨l,a7⟩:∃l,C.lists[t]?=some l:=⟨_,cU cm⟩;have au:fE ⟨x.file,x.page,G_ x.pg m sub,x.tenant,x.holds,x.reading,x.writing⟩:=⟨E.ok.page,E.ok.tenant,kP E.ok.pg (by have:=I.out;rw [this,bE_];have:=HN.out;omega),E.ok.holds,E.ok.reading,E.ok.writing⟩;have bw:=H_ (HI.put E au rfl rfl rfl rfl (HI.file j y E.fl) C.ptes HI.pok);have bu:=H_ (show (G_ x.pg m sub).dirty≠0 from iE_ E.ok.pg.d (kJ _ _) (fs_ (by rw [a9];exact bc) (by rw [a9];omega)));obtain ⟨HT,a1,ca⟩:=eT ht a7 au;have be:i<64:=by have:=HI.nr;omega
    have bl:=nE i j ⟨x.file,x.page,G_ x.pg m sub,x.tenant,x.holds,x.reading,x.writing⟩ y (bq.weak (fun z _ h=>h.1)) HI.ok ch E.fl E.ix (fun z N=>s2 z O_);have da:w.heap.size+1<wc.heap.size:=O_
    clear am b5 b2 b4 b6 b3 ht a7 au
    go_wp2_with (first
     | (go_at_call 55;(with_reducible refine CM bl ?_);rintro e w7 ⟨gf,nf,cf,gr,nr,cr,c',d',gl,nl,cl,gk,nk,ck,g',rfl,b9,an⟩;have br:=H_ b9;have d9:=an.size;have Y:=H_ an;clear b9 an)
     | (go_at_call 154;refine CM (dQ_ i t ⟨x.file,x.page,G_ x.pg m sub,x.tenant,x.holds,x.reading,x.writing⟩ br.at_ bw.ok (w_ E.fr) HT.out a1.out (HI.lok t l a1.out) be (fun z N=>s2 z O_)) ?_;rintro e w8 ⟨gf,nf,cf,gr,nr,cr,c',d',gl,nl,cl,gk,nk,ck,g',rfl,R,M⟩;obtain ⟨P3,n3,r3,rfl⟩:=R.zones.cap;obtain ⟨P4,n4,r4,rfl⟩:=R.groups.cap;obtain ⟨P7,n7,r7,rfl⟩:=R.ptes.cap;have bs:=H_ R;have a0:=H_ M;have b0:=H_ (i_ (i_ c9 Y.out) M);clear R M)
     | (refine aJ rfl (.tmp 4) (.tmp 82) rfl rfl rfl rfl b0 rfl ?_))
    go_roundw
    case rel=>
     exact ⟨k+1,zJ (eY C i j y ⟨x.file,x.page,G_ x.pg m sub,x.tenant,x.holds,x.reading,x.writing⟩) t l i,_,_,_,_,_,_,_,by go_num,O_,HS.out.next a6.out E.out b1.out ca.out rfl rfl rfl a1.out,.step ax.out a6.out E.out b1.out bv.out bu.out a1.out bz.out (by rw [<-I.out]),setRow_heap _ _ _ _ _ _ b0.out,bs.out.at_.kept (r_.of_setRow _ _ _ (fun N=>(s1 _ N).2.1 rfl)),((bx.out.step Y.out).step a0.out).kept (r_.of_setRow _ _ _ (fun N=>by have:=N.1;omega)),j_ (d_ (d_ c8.out Y.out) a0.out) (aQ _) _,by have:=a0.size;simp [World.setRow];omega,(setRow_other _ _ _ _ O_).trans (i_ (i_ c0.out Y.out) a0.out)⟩
    case measure=>exact bH
  ·obtain rfl:k=J:=O_
   go_wp2_with (refine aJ rfl (.tmp 8) (.tmp 83) rfl rfl rfl rfl HR rfl ?_)
   show bodyPost prog f96 _ _ _ _
   refine bodyPost_ret (mB rfl rfl (setRow_heap _ _ _ _ _ _ HR)) rfl ?_;exact ⟨C,_,_,_,_,_,_,_,by show zF _ _ _ _ _ _ _ _/\xK _ _ _ _ _ _ _;rw [<-ab.out];exact ⟨HS.out,ax.out⟩,rfl,(HC.kept (r_.of_setRow _ _ _ (fun N=>(s1 _ N).2.2 rfl))).weak (fun z _ N=>(s1 z N).1),j_ HW.out O_ _⟩
end
section
variable {F G Z:Nat}
theorem SoP.putS {C':Ck} (hI:cE F G Z C) (hj:C.files[j]?=some y) (h:SoP C j y C') (hu:∀p ∈ W_ off n,kU C j y off n true p):zF F G Z off n j 0 C':=by
 rcases h with rfl | ⟨i,x,s,hU,_,hs0,hs3,rfl⟩
 ·exact ⟨hI,y,hj,fun m p _ d=>hu p (fF d)⟩
 ·have q:fE ⟨x.file,x.page,aK x.pg s,x.tenant,x.holds,x.reading,x.writing⟩:=⟨hU.ok.page,hU.ok.tenant,mQ hU.ok.pg ⟨hs0,hs3⟩,hU.ok.holds,hU.ok.reading,hU.ok.writing⟩;obtain ⟨u,g,f,hv⟩:=hI.used hU.fr (by rw [hU.ix];omega);obtain ⟨_,rfl,rfl⟩:=hU.eq f;obtain ⟨t,hc⟩:=eE (c:=g.c) (p:=x.page) (by rw [hv];omega);refine ⟨hI.put hU q rfl rfl rfl rfl (hI.file u g hj) C.ptes hI.pok,_,w_ hj,fun m p _ d=>?_⟩;obtain ⟨b,x',r,a,k,l⟩:=hu p (fF d);have o:D_ (aT g.c x.page ((aK x.pg s).dirty != 0) (x.writing != 0)) p=(b:Int)+1:=by rw [dG t hc];exact r
  by_cases e:b=i
  ·subst e;obtain rfl:x'=x:=aP (a.fr.symm.trans hU.fr);exact ⟨b,_,o,⟨w_ hU.fr,w_ hj,hU.ix,q⟩,k,l⟩
  ·exact ⟨b,x',o,⟨bY e a.fr,w_ hj,a.ix,a.ok⟩,k,l⟩
def WrP (F G Z:Nat) (C:Ck) (j off n:Nat) (s:ByteArray) (sz:Nat) (y:Fl) (C':Ck) (err:Int):Prop:=cE F G Z C'/\(sz % 16=0->(∀p ∈ W_ off n,kU C j y off n true p)->err=0/\∃C1 y1,xK off n s j C ((off+n+15) / 16 - off / 16) C1/\C1.files[j]?=some y1/\C'={C1 with files:=C1.files.set j {y1 with size:=max y1.size ((off:Int)+(n:Int))}})/\(err=0->∃C0 C1 y1,(SoX C j y ((off:Int)+(n:Int)) C0/\∀p ∈ W_ off n,kU C j y off n true p)/\xK off n s j C0 ((off+n+15) / 16 - off / 16) C1/\C1.files[j]?=some y1/\C'={C1 with files:=C1.files.set j {y1 with size:=max y1.size ((off:Int)+(n:Int))}})/\(err≠0->C'=C)
theorem cE.size (h:cE F G Z C) (hj:C.files[j]?=some y) {sz:Nat} (hs:sz<=128):cE F G Z {C with files:=C.files.set j {y with size:=sz}}:=
 h.rel (jT.refl h) (jS.set h hj (fun _ _=>rfl) ⟨⟨sz,rfl,hs⟩,(h.file j y hj).slot,(h.file j y hj).err,(h.file j y hj).st⟩) rfl rfl h.nl h.nk h.lok h.pok
theorem LW.size {g:Nat} {L:List Fl} (h:LW jG w S g L) (hj:L[j]?=some y) (v:Int):LW jG (w.setCell ⟨g,j*15+6,none⟩ (I_ v)) S g (L.set j {y with size:=v}):=
 h.setOne hj O_ rfl fun r ⟨h',A,cap,k1,k2,k3,k4,e⟩=>by subst e;exact ⟨h',A,cap,k1,k2,k3,k4,rfl⟩
theorem zV (C:Ck) (j off sz:Nat) (y:Fl) (s:ByteArray) (a b c d e f g:Value) (S:Nat->Prop) (w:World) (h:x_ w S a b c d e f g C) (hI:cE F G Z C) (hj:C.files[j]?=some y) (hsz:y.size=sz) (h1:1<=s.size) (h2:off+s.size<=128) (hS:∀z,w.heap.size<=z->S z) :
  C_ 34 #[cI a b c d e f g,I_ j,I_ off,.string s] w (dK_ (WrP F G Z C j off s.size s sz y) S w):=by
 have bp:sz<=128:=by obtain ⟨q,h1,h2⟩:=(hI.file j y hj).size;omega
 obtain ⟨S1,s1,s2,s3⟩:=oB hS;replace h:=h.weak s3;clear s3;obtain ⟨n,hn⟩:=aZ s.size;rw [<-hn] at h1 h2 ⊢;have HN:=H_ hn;have bu:(s.size:Int)=(n:Int):=O_
 have bb:=bK hj;have ba:=fun w' (hb:q_ w w')=>gF j (h.step hb) bb;have b6:=fun w'=>mA (off:Int) (n:Int) w' O_ O_ O_ O_;have bh:=fun w' (hb:q_ w w')=>fv_ off n true (h.step hb) hI.ok hj (hI.findOk hj) h1 h2;have be:=fun w' (hb:q_ w w') (v:w.heap.size+1<w'.heap.size)=>aK_ sz ((off:Int)+(n:Int)) (h.step hb) hI.ok hj hsz bp (hI.findOk hj) (fun z cc=>s2 z O_);have hl:=hI.ok;have HI:=H_ hI;obtain ⟨A1,bz,rfl,q1,q2⟩:=h.files.form;obtain ⟨A2,m2,c2,rfl⟩:=h.frames.cap;obtain ⟨A3,m3,c3,A4,m4,c4,A5,m5,c5,A6,m6,c6,A7,m7,c7,rfl,rfl,rfl,rfl,rfl⟩:=x_.caps5 h;obtain ⟨bf,of,kt,KB,kc,rfl,c8,k1,k2,k3,k4,bm⟩:=FlA.cells h.files hj;have ca:=bK hj;have cb:C.files.length<=100:=hl.files.2;have j2:(j:Int)<(C.files.length:Int):=O_
 have j0:(0:Int)<=(j:Int):=O_
 obtain ⟨H,HL,HJ⟩:=eT h hl hj;clear h hl hj k1 k2 k3 k4;have bx:=H_ hsz;clear hI hn hsz bm;have n0:((n:Int) == 0)=false:=beq_eq_false_iff_ne.2 O_;go_enter func34,ntmps34
 go_upto_region 1 with fail
 generalize o:(w.alloc _).alloc _=W;obtain ⟨HX,HR,HW,HZ⟩:=fV o;clear o HZ;obtain ⟨x0,M,N,O,P,Q,R⟩:=aF HX.out
 go_upto_region 6 with (first
  | (go_at_call 92;refine CM (ba _ HW) ?_;rintro e w1 ⟨rfl,b4⟩;obtain ⟨ai,au,ag⟩:=bN HX HR HW b4;clear b4 x0 M N O P Q R;obtain ⟨x0,M,N,O,P,Q,R⟩:=aF ai.out)
  | (go_at_call 93;refine CM (b6 _) ?_;rintro e w2 ⟨rfl,rfl⟩)
  | (go_at_call 94;refine CM (bh _ ag) ?_;rintro e w3 ⟨u,K,err,rfl,D,c0,bn,a2,a1,b5⟩;obtain ⟨aj,a8,ah⟩:=bN ai au ag b5;clear b5)
  | fail)
 clear ba b6 bh x0 M N O P Q R HX HR HW ai au ag;obtain ⟨A9,br,rfl,_,_⟩:=D.form;have bq:w.heap.size+1<w3.heap.size:=p_ a8;have HG:=H_ a2;have ap:=H_ a1;clear a2 a1 D;obtain ⟨x0,M,N,O,P,Q,R⟩:=aF aj.out
 go_upto_region 7 with (go_at_call 95;refine CM (be _ ah bq) ?_;rintro e w4 ⟨Cs,L,a',b',c',d',e',f',g',bg,rfl,al,a0⟩;obtain ⟨E1,u1,v1,E2,u2,v2,E3,u3,v3,E4,u4,v4,E5,u5,v5,E6,u6,v6,E7,u7,v7,rfl,rfl,rfl,rfl,rfl,rfl,rfl⟩:=x_.caps al)
 obtain ⟨X,Y⟩:=aZ w4.heap.size;have ak:=H_ (m_ (i_ aj a0) (.cells (E_ E1 u1 v1 E2 u2 v2 E3 u3 v3 E4 u4 v4 E5 u5 v5 E6 u6 v6 E7 u7 v7) 30));have x:=H_ (m_ (i_ a8 a0) (.cells (E_ E1 u1 v1 E2 u2 v2 E3 u3 v3 E4 u4 v4 E5 u5 v5 E6 u6 v6 E7 u7 v7) 30));have a6:=H_ (l_ w4 (.cells (E_ E1 u1 v1 E2 u2 v2 E3 u3 v3 E4 u4 v4 E5 u5 v5 E6 u6 v6 E7 u7 v7) 30) X Y.symm);have A:=H_ (b_ (d_ ah a0) (.cells (E_ E1 u1 v1 E2 u2 v2 E3 u3 v3 E4 u4 v4 E5 u5 v5 E6 u6 v6 E7 u7 v7) 30));have c1:w.heap.size+1<X:=by rw [Y];exact p_ (i_ a8 a0)
 obtain ⟨S2,ab⟩:=aZ (fun z=>S1 z/\z≠X);have s3:∀z,S2 z->S1 z/\z≠X:=fun z v=>by rw [ab] at v;exact v
 have s4:∀z,X<z->S2 z:=fun z v=>by rw [ab];exact ⟨s2 z O_,O_⟩
 have ae:=H_ ((al.weak (S':=S2) (fun z v h=>by rw [ab];exact ⟨h,O_⟩)).step (b_ (aI (w4) w4) (.cells (E_ E1 u1 v1 E2 u2 v2 E3 u3 v3 E4 u4 v4 E5 u5 v5 E6 u6 v6 E7 u7 v7) 30)));have bd:(w4.alloc (.cells (E_ E1 u1 v1 E2 u2 v2 E3 u3 v3 E4 u4 v4 E5 u5 v5 E6 u6 v6 E7 u7 v7) 30)).heap.size=X+1:=by simp [Y]
 have V:=H_ bg;rw [<-Y];generalize w4.alloc (.cells (E_ E1 u1 v1 E2 u2 v2 E3 u3 v3 E4 u4 v4 E5 u5 v5 E6 u6 v6 E7 u7 v7) 30)=W5 at ak x a6 A ae bd;clear al a0 Y ab x0 M N O P Q R aj a8 ah be bg;obtain ⟨x0,M,N,O,P,Q,R⟩:=aF ak.out
 by_cases e1:err=4\/L=4
 ·have HE:=H_ e1;have d1:(err == 4)=true\/((err == 4)=false/\(L == 4)=true):=by
   rcases e1 with e | e
   ·exact .inl (beq_iff_eq.2 e)
   ·by_cases h4:err=4
    ·exact .inl (beq_iff_eq.2 h4)
    ·exact .inr ⟨beq_eq_false_iff_ne.2 h4,beq_iff_eq.2 e⟩
  clear e1
  rcases d1 with d1 | ⟨d1,d2⟩
  all_goals
   go_wp2_with (refine aJ rfl (.tmp 8) (.tmp 55) rfl rfl rfl rfl x rfl ?_)
   show bodyPost prog f34 _ _ _ _
   refine bodyPost_ret (bQ rfl rfl rfl (setRow_heap _ _ _ _ _ _ x)) rfl ?_;exact ⟨C,_,_,_,_,_,_,_,_,⟨HI.out,fun h E=>absurd HE.out (by have:=(ap.out E).1;have:=(V.out.2.1 h).2;omega),fun h=>absurd h bX,fun _=>rfl⟩,rfl,(H.step (j_ A.out O_ _)).weak (fun z _ v=>(s1 z v).1),j_ A.out O_ _⟩
 ·have d1:(err == 4)=false:=beq_eq_false_iff_ne.2 O_;have d2:(L == 4)=false:=beq_eq_false_iff_ne.2 O_
  by_cases e2:0<K.length\/L≠0
  ·have HE:=H_ e2;have d3:(∃q:Nat,K.length=q+1)\/(K=[]/\(L != 0)=true):=by
    by_cases h4:0<K.length
    ·exact .inl ⟨K.length - 1,O_⟩
    ·exact .inr ⟨List.eq_nil_of_length_eq_zero O_,bne_iff_ne.2 O_⟩
   clear e1 e2
   rcases d3 with ⟨q,d3⟩ | ⟨rfl,d4⟩
   all_goals
    go_wp2_with (refine aJ rfl (.tmp 8) (.tmp 63) rfl rfl rfl rfl x rfl ?_)
    show bodyPost prog f34 _ _ _ _
    refine bodyPost_ret (bQ rfl rfl rfl (setRow_heap _ _ _ _ _ _ x)) rfl ?_;exact ⟨C,_,_,_,_,_,_,_,_,⟨HI.out,fun h E=>absurd HE.out (by have:=(ap.out E).2;have:=(V.out.2.1 h).2;simp_all),fun h=>absurd h bX,fun _=>rfl⟩,rfl,(H.step (j_ A.out O_ _)).weak (fun z _ v=>(s1 z v).1),j_ A.out O_ _⟩
  ·have b2:K=[]:=List.eq_nil_of_length_eq_zero O_;have ad:err=0:=O_
   have b8:L=0:=O_
   have am:=HG ad b2;have ar:=H_ (V.out.1.putS HI HJ am);have bi:=H_ am;subst b2 ad b8;clear e1 e2 d1 d2 bn am;clear x0 M N O P Q R;obtain ⟨x0,M,N,O,P,Q,R⟩:=aF a6.out;have a4:=fun w' (hb:q_ W5 w')=>ig_ j off s (ae.step hb) (by rw [<-HN.out];exact ar.out) (by rw [<-HN.out];exact h1) (by rw [<-HN.out];exact h2) (fun z v=>s4 z (by have:=hb.size;omega));rw [<-HN.out] at a4
   go_upto_region 12 with (first
    | (go_at_call 96;refine CM (a4 _ B_) ?_;rintro e w6 ⟨k,a',b',c',d',e',f',g',a9,rfl,b7,t⟩)
    | (go_at_call 21;(refine CM (kX k _ _ _ _ _ _ _ S2 _ b7 a9.1.1.ok (fun z v=>s4 z (by have:=t.size;omega))) ?_);rintro e w7 ⟨gf,nf,cf,gr,nr,cr,c',d',gl,nl,cl,gk,nk,ck,g',rfl,r,ac⟩;obtain ⟨P3,n3,r3,rfl⟩:=r.zones.cap;obtain ⟨P4,n4,r4,rfl⟩:=r.groups.cap;obtain ⟨P7,n7,r7,rfl⟩:=r.ptes.cap;have af:=H_ (i_ (i_ a6 t) ac);have av:=H_ (i_ (i_ x t) ac);have ay:=H_ (d_ (d_ A t) ac))
    | (refine aJ rfl (.tmp 12) (.tmp 69) rfl rfl rfl rfl af rfl ?_)
    | fail)
   have cd:X<w6.heap.size:=by have:=t.size;omega
   have ef:=r.ef;subst ef;have bw:X<gf/\gf<gr/\gr<gl/\gl<gk:=⟨by have:=r.o1;have:=t.size;omega,r.o2,r.o3,r.o4⟩;have U:=H_ (r.setRow X (E_ (o_ gf) k.files.length cf (o_ gr) nr cr P3 n3 r3 P4 n4 r4 (o_ gl) nl cl (o_ gk) nk ck P7 n7 r7) (fun v=>(s3 _ v).2 rfl) (by have:=t.size;omega));generalize o:w7.setRow X (E_ (o_ gf) k.files.length cf (o_ gr) nr cr P3 n3 r3 P4 n4 r4 (o_ gl) nl cl (o_ gk) nk ck P7 n7 r7)=W8 at U;have a7:=srs o af;have aw:=srx o av;have az:=srl o ay;clear o;obtain ⟨aa,l,a3,_⟩:=a9.1;obtain ⟨z1,ao,ce⟩:=(aa.file j l a3).size;obtain ⟨aq,bj,a5,b0⟩:=sP a9 aa a3 ao;have bo:j<k.files.length:=bK a3;have bv:k.files.length<=100:=aa.ok.files.2
   have bs:(j:Int)<(k.files.length:Int):=O_
   obtain ⟨z7,z8,z9,z6⟩:=LW.fl_at U.files a3;rw [ao] at z6;clear a9 aa a3 ao b7 t r ac af av ay a6 x ak A ae ar a4 x0 M N O P Q R bd;obtain ⟨x0,M,N,O,P,Q,R⟩:=aF a7.out;have an:=p_ a7;have bc:=U.files.lt
   go_cut [] (fun wx=>eP wx S2 (w6) gf k.files.length cf gr nr cr (S_ P3 n3 r3) (S_ P4 n4 r4) gl nl cl gk nk ck (S_ P7 n7 r7) (⟨k.files.set j ⟨l.dev,l.slot,l.c,max (z1:Int) ((off:Int)+(n:Int)),l.blocks,l.ecnt,l.eerr,l.sseq,l.ssize,l.sblocks,l.which,l.seq⟩,k.frames,k.zones,k.groups,k.lists,k.clocks,k.ptes⟩:Ck)/\aW wx X (E_ (o_ gf) k.files.length cf (o_ gr) nr cr P3 n3 r3 P4 n4 r4 (o_ gl) nl cl (o_ gk) nk ck P7 n7 r7) 30/\wx.heap[w.heap.size+1]?=some (cG)/\q_ w wx)
   case first=>
    refine bG (S:=TS S2 gf gr gl gk) 87 16 (fun i=>decide (i<=15)) (fun wx=>eP wx S2 (w6) gf k.files.length cf gr nr cr (S_ P3 n3 r3) (S_ P4 n4 r4) gl nl cl gk nk ck (S_ P7 n7 r7) (⟨k.files.set j ⟨l.dev,l.slot,l.c,max (z1:Int) ((off:Int)+(n:Int)),l.blocks,l.ecnt,l.eerr,l.sseq,l.ssize,l.sblocks,l.which,l.seq⟩,k.frames,k.zones,k.groups,k.lists,k.clocks,k.ptes⟩:Ck)/\aW wx X (E_ (o_ gf) k.files.length cf (o_ gr) nr cr P3 n3 r3 P4 n4 r4 (o_ gl) nl cl (o_ gk) nk ck P7 n7 r7) 30/\wx.heap[w.heap.size+1]?=some (cG)/\q_ w wx) [SK.eq (P_ X),SK.eq (S_ (some ⟨gf,0,none⟩) k.files.length cf),SK.eq (I_ (j:Int)),SK.eq (P_ X),SK.eq (S_ (some ⟨gf,0,none⟩) k.files.length cf),SK.eq (I_ (j:Int)),SK.eq (.pointer (some ⟨gf,j*15,none⟩)),SK.eq (.pointer (some ⟨gf,j*15+6,none⟩)),SK.eq (I_ (z1:Int)),SK.eq (I_ (off:Int)),SK.eq (.string s),SK.eq (I_ (n:Int)),SK.eq (I_ ((off:Int)+(n:Int))),SK.eq (I_ (max (z1:Int) ((off:Int)+(n:Int)))),SK.eq (.pointer (some ⟨gf,j*15,none⟩)),SK.eq (.pointer (some ⟨gf,j*15+6,none⟩)),SK.any] s_ s_ rfl (fun _=>trivial) ?_;refine qP fun v0=>?_;simp only[ly];refine k_ rfl rfl (fun xw B I K D=>?_) (fun v1=>?_)
    ·obtain rfl:v0=_:=I 0 s_;have m:q_ W8 xw:=B;have u0:=(m.cell (p:=⟨X,_,none⟩) an).trans x0;go_simp;exact D _ _ B K_ rfl
    simp only[ly];refine qP fun v2=>qP fun v3=>?_;simp only[ly];refine k_ rfl rfl (fun xw B I K D=>?_) (fun v4=>?_)
    ·obtain rfl:v3=_:=I 3 s_;have m:q_ W8 xw:=B;have u0:=(m.cell (p:=⟨X,_,none⟩) an).trans x0;go_simp;exact D _ _ B K_ rfl
    simp only[ly];refine qP fun v5=>qP fun v6=>qP fun v7=>?_;simp only[ly];refine k_ rfl rfl (fun xw B I K D=>?_) (fun v8=>?_)
    ·obtain rfl:v7=_:=I 7 s_;have m:q_ W8 xw:=B;have u0:=(m.cell (p:=⟨gf,_,none⟩) bc).trans z6;go_simp;exact D _ _ B K_ rfl
    simp only[ly];refine qP fun v9=>qP fun v10=>qP fun v11=>?_;simp only[ly];refine k_ rfl rfl (fun xw B I K D=>?_) (fun v12=>?_)
    ·obtain rfl:v9=_:=I 9 s_;obtain rfl:v11=_:=I 11 s_;go_simp;exact D _ _ B K_ (by first | rfl | (show Value.int _ _=Value.int _ _;simp;done) | (show Value.int _ _=Value.int _ _;simp [IntKind.wrap_i64,wrap64];done) | (show Value.int _ _=Value.int _ _;simp [IntKind.wrap_i64];omega))
    simp only[ly];refine k_ rfl rfl (fun xw B I K D=>?_) (fun v13=>?_)
    ·obtain rfl:v8=_:=I 8 s_;obtain rfl:v12=_:=I 12 s_;go_simp;exact D _ _ B K_ (by show Value.int _ _=Value.int _ _;congr 1;first | rfl | (split <;> omega))
    simp only[ly];refine qP fun v14=>qP fun v15=>?_;simp only[ly];refine aL (fun xw B I K D=>?_) (fun v16=>?_)
    ·obtain rfl:v15=_:=I 15 s_;obtain rfl:v13=_:=I 13 s_;have m:q_ W8 xw:=B;have J:=U.step m;obtain ⟨⟨u,hu⟩,c9⟩:=J.files.slot bo (p:=6) O_;go_simp;have b9:=J.putFiles (J_ xw gf (j*15+6) [I_ (max (z1:Int) ((off:Int)+(n:Int)))]) (J.files.size a5.out _) z_;refine D undef _ ⟨b9,?_,?_,?_⟩ (r_.of_setCell _ _ _ (fun h=>h.2.1 rfl)) trivial
     ·exact (jO xw ⟨gf,j*15+6,none⟩ _ X (by show X≠gf;omega)).trans (i_ a7.out m)
     ·exact (jO xw ⟨gf,j*15+6,none⟩ _ (w+1) (by show w+1≠gf;omega)).trans (i_ aw.out m)
     ·exact bA (d_ az m) ⟨gf,j*15+6,none⟩ _ (by show w<=gf;omega)
    simp only[ly];refine aY ?_;intro wz hD hG;clear hG;go_wp2;go_meet
    case rel=>exact hD
   case rest=>
    clear x0 M N O P Q R z6 z7 z8 z9 an bc U a7 aw az;obtain ⟨b1,bl,b3,o⟩:=hcut;obtain ⟨J,ax,bk⟩:=eT b1 b3 o;clear b1 b3 o;obtain ⟨x0,M,N,O,P,Q,R⟩:=aF bl
    go_wp2_with (refine aJ rfl (.tmp 8) (.tmp 86) rfl rfl rfl rfl ax rfl ?_)
    show bodyPost prog f34 _ _ _ _
    refine bodyPost_ret (bQ rfl rfl rfl (setRow_heap _ _ _ _ _ _ ax)) rfl ?_;refine ⟨_,_,_,_,_,_,_,_,_,?_,rfl,((J.setRow (w+1) (E_ (o_ gf) k.files.length cf (o_ gr) nr cr P3 n3 r3 P4 n4 r4 (o_ gl) nl cl (o_ gk) nk ck P7 n7 r7) (fun v=>(s1 _ (s3 _ v).1).2.2 rfl) (by have:=J.lt;omega)).weak O_ (fun z v=>(s1 z (s3 z v).1).1) hS).at_,j_ bk.out O_ _⟩;refine ⟨?_,fun h E=>⟨rfl,k,l,?_,a5.out,?_⟩,fun _=>⟨_,k,l,⟨V.out.2.2 (by first | rfl | trivial),bi.out⟩,aq.out.2,a5.out,?_⟩,fun h=>absurd rfl h⟩
    ·have:=bj.size a5.out (sz:=max z1 (off+n)) O_;rw [show ((max z1 (off+n):Nat):Int)=max (z1:Int) ((off:Int)+(n:Int)) by omega] at this;exact this
    ·rw [<-(V.out.2.1 h).1];exact aq.out.2
    ·rw [b0.out]
    ·rw [b0.out]
end
end Go.Proofs.YtehfhnbpnaiogaaGreatDoor
