/-
  Lemmas and contracts for the laws of this seat, part 9; several texts joined by a program.
-/
import Derived.Test.YtehfhnbpnaiogaaGreatDoorD08
import Derived.Test.YtehfhnbpnaiogaaGreatDoorD00
namespace Go.Proofs.YtehfhnbpnaiogaaGreatDoor
set_option linter.unusedVariables false
set_option linter.unusedSimpArgs false
set_option maxRecDepth 100000
set_option maxHeartbeats 16000000
open Go.RowKit Go.Proofs.Tryz IntKind
variable {C C':Ck} {L:List Fl} {S:Nat->Prop} {a b c d e f g x0 x1 x2 x3 x4 x5 x6:Value} {err s:Int} {fn:Func} {fr:Nat × Nat} {g2 i j p:Nat} {t:TypeId} {tmps:Array Value} {w:World} {x:Fr} {y:Fl}
section
def kW (b:Int):Prop:=0<=b/\b<=255
theorem aZ_ (n:Nat) (h:n<=255):(BitVec.ofInt 64 (n:Int)).toNat=n:=by
 rw [BitVec.toNat_ofInt];omega
theorem fi_ {n:Nat} (h:n<=255):i64.wrap (n:Int)=n:=gJ O_
theorem g5_ (hp:p<8):2 ^ p<=128:=by
 have:=Nat.pow_le_pow_right (n:=2) O_ (show p<=7 by omega);exact this
theorem hQ_ (hp:p<8):wrap64 (2 ^ p)=((2 ^ p:Nat):Int):=by
 have:=g5_ hp;rw [show ((2:Int) ^ p)=((2 ^ p:Nat):Int) by simp];generalize 2 ^ p=q at this;unfold wrap64;omega
theorem kW.or {b:Int} (h:kW b) (hp:p<8):kW (bits .or .i64 b (wrap64 (2 ^ p))):=by
 have a:=g5_ hp;rw [hQ_ hp];obtain ⟨n,rfl⟩:=mZ h.1;have d:=h.2;generalize 2 ^ p=q at a
 show kW (i64.wrap ((BitVec.ofInt 64 (n:Int) ||| BitVec.ofInt 64 (q:Int)).toNat:Int))
 rw [BitVec.toNat_or,aZ_ n O_,aZ_ q O_];have c:=Nat.or_lt_two_pow (n:=8) (x:=n) (y:=q) O_ O_;rw [fi_ O_];exact ⟨O_,O_⟩
theorem kW.andNot {b:Int} (h:kW b) (c:Int):kW (bits .andNot .i64 b c):=by
 obtain ⟨n,rfl⟩:=mZ h.1;have d:=h.2
 show kW (i64.wrap ((BitVec.ofInt 64 (n:Int) &&& ~~~BitVec.ofInt 64 c).toNat:Int))
 rw [BitVec.toNat_and,aZ_ n O_];have a:=Nat.and_le_left (n:=n) (m:=(~~~BitVec.ofInt 64 c).toNat);rw [fi_ O_];exact ⟨O_,O_⟩
def dk_ (C:Ck) (i j:Nat) (x:Fr) (y:Fl) (C':Ck):Prop:=C'=C\/∃x' y',jE x'/\(DwF x'->DwF x)/\x'.file=x.file/\x'.page=x.page/\x'.tenant=x.tenant/\y'.c=y.c/\y'.size=y.size/\y'.slot=y.slot/\qO y'.ecnt y'.eerr/\(kW y.blocks->kW y'.blocks)/\y'.which=y.which/\y'.seq=y.seq/\y'.ssize=y.ssize/\y'.sseq=y.sseq/\C'=cP C i j y' x'
theorem wT.q (h:wT C i j x y C') (he:qO y.ecnt y.eerr):dk_ C i j x y C':=by
 rcases h with h | ⟨x',h1,hd,h2,h3,h4,h5⟩
 ·exact .inl h
 ·exact .inr ⟨x',y,h1,hd,h2,h3,h4,rfl,rfl,rfl,he,id,rfl,rfl,rfl,rfl,h5⟩
theorem iS {b:Nat} {a0 a1 a2 a3 a4 a5 a6 a7 a8 u v z:Value} (h:w.heap[b]?=some (.cells #[a0,a1,a2,a3,a4,a5,a6,a7,a8] t fr)):(w.setCells b 2 [u,v,z]).heap[b]?=some (.cells #[a0,a1,u,v,z,a5,a6,a7,a8] t fr):=by
 simp only[World.setCells];exact W_ (W_ (W_ h _) _) _
theorem iY {b:Nat} {a0 a1 a2 a3 a4 a5 a6 a7 a8:Value} (h:w.heap[b]?=some (.cells #[a0,a1,a2,a3,a4,a5,a6,a7,a8] t (0,0))):w.there b 2 3:=fun j hj=>by
 rw [b_ h,t_ h];obtain rfl | rfl | rfl:j=0\/j=1\/j=2:=O_
 all_goals exact ⟨rfl,rfl⟩
theorem mN {p:Pg} (h:iM p) (hs:0<=s/\s<=3):iM (aA p s):=by
 obtain ⟨d,v,y⟩:=p;obtain ⟨h1,h2,h3,a⟩:=h
 dsimp only at h1 h2 h3 a
 refine ⟨h1,h2,?_,?_⟩
 all_goals
  show _
  simp only[aA];obtain rfl | rfl | rfl | rfl:v=0\/v=1\/v=2\/v=3:=O_
  all_goals (obtain rfl | rfl | rfl | rfl:y=0\/y=1\/y=2\/y=3:=by omega)
  all_goals (obtain rfl | rfl | rfl | rfl:s=0\/s=1\/s=2\/s=3:=by omega)
  all_goals first
   | decide
   | exact absurd a cE
theorem gr_ {c e:Int} (h:qO c e) (he:err≠0):qO (dN c e err).1 (dN c e err).2.1:=by
 obtain ⟨h1,h2,h3⟩:=h;unfold dN
 by_cases hc:c=1000000
 ·rw [if_pos hc];exact ⟨h1,h2,h3⟩
 ·rw [if_neg hc];exact ⟨by show 0<=c+1;omega,by show c+1<=1000000;omega,⟨fun h=>absurd (show c+1=0 from h) O_,fun h=>absurd (show err=0 from h) he⟩⟩
theorem LW.fl_at {g:Nat} (h:LW jI w S g L) (hj:L[j]?=some y):w.cell? ⟨g,j*15+7,none⟩=some (I_ y.blocks)/\w.cell? ⟨g,j*15+8,none⟩=some (I_ y.ecnt)/\w.cell? ⟨g,j*15+9,none⟩=some (I_ y.eerr)/\w.cell? ⟨g,j*15+6,none⟩=some (I_ y.size):=by
 obtain ⟨r,⟨h',A,cap,_,_,_,_,rfl⟩,hc⟩:=h.at_ hj;exact ⟨hc 7 _ rfl,hc 8 _ rfl,hc 9 _ rfl,hc 6 _ rfl⟩
theorem LW.blocks {g:Nat} (h:LW jI w S g L) (hj:L[j]?=some y) (v:Int):LW jI (w.setCell ⟨g,j*15+7,none⟩ (I_ v)) S g (L.set j {y with blocks:=v}):=
 h.setOne hj O_ rfl fun r ⟨h',A,cap,k1,k2,k3,k4,e⟩=>by subst e;exact ⟨h',A,cap,k1,k2,k3,k4,rfl⟩
theorem LW.errs {g:Nat} (h:LW jI w S g L) (hj:L[j]?=some y) (c e:Int):LW jI (w.setCells g (j*15+8) [I_ c,I_ e]) S g (L.set j {y with ecnt:=c,eerr:=e}):=
 h.setPart hj (by show 8+2<=15;omega) (fun u hu=>by simp at hu;rcases hu with rfl | rfl <;> rfl) fun r ⟨h',A,cap,k1,k2,k3,k4,e⟩=>by subst e;exact ⟨h',A,cap,k1,k2,k3,k4,rfl⟩
theorem ai_ (C:Ck) (i j:Nat) (y:Fl) (x:Fr) (v:Int):{cP C i j y x with files:=(bP C.files j y x).set j {y with c:=jO y.c x.page (x.pg.dirty != 0) (x.writing != 0),blocks:=v}}=cP C i j {y with blocks:=v} x:=by
 simp only[cP,bP,List.set_set]
theorem cX_ (C:Ck) (i j:Nat) (y:Fl) (x:Fr) (c e:Int):{cP C i j y x with files:=(bP C.files j y x).set j {y with c:=jO y.c x.page (x.pg.dirty != 0) (x.writing != 0),ecnt:=c,eerr:=e}}=cP C i j {y with ecnt:=c,eerr:=e} x:=by
 simp only[cP,bP,List.set_set]
def fP (P:Ck->Int->Prop) (S:Nat->Prop) (w:World) (en:Ending) (w':World):Prop:=∃C' err a b c d e f g,P C' err/\en = .returned (.tuple #[bK a b c d e f g,I_ err])/\x_ w' S a b c d e f g C'/\s_ w w'
def cj_ (x:Fr) (y:Fl):Fl:=⟨y.dev,y.slot,y.c,y.size,bits .or .i64 y.blocks (wrap64 (2 ^ x.page.toNat)),y.ecnt,y.eerr,y.sseq,y.ssize,y.sblocks,y.which,y.seq⟩
def jW (C:Ck) (i j:Nat) (x:Fr) (y:Fl) (n:Int) (C':Ck) (err:Int):Prop:=
 if x.writing=0 then C'=C/\err=4 else if n=0 then C'=cP C i j (cj_ x y) ⟨x.file,x.page,x.pg,x.tenant,x.holds,x.reading,0⟩/\err=0 else C'=cP C i j ⟨y.dev,y.slot,y.c,y.size,y.blocks,(dN y.ecnt y.eerr n).1,(dN y.ecnt y.eerr n).2.1,y.sseq,y.ssize,y.sblocks,y.which,y.seq⟩ ⟨x.file,x.page,aA x.pg x.writing,x.tenant,x.holds,x.reading,0⟩/\err=0
theorem iX_ (n:Int) (h:x_ w S a b c d e f g C) (hl:kT C) (hu:fG C i x j y) (her:qO y.ecnt y.eerr) (hS:∀z,w.heap.size<=z->S z) :
  C_ 17 #[bK a b c d e f g,I_ ((i:Int)+1),I_ n] w (fP (jW C i j x y n) S w):=by
 obtain ⟨S1,s1,s2,s3⟩:=iA hS;replace h:=h.weak s3;clear s3;have b2:=fun w' (hb:s_ w w')=>jV i x (h.step hb) hu.fr hl.frames.2;rw [hu.used] at b2;obtain ⟨A1,bl,rfl,q1,q2⟩:=h.files.form;obtain ⟨A2,bm,rfl,q3,q4⟩:=h.frames.form;obtain ⟨A3,m3,c3,A4,m4,c4,A5,m5,c5,A6,m6,c6,A7,m7,c7,rfl,rfl,rfl,rfl,rfl⟩:=x_.caps5 h;obtain ⟨bb,o,rfl,be,y0,y1,y2,y3,y4,y5,y6,y7,y8⟩:=FrA.cells h.frames hu.fr;obtain ⟨bf,of,kt,KB,kc,rfl,bn,k1,k2,k3,k4,az⟩:=FlA.cells h.files hu.fl;have b0:=bI hu.fr;have aj:=bI hu.fl;have i2:(i:Int)<(C.frames.length:Int):=O_
 have bp:C.frames.length<=100:=hl.frames.2;have bo:C.files.length<=100:=hl.files.2;have j2:(j:Int)<(C.files.length:Int):=O_
 obtain ⟨H,HL,HU⟩:=eI h hl hu;clear h hl hu k1 k2 k3 k4;go_enter func17,ntmps17
 go_upto_region 1 with fail
 generalize hW9:(w.alloc _).alloc _=W;obtain ⟨HX,HR,HW,HZ⟩:=dJ hW9;clear hW9;have ah:=HW.out;obtain ⟨x0,E,F,G,I,J,L⟩:=T_ HX.out
 go_upto_region 3 with (go_at_call 37;(with_reducible refine CM (b2 _ (by assumption)) ?_);rintro e w1 ⟨rfl,aq⟩;obtain ⟨ax,b4,aw⟩:=bC HX HR HW aq;have bk:=aq.size;clear aq)
 clear x0 E F G I J L ah;obtain ⟨x0,E,F,G,I,J,L⟩:=T_ ax.out;have bi:=kt9 (aw.block _ be) y0 y1 y2 y3 y4 y5 y6 y7 y8;clear y0 y1 y2 y3 y4 y5 y6 y7 y8;obtain ⟨y0,y1,y2,y3,y4,y5,y6,y7,y8⟩:=bi
 go_upto_region 4 with fail
 generalize hW9:w1.alloc _=W2;have HF:=nah hW9;have an:=oZ hW9 ax;have ag:=oZ hW9 b4;have ai:=lah hW9 aw;clear hW9;clear x0 E F G I J L y0 y1 y2 y3 y4 y5 y6 y7 y8;obtain ⟨x0,E,F,G,I,J,L⟩:=T_ an.out;obtain ⟨B,V,f2,f3,f4,f5,f6,f7,f8⟩:=iQ HF.out;have bj:w.heap.size<=w1.heap.size/\w.heap.size+1<w1.heap.size:=⟨O_,O_⟩;have b3:=H_ her;clear her;obtain ⟨p,hp⟩:∃p:Nat,x.page=p:=⟨x.page.toNat,by have:=HU.ok.page;omega⟩;have bq:p<8:=by have:=HU.ok.page;omega
 have HP:=H_ hp;clear hp
 by_cases a3:x.writing=0
 ·have d3:(x.writing == 0)=true:=by simp [a3]
  have HB:=H_ (show jW C i j x y n C 4 by unfold jW;rw [if_pos a3];exact ⟨rfl,rfl⟩);clear a3
  go_wp2_with (refine Q_ rfl (.tmp 6) (.tmp 25) rfl rfl rfl rfl ag rfl ?_)
  show bodyPost prog f17 _ _ _ _
  refine bodyPost_ret (aG rfl rfl rfl (setRow_heap _ _ _ _ _ _ ag)) rfl ?_;exact ⟨C,_,_,_,_,_,_,_,_,HB.out,rfl,(H.step (d_ ai.out O_ _)).weak (fun z _ hz=>(s1 z hz).1),d_ ai.out O_ _⟩
 ·have d3:(x.writing == 0)=false:=by simp [a3]
  have ah:=H_ a3;clear a3;have ar:=t_ HF 8
  by_cases he:n=0
  ·subst he
   go_upto_region 10 with fail
   generalize hW9:W2.setCell _ _=W3;have a0:=scs hW9 HF;have ab:=sI hW9 an;have a5:=sI hW9 ag;have a8:=scl hW9 ai;clear hW9;clear x0 E F G I J L B V f2 f3 f4 f5 f6 f7 f8;clear ar d3;obtain ⟨x0,E,F,G,I,J,L⟩:=T_ ab.out;obtain ⟨B,V,f2,f3,f4,f5,f6,f7,f8⟩:=iQ a0.out;have bc:w.heap.size+1<W3.heap.size:=n_ a5
   go_upto_region 12 with (go_at_call 55;(with_reducible refine CM (fE i j (⟨x.file,x.page,x.pg,x.tenant,x.holds,x.reading,0⟩) y (H.out.step a8.out) HL.out b0 HU.out.fl HU.out.ix (fun z hz=>s2 z (by omega))) ?_);rintro e w4 ⟨gf,nf,A,gr,nr,U,c',d',D,nl,cl,gk,nk,ck,g',rfl,eJ,X⟩;obtain ⟨P,n3,r3,rfl⟩:=eJ.zones.cap;obtain ⟨Q,n4,r4,rfl⟩:=eJ.groups.cap;obtain ⟨R,n7,r7,rfl⟩:=eJ.ptes.cap;obtain ⟨O,M,ao,a9⟩:=dU a5 a0 ab a8 X;have a4:=H_ eJ;have al:=H_ X;clear eJ X)
   have hp:=HP.out;have s:=H_ (a4.step (a_ (aP (w4) w4) (.cells ((oY gf nf A gr nr U (S_ P n3 r3) (S_ Q n4 r4) D nl cl gk nk ck (S_ R n7 r7))) 30)));have bd:w.heap.size+1<w4.heap.size/\w1.heap.size<w4.heap.size/\W3.heap.size<=w4.heap.size/\gk<w4:=⟨n_ O,n_ M,al.size,a4.lt⟩;generalize hW9:w4.alloc (.cells ((oY gf nf A gr nr U (S_ P n3 r3) (S_ Q n4 r4) D nl cl gk nk ck (S_ R n7 r7))) 30)=W5 at s;have t:=nah hW9;have a6:=oZ hW9 O;have N:=oZ hW9 M;have aa:=lah hW9 a9;clear hW9;clear x0 E F G I J L B V f2 f3 f4 f5 f6 f7 f8;obtain ⟨x0,E,F,G,I,J,L⟩:=T_ t.out;obtain ⟨B,V,f2,f3,f4,f5,f6,f7,f8⟩:=iQ N.out;rw [HU.ix] at B;rw [hp] at V;obtain ⟨z7,z8,z9,z6⟩:=LW.fl_at s.files (lM aj);have bg:(j:Int)<(nf:Int):=by have:=s.ef;simp [cP,bP] at this;omega
   have az:nf<=1000:=by have:=s.ef;simp [cP,bP] at this;omega
   have a2:=n_ t;have Y:=n_ N;have a1:=s.files.lt;clear hp
   go_cut [] (fun wx=>eS wx S1 (W3) gf nf A gr nr U (S_ P n3 r3) (S_ Q n4 r4) D nl cl gk nk ck (S_ R n7 r7) (cP C i j ⟨y.dev,y.slot,y.c,y.size,bits .or .i64 y.blocks (wrap64 (2 ^ p)),y.ecnt,y.eerr,y.sseq,y.ssize,y.sblocks,y.which,y.seq⟩ ⟨x.file,x.page,x.pg,x.tenant,x.holds,x.reading,0⟩)/\bA wx (w4) ((oY gf nf A gr nr U (S_ P n3 r3) (S_ Q n4 r4) D nl cl gk nk ck (S_ R n7 r7))) 30/\wx.heap[w.heap.size+1]?=some (bM)/\s_ w wx)
   case first=>
    refine aR (S:=TS S1 gf gr D gk) 77 13 (fun i=>decide (i<=12)) (fun wx=>eS wx S1 (W3) gf nf A gr nr U (S_ P n3 r3) (S_ Q n4 r4) D nl cl gk nk ck (S_ R n7 r7) (cP C i j ⟨y.dev,y.slot,y.c,y.size,bits .or .i64 y.blocks (wrap64 (2 ^ p)),y.ecnt,y.eerr,y.sseq,y.ssize,y.sblocks,y.which,y.seq⟩ ⟨x.file,x.page,x.pg,x.tenant,x.holds,x.reading,0⟩)/\bA wx (w4) ((oY gf nf A gr nr U (S_ P n3 r3) (S_ Q n4 r4) D nl cl gk nk ck (S_ R n7 r7))) 30/\wx.heap[w.heap.size+1]?=some (bM)/\s_ w wx) [SK.eq (P_ (w4)),SK.eq (S_ (some ⟨gf,0,none⟩) nf A),SK.eq (P_ (w1)),SK.eq (I_ (j:Int)),SK.eq (.pointer (some ⟨gf,j*15,none⟩)),SK.eq (.pointer (some ⟨gf,j*15+7,none⟩)),SK.eq (I_ y.blocks),SK.eq (.pointer (some ⟨w1,1,none⟩)),SK.eq (I_ (p:Int)),SK.eq (I_ (wrap64 (2 ^ p))),SK.eq (I_ (bits .or .i64 y.blocks (wrap64 (2 ^ p)))),SK.eq (.pointer (some ⟨gf,j*15,none⟩)),SK.eq (.pointer (some ⟨gf,j*15+7,none⟩)),SK.any] q_ q_ rfl (fun _=>trivial) ?_;refine qP fun v0=>?_;simp only[ly];refine c_ rfl rfl (fun xw l q K r=>?_) (fun v1=>?_)
    ·obtain rfl:v0=_:=q 0 q_;have k:s_ W5 xw:=l;have u0:=(k.cell (p:=⟨w4,_,none⟩) a2).trans x0;go_simp;exact r _ _ l K_ rfl
    simp only[ly];refine qP fun v2=>?_;simp only[ly];refine c_ rfl rfl (fun xw l q K r=>?_) (fun v3=>?_)
    ·obtain rfl:v2=_:=q 2 q_;have k:s_ W5 xw:=l;have u0:=(k.cell (p:=⟨w1,_,none⟩) Y).trans B;go_simp;exact r _ _ l K_ rfl
    simp only[ly];refine qP fun v4=>qP fun v5=>?_;simp only[ly];refine c_ rfl rfl (fun xw l q K r=>?_) (fun v6=>?_)
    ·obtain rfl:v5=_:=q 5 q_;have k:s_ W5 xw:=l;have u0:=(k.cell (p:=⟨gf,_,none⟩) a1).trans z7;go_simp;exact r _ _ l K_ rfl
    simp only[ly];refine qP fun v7=>?_;simp only[ly];refine c_ rfl rfl (fun xw l q K r=>?_) (fun v8=>?_)
    ·obtain rfl:v7=_:=q 7 q_;have k:s_ W5 xw:=l;have u0:=(k.cell (p:=⟨w1,_,none⟩) Y).trans V;go_simp;exact r _ _ l K_ rfl
    simp only[ly];refine c_ rfl rfl (fun xw l q K r=>?_) (fun v9=>?_)
    ·obtain rfl:v8=_:=q 8 q_;go_simp;exact r _ _ l K_ (by first | rfl | (show Value.int _ _=Value.int _ _;simp;done) | (show Value.int _ _=Value.int _ _;simp [IntKind.wrap_i64,wrap64];done) | (show Value.int _ _=Value.int _ _;simp [IntKind.wrap_i64];omega))
    simp only[ly];refine c_ rfl rfl (fun xw l q K r=>?_) (fun v10=>?_)
    ·obtain rfl:v6=_:=q 6 q_;obtain rfl:v9=_:=q 9 q_;go_simp;exact r _ _ l K_ (by first | rfl | (show Value.int _ _=Value.int _ _;simp;done) | (show Value.int _ _=Value.int _ _;simp [IntKind.wrap_i64,wrap64];done) | (show Value.int _ _=Value.int _ _;simp [IntKind.wrap_i64];omega))
    simp only[ly];refine qP fun v11=>qP fun v12=>?_;simp only[ly];refine z_ (fun xw l q K r=>?_) (fun v13=>?_)
    ·obtain rfl:v12=_:=q 12 q_;obtain rfl:v10=_:=q 10 q_;have k:s_ W5 xw:=l;have m:=s.step k;obtain ⟨⟨u,hu⟩,ar⟩:=m.files.slot (i:=j) (by simp [cP,bP];omega) (p:=7) O_;have Z:gf≠w+1/\gf≠w4/\w<=gf:=by have:=m.o1;have:=m.o2;have:=m.o3;have:=m.o4;omega
     go_simp;have af:=m.putFiles (L_ xw gf (j*15+7) [I_ (bits .or .i64 y.blocks (wrap64 (2 ^ p)))]) (m.files.blocks (lM aj) _) (by simp [cP,bP]);refine r undef _ ⟨by rw [<-ai_ C i j y (⟨x.file,x.page,x.pg,x.tenant,x.holds,x.reading,0⟩)];exact af,?_,?_,?_⟩ (r_.of_setCell _ _ _ (fun h=>h.2.1 rfl)) trivial
     ·exact (iH xw ⟨gf,j*15+7,none⟩ _ (w4) (fun h=>Z.2.1 h.symm)).trans (h_ t k)
     ·exact (iH xw ⟨gf,j*15+7,none⟩ _ (w+1) (fun h=>Z.1 h.symm)).trans (h_ a6 k)
     ·exact aT (e_ aa k) ⟨gf,j*15+7,none⟩ _ Z.2.2
    simp only[ly];refine G_ ?_;intro wz hD hG;clear hG;go_wp2;go_meet
    case rel=>exact hD
   case rest=>
    clear x0 E F G I J L B V f2 f3 f4 f5 f6 f7 f8 z6 z7 z8 z9 a2 Y a1 t N a6 aa s O M ao a9;obtain ⟨ac,ap,ad,ae⟩:=hcut;obtain ⟨m,a7,am⟩:=eI ac ad ae;clear ac ad ae;obtain ⟨x0,E,F,G,I,J,L⟩:=T_ ap
    go_wp2_with (refine Q_ rfl (.tmp 6) (.tmp 76) rfl rfl rfl rfl a7 rfl ?_)
    show bodyPost prog f17 _ _ _ _
    refine bodyPost_ret (aG rfl rfl rfl (setRow_heap _ _ _ _ _ _ a7)) rfl ?_;refine ⟨_,_,_,_,_,_,_,_,_,?_,rfl,((m.setRow (w+1) (oY gf nf A gr nr U (S_ P n3 r3) (S_ Q n4 r4) D nl cl gk nk ck (S_ R n7 r7)) (fun hz=>(s1 _ hz).2.2 rfl) O_).weak O_ (fun z hz=>(s1 z hz).1) hS).at_,d_ am.out O_ _⟩;unfold jW;rw [if_neg ah.out,if_pos rfl];exact ⟨by unfold cj_;rw [HP.out];rfl,rfl⟩
  ·have e1:(n != 0)=true:=bne_iff_ne.2 he;have e2:(n == 0)=false:=beq_eq_false_iff_ne.2 he;have HE:=H_ he;clear he
   go_upto_region 9 with fail
   generalize hW9:W2.setCell _ _=W9;have av:=scs hW9 HF;have ba:=sI hW9 an;have b6:=sI hW9 ag;have b8:=scl hW9 ai;clear hW9;clear x0 E F G I J L B V f2 f3 f4 f5 f6 f7 f8;clear ar d3;obtain ⟨B,V,f2,f3,f4,f5,f6,f7,f8⟩:=iQ av.out;have bh:=fun w'=>bg_ x.pg.data x.pg.valid x.pg.dirty x.writing w' HU.ok.pg HU.ok.writing
   go_upto_region 10 with (first
    | (go_at_call 69;(with_reducible refine CM (bh _) ?_);rintro e w5 ⟨rfl,ay⟩;obtain ⟨au,b9,b5,b7⟩:=dU av ba b6 b8 ay;clear ay;have ak:=iY au)
    | (refine nK rfl 83 (.tmp 38) (.tmp 36) rfl (w1) 2 #[.string (aA x.pg x.writing).data,I_ (aA x.pg x.writing).valid,I_ (aA x.pg x.writing).dirty] rfl rfl ak cK (eE) ?_)
    | fail)
   have a0:=H_ (iS (u:= .string (aA x.pg x.writing).data) (v:= I_ (aA x.pg x.writing).valid) (z:= I_ (aA x.pg x.writing).dirty) au);generalize hW9:w5.setCells (w1) 2 _=W3 at a0;have ab:=yL hW9 b9;have a5:=yL hW9 b5;have a8:=sml hW9 b7;clear hW9;clear B V f2 f3 f4 f5 f6 f7 f8 ak;obtain ⟨x0,E,F,G,I,J,L⟩:=T_ ab.out;obtain ⟨B,V,f2,f3,f4,f5,f6,f7,f8⟩:=iQ a0.out;have bc:w.heap.size+1<W3.heap.size:=n_ a5
   go_upto_region 13 with (go_at_call 55;(with_reducible refine CM (fE i j (⟨x.file,x.page,aA x.pg x.writing,x.tenant,x.holds,x.reading,0⟩) y (H.out.step a8.out) HL.out b0 HU.out.fl HU.out.ix (fun z hz=>s2 z (by omega))) ?_);rintro e w4 ⟨gf,nf,A,gr,nr,U,c',d',D,nl,cl,gk,nk,ck,g',rfl,eJ,X⟩;obtain ⟨P,n3,r3,rfl⟩:=eJ.zones.cap;obtain ⟨Q,n4,r4,rfl⟩:=eJ.groups.cap;obtain ⟨R,n7,r7,rfl⟩:=eJ.ptes.cap;obtain ⟨O,M,ao,a9⟩:=dU a5 a0 ab a8 X;have a4:=H_ eJ;have al:=H_ X;clear eJ X)
   have hp:=HP.out;have s:=H_ (a4.step (a_ (aP (w4) w4) (.cells ((oY gf nf A gr nr U (S_ P n3 r3) (S_ Q n4 r4) D nl cl gk nk ck (S_ R n7 r7))) 30)));have bd:w.heap.size+1<w4.heap.size/\w1.heap.size<w4.heap.size/\W3.heap.size<=w4.heap.size/\gk<w4:=⟨n_ O,n_ M,al.size,a4.lt⟩;generalize hW9:w4.alloc (.cells ((oY gf nf A gr nr U (S_ P n3 r3) (S_ Q n4 r4) D nl cl gk nk ck (S_ R n7 r7))) 30)=W5 at s;have t:=nah hW9;have a6:=oZ hW9 O;have N:=oZ hW9 M;have aa:=lah hW9 a9;clear hW9;clear x0 E F G I J L B V f2 f3 f4 f5 f6 f7 f8;obtain ⟨x0,E,F,G,I,J,L⟩:=T_ t.out;obtain ⟨B,V,f2,f3,f4,f5,f6,f7,f8⟩:=iQ N.out;rw [HU.ix] at B;rw [hp] at V;obtain ⟨z7,z8,z9,z6⟩:=LW.fl_at s.files (lM aj);have bg:(j:Int)<(nf:Int):=by have:=s.ef;simp [cP,bP] at this;omega
   have az:nf<=1000:=by have:=s.ef;simp [cP,bP] at this;omega
   have a2:=n_ t;have Y:=n_ N;have a1:=s.files.lt;clear hp;have b1:=fun w'=>eQ_ n w' b3 HE
   go_cut [] (fun wx=>eS wx S1 (W3) gf nf A gr nr U (S_ P n3 r3) (S_ Q n4 r4) D nl cl gk nk ck (S_ R n7 r7) (cP C i j ⟨y.dev,y.slot,y.c,y.size,y.blocks,(dN y.ecnt y.eerr n).1,(dN y.ecnt y.eerr n).2.1,y.sseq,y.ssize,y.sblocks,y.which,y.seq⟩ ⟨x.file,x.page,aA x.pg x.writing,x.tenant,x.holds,x.reading,0⟩)/\bA wx (w4) ((oY gf nf A gr nr U (S_ P n3 r3) (S_ Q n4 r4) D nl cl gk nk ck (S_ R n7 r7))) 30/\wx.heap[w.heap.size+1]?=some (bM)/\s_ w wx)
   case first=>
    refine aR (S:=TS S1 gf gr D gk) 77 18 (inL [0,1,2,3,4,5,6,7,8,9,10,11,12,13,14,16,17]) (fun wx=>eS wx S1 (W3) gf nf A gr nr U (S_ P n3 r3) (S_ Q n4 r4) D nl cl gk nk ck (S_ R n7 r7) (cP C i j ⟨y.dev,y.slot,y.c,y.size,y.blocks,(dN y.ecnt y.eerr n).1,(dN y.ecnt y.eerr n).2.1,y.sseq,y.ssize,y.sblocks,y.which,y.seq⟩ ⟨x.file,x.page,aA x.pg x.writing,x.tenant,x.holds,x.reading,0⟩)/\bA wx (w4) ((oY gf nf A gr nr U (S_ P n3 r3) (S_ Q n4 r4) D nl cl gk nk ck (S_ R n7 r7))) 30/\wx.heap[w.heap.size+1]?=some (bM)/\s_ w wx) [SK.eq (P_ (w4)),SK.eq (S_ (some ⟨gf,0,none⟩) nf A),SK.eq (P_ (w1)),SK.eq (I_ (j:Int)),SK.eq (P_ (w4)),SK.eq (S_ (some ⟨gf,0,none⟩) nf A),SK.eq (P_ (w1)),SK.eq (I_ (j:Int)),SK.eq (.pointer (some ⟨gf,j*15,none⟩)),SK.eq (.pointer (some ⟨gf,j*15+8,none⟩)),SK.eq (.agg #[I_ y.ecnt,I_ y.eerr]),SK.eq (I_ n),SK.eq (.tuple #[erV (dN y.ecnt y.eerr n).1 (dN y.ecnt y.eerr n).2.1,I_ (dN y.ecnt y.eerr n).2.2]),SK.eq (.tuple #[erV (dN y.ecnt y.eerr n).1 (dN y.ecnt y.eerr n).2.1,I_ (dN y.ecnt y.eerr n).2.2]),SK.eq (erV (dN y.ecnt y.eerr n).1 (dN y.ecnt y.eerr n).2.1),SK.eq (I_ (dN y.ecnt y.eerr n).2.2),SK.eq (.pointer (some ⟨gf,j*15,none⟩)),SK.eq (.pointer (some ⟨gf,j*15+8,none⟩)),SK.any] q_ q_ rfl (fun _=>trivial) ?_;refine qP fun v0=>?_;simp only[ly];refine c_ rfl rfl (fun xw l q K r=>?_) (fun v1=>?_)
    ·obtain rfl:v0=_:=q 0 q_;have k:s_ W5 xw:=l;have u0:=(k.cell (p:=⟨w4,_,none⟩) a2).trans x0;go_simp;exact r _ _ l K_ rfl
    simp only[ly];refine qP fun v2=>?_;simp only[ly];refine c_ rfl rfl (fun xw l q K r=>?_) (fun v3=>?_)
    ·obtain rfl:v2=_:=q 2 q_;have k:s_ W5 xw:=l;have u0:=(k.cell (p:=⟨w1,_,none⟩) Y).trans B;go_simp;exact r _ _ l K_ rfl
    simp only[ly];refine qP fun v4=>?_;simp only[ly];refine c_ rfl rfl (fun xw l q K r=>?_) (fun v5=>?_)
    ·obtain rfl:v4=_:=q 4 q_;have k:s_ W5 xw:=l;have u0:=(k.cell (p:=⟨w4,_,none⟩) a2).trans x0;go_simp;exact r _ _ l K_ rfl
    simp only[ly];refine qP fun v6=>?_;simp only[ly];refine c_ rfl rfl (fun xw l q K r=>?_) (fun v7=>?_)
    ·obtain rfl:v6=_:=q 6 q_;have k:s_ W5 xw:=l;have u0:=(k.cell (p:=⟨w1,_,none⟩) Y).trans B;go_simp;exact r _ _ l K_ rfl
    simp only[ly];refine qP fun v8=>qP fun v9=>?_;simp only[ly];refine c_ rfl rfl (fun xw l q K r=>?_) (fun v10=>?_)
    ·obtain rfl:v9=_:=q 9 q_;have k:s_ W5 xw:=l;have u0:=(k.cell (p:=⟨gf,_,none⟩) a1).trans z8;have u1:=(k.cell (p:=⟨gf,_,none⟩) a1).trans z9;go_simp;exact r _ _ l K_ rfl
    simp only[ly];refine qP fun v11=>?_;simp only[ly];refine c_ rfl rfl (fun xw l q K r=>?_) (fun v12=>?_)
    ·obtain rfl:v10=_:=q 10 q_;obtain rfl:v11=_:=q 11 q_;have k:s_ W5 xw:=l;go_simp
     go_at_call 70
     refine (b1 xw).mono ?_;rintro e w1 ⟨rfl,hb⟩;exact r _ _ (e_ k hb) (r_.of_below hb) rfl
    simp only[ly];refine c_ rfl rfl (fun xw l q K r=>?_) (fun v13=>?_)
    ·obtain e:=q 12 q_;obtain rfl:v12=_:=e;go_simp;exact r _ _ l K_ rfl
    simp only[ly];refine c_ rfl rfl (fun xw l q K r=>?_) (fun v14=>?_)
    ·obtain e:=q 13 q_;obtain rfl:v13=_:=e;go_simp;exact r _ _ l K_ rfl
    simp only[ly];refine Z_ rfl (fun w=>r_.refl w) (fun xw q K r=>?_) (fun v15=>?_)
    ·obtain e:=q 13 q_;obtain rfl:v13=_:=e;go_simp;exact r _ rfl
    simp only[ly];refine qP fun v16=>qP fun v17=>?_;simp only[ly];refine z_ (fun xw l q K r=>?_) (fun v18=>?_)
    ·obtain rfl:v17=_:=q 17 q_;obtain e:=q 14 q_;obtain rfl:v14=_:=e;have k:s_ W5 xw:=l;have m:=s.step k;have ak:=LW.there m.files (i:=j) (by simp [cP,bP];omega) (p:=8) (n:=2) O_;have Z:gf≠w+1/\gf≠w4/\w<=gf:=by have:=m.o1;have:=m.o2;have:=m.o3;have:=m.o4;omega
     refine aS (ops:=#[]) rfl (nK rfl 60 (.tmp 75) (.tmp 72) rfl gf (j*15+8) #[I_ (dN y.ecnt y.eerr n).1,I_ (dN y.ecnt y.eerr n).2.1] rfl rfl ak lA (qW) ?_);have af:=m.putFiles (L_ xw gf (j*15+8) [I_ (dN y.ecnt y.eerr n).1,I_ (dN y.ecnt y.eerr n).2.1]) (m.files.errs (lM aj) _ _) (by simp [cP,bP]);refine r undef _ ⟨by rw [<-cX_ C i j y (⟨x.file,x.page,aA x.pg x.writing,x.tenant,x.holds,x.reading,0⟩)];exact af,?_,?_,?_⟩ (r_.of_setCells _ _ _ _ (fun h=>h.2.1 rfl)) trivial
     ·exact (v_ gf _ (j*15+8) xw (w4) Z.2.1.symm).trans (h_ t k)
     ·exact (v_ gf _ (j*15+8) xw (w+1) Z.1.symm).trans (h_ a6 k)
     ·exact aY (e_ aa k) Z.2.2 _ _
    simp only[ly];refine G_ ?_;intro wz hD hG;clear hG;go_wp2;go_meet
    case rel=>exact hD
   case rest=>
    clear x0 E F G I J L B V f2 f3 f4 f5 f6 f7 f8 z6 z7 z8 z9 a2 Y a1 t N a6 aa s O M ao a9;obtain ⟨ac,ap,ad,ae⟩:=hcut;obtain ⟨m,a7,am⟩:=eI ac ad ae;clear ac ad ae;obtain ⟨x0,E,F,G,I,J,L⟩:=T_ ap
    go_wp2_with (refine Q_ rfl (.tmp 6) (.tmp 76) rfl rfl rfl rfl a7 rfl ?_)
    show bodyPost prog f17 _ _ _ _
    refine bodyPost_ret (aG rfl rfl rfl (setRow_heap _ _ _ _ _ _ a7)) rfl ?_;refine ⟨_,_,_,_,_,_,_,_,_,?_,rfl,((m.setRow (w+1) (oY gf nf A gr nr U (S_ P n3 r3) (S_ Q n4 r4) D nl cl gk nk ck (S_ R n7 r7)) (fun hz=>(s1 _ hz).2.2 rfl) O_).weak O_ (fun z hz=>(s1 z hz).1) hS).at_,d_ am.out O_ _⟩;unfold jW;rw [if_neg ah.out,if_neg HE.out];exact ⟨rfl,rfl⟩
theorem jW.q {n:Int} (hP:jW C i j x y n C' err) (hu:fG C i x j y) (her:qO y.ecnt y.eerr):dk_ C i j x y C':=by
 unfold jW at hP
 split at hP
 ·exact .inl hP.1
 rename_i hw0
 split at hP
 ·exact .inr ⟨⟨x.file,x.page,x.pg,x.tenant,x.holds,x.reading,0⟩,cj_ x y,⟨hu.ok.page,hu.ok.tenant,hu.ok.pg,hu.ok.holds,hu.ok.reading,⟨by show (0:Int)<=0;omega,by show (0:Int)<=3;omega⟩⟩,fun _=> .inr hw0,rfl,rfl,rfl,rfl,rfl,rfl,her,fun a=>a.or (by have:=hu.ok.page;omega),rfl,rfl,rfl,rfl,hP.1⟩
 ·rename_i hn
  exact .inr ⟨⟨x.file,x.page,aA x.pg x.writing,x.tenant,x.holds,x.reading,0⟩,⟨y.dev,y.slot,y.c,y.size,y.blocks,(dN y.ecnt y.eerr n).1,(dN y.ecnt y.eerr n).2.1,y.sseq,y.ssize,y.sblocks,y.which,y.seq⟩,⟨hu.ok.page,hu.ok.tenant,mN hu.ok.pg hu.ok.writing,hu.ok.holds,hu.ok.reading,⟨by show (0:Int)<=0;omega,by show (0:Int)<=3;omega⟩⟩,fun _=> .inr hw0,rfl,rfl,rfl,rfl,rfl,rfl,gr_ her hn,id,rfl,rfl,rfl,rfl,hP.1⟩
theorem iW_ (n:Int) (h:x_ w S a b c d e f g C) (hl:kT C) (hu:fG C i x j y) (her:qO y.ecnt y.eerr) (hS:∀z,w.heap.size<=z->S z) :
  C_ 17 #[bK a b c d e f g,I_ ((i:Int)+1),I_ n] w (eK (dk_ C i j x y) S w):=by
 refine (iX_ n h hl hu her hS).mono ?_;rintro en w' ⟨C',err,a',b',c',d',e',f',g',hP,h1,h2,h3⟩;exact ⟨C',err,a',b',c',d',e',f',g',hP.q hu her,h1,h2,h3⟩
end
section
theorem dW_ {p:Pg} (h:iM p) (hs:0<=s/\s<=3) {t:ByteArray}:iM (mC p s t):=by
 obtain ⟨d,v,y⟩:=p;obtain ⟨h1,h2,h3,a⟩:=h
 dsimp only at h1 h2 h3 a
 refine ⟨?_,?_,h3,?_⟩
 ·show (gG d t v s 16).toArray.size=16
  rw [List.size_toArray,dA]
 ·exact or3 h2 hs
 ·show bits .andNot .i64 y (bits .or .i64 v s)=0
  obtain rfl | rfl | rfl | rfl:v=0\/v=1\/v=2\/v=3:=O_
  all_goals (obtain rfl | rfl | rfl | rfl:y=0\/y=1\/y=2\/y=3:=by omega)
  all_goals (obtain rfl | rfl | rfl | rfl:s=0\/s=1\/s=2\/s=3:=by omega)
  all_goals first
   | decide
   | exact absurd a cE
theorem cY_ (t:ByteArray) (ok:Bool) (h:x_ w S a b c d e f g C) (hl:kT C) (hu:fG C i x j y) (ht:t.size=16) (hS:∀z,w.heap.size<=z->S z) :
  C_ 91 #[bK a b c d e f g,I_ ((i:Int)+1),.string t,.bool ok] w (eK (wT C i j x y) S w):=by
 obtain ⟨S1,s1,s2,s3⟩:=iA hS;replace h:=h.weak s3;clear s3;have al:=fun w' (hb:s_ w w')=>jV i x (h.step hb) hu.fr hl.frames.2;rw [hu.used] at al;obtain ⟨A1,b0,rfl,q1,q2⟩:=h.files.form;obtain ⟨A2,b1,rfl,q3,q4⟩:=h.frames.form;obtain ⟨A3,m3,c3,A4,m4,c4,A5,m5,c5,A6,m6,c6,A7,m7,c7,rfl,rfl,rfl,rfl,rfl⟩:=x_.caps5 h;obtain ⟨bb,o,rfl,b5,y0,y1,y2,y3,y4,y5,y6,y7,y8⟩:=FrA.cells h.frames hu.fr;obtain ⟨bf,of,kt,KB,kc,rfl,b4,k1,k2,k3,k4,b7⟩:=FlA.cells h.files hu.fl;have aj:=bI hu.fr;have bg:=bI hu.fl;have i2:(i:Int)<(C.frames.length:Int):=O_
 have bj:C.frames.length<=100:=hl.frames.2;have bi:C.files.length<=100:=hl.files.2;have j2:(j:Int)<(C.files.length:Int):=O_
 obtain ⟨H,HL,l⟩:=eI h hl hu;clear h hl hu k1 k2 k3 k4;go_enter func91,ntmps91
 go_upto_region 1 with fail
 generalize hW9:(w.alloc _).alloc _=W;obtain ⟨HX,HR,HW,HZ⟩:=dJ hW9;clear hW9;have ar:=HW.out;obtain ⟨x0,J,K,M,N,O,Q⟩:=T_ HX.out
 go_upto_region 3 with (go_at_call 37;(with_reducible refine CM (al _ (by assumption)) ?_);rintro e w1 ⟨rfl,aa⟩;obtain ⟨ad,ao,ac⟩:=bC HX HR HW aa;have bc:=aa.size;clear aa)
 clear x0 J K M N O Q ar;obtain ⟨x0,J,K,M,N,O,Q⟩:=T_ ad.out;have b9:=kt9 (ac.block _ b5) y0 y1 y2 y3 y4 y5 y6 y7 y8;clear y0 y1 y2 y3 y4 y5 y6 y7 y8;obtain ⟨y0,y1,y2,y3,y4,y5,y6,y7,y8⟩:=b9
 go_upto_region 4 with fail
 generalize hW9:w1.alloc _=W2;have R:=nah hW9;have a8:=oZ hW9 ad;have q:=oZ hW9 ao;have E:=lah hW9 ac;clear hW9;clear x0 J K M N O Q y0 y1 y2 y3 y4 y5 y6 y7 y8;obtain ⟨x0,J,K,M,N,O,Q⟩:=T_ a8.out;obtain ⟨X,Y,f2,f3,f4,f5,f6,f7,f8⟩:=iQ R.out;have ba:w.heap.size<=w1.heap.size/\w.heap.size+1<w1.heap.size:=⟨O_,O_⟩
 by_cases a0:x.reading=0
 ·have d3:(x.reading == 0)=true:=by simp [a0]
  clear a0
  go_wp2_with (refine Q_ rfl (.tmp 8) (.tmp 27) rfl rfl rfl rfl q rfl ?_)
  show bodyPost prog f91 _ _ _ _
  refine bodyPost_ret (aG rfl rfl rfl (setRow_heap _ _ _ _ _ _ q)) rfl ?_;exact ⟨C,_,_,_,_,_,_,_,_,.inl rfl,rfl,(H.step (d_ E.out O_ _)).weak (fun z _ I=>(s1 z I).1),d_ E.out O_ _⟩
 ·have d3:(x.reading == 0)=false:=by simp [a0]
  clear a0;have Z:=t_ R 7
  cases ok with
  | false=>
   go_upto_region 17 with fail
   generalize hW9:W2.setCell _ _=W3;have n:=scs hW9 R;have G:=sI hW9 a8;have A:=sI hW9 q;have F:=scl hW9 E;clear hW9;clear x0 J K M N O Q X Y f2 f3 f4 f5 f6 f7 f8;clear Z d3;obtain ⟨x0,J,K,M,N,O,Q⟩:=T_ G.out;obtain ⟨X,Y,f2,f3,f4,f5,f6,f7,f8⟩:=iQ n.out;have az:w.heap.size+1<W3.heap.size:=n_ A
   go_wp2_with (first
    | (go_at_call 55;(with_reducible refine CM (fE i j (⟨x.file,x.page,x.pg,x.tenant,x.holds,0,x.writing⟩) y (H.out.step F.out) HL.out aj l.out.fl l.out.ix (fun z I=>s2 z (by omega))) ?_);rintro e w4 ⟨gf,nf,cf,gr,nr,cr,c',d',gl,nl,cl,gk,nk,ck,g',rfl,eJ,m⟩;obtain ⟨P3,n3,r3,rfl⟩:=eJ.zones.cap;obtain ⟨P4,n4,r4,rfl⟩:=eJ.groups.cap;obtain ⟨P7,n7,r7,rfl⟩:=eJ.ptes.cap;obtain ⟨D,an,aw,a6⟩:=dU A n G F m;have a2:=H_ eJ;have am:=H_ m;clear eJ m)
    | (refine Q_ rfl (.tmp 8) (.tmp 72) rfl rfl rfl rfl D rfl ?_))
   show bodyPost prog f91 _ _ _ _
   refine bodyPost_ret (aG rfl rfl rfl (setRow_heap _ _ _ _ _ _ D)) rfl ?_;refine ⟨cP C i j y (⟨x.file,x.page,x.pg,x.tenant,x.holds,0,x.writing⟩),_,_,_,_,_,_,_,_,?_,rfl,((a2.setRow (w+1) (oY gf nf cf gr nr cr (S_ P3 n3 r3) (S_ P4 n4 r4) gl nl cl gk nk ck (S_ P7 n7 r7)) (fun I=>(s1 _ I).2.2 rfl) O_).weak O_ (fun z I=>(s1 z I).1) hS).at_,d_ a6.out O_ _⟩;exact .inr ⟨⟨x.file,x.page,x.pg,x.tenant,x.holds,0,x.writing⟩,⟨l.ok.page,l.ok.tenant,l.ok.pg,l.ok.holds,⟨by show (0:Int)<=0;omega,by show (0:Int)<=3;omega⟩,l.ok.writing⟩,fun h=>h,rfl,rfl,rfl,rfl⟩
  | true=>
   have HT:=H_ ht;have d4:((t.size:Int) != 16)=false:=by simp;omega
   have ah:=fun w=>Lib.run_convert_string_bytes (P:=prog) w 9 77 5 t underlying9 underlying77 underlying5;clear ht Z
   go_upto_region 10 with fail
   have HV:=H_ (yW W2 t);have ag:=rR W2 5 t;obtain ⟨a9,a5,a3,a7⟩:=dU a8 q R E ag;have hB:=E.size;have b2:=n_ q;have b3:=n_ R;have bd:t.size<=16:=by have:=HT.out;omega
   have be:16<=t.size:=by have:=HT.out;omega
   clear ag ah x0 J K M N O Q X Y f2 f3 f4 f5 f6 f7 f8;generalize Lib.bytesWorld W2 5 t=V at HV a9 a5 a3 a7;generalize grownCap W2 t.size 0 5=cp;obtain ⟨B,ae⟩:=bL W2.heap.size;rw [<-ae] at HV hB b2 b3 ⊢;clear ae;obtain ⟨p,hp⟩:∃p:Nat,x.page=p:=⟨x.page.toNat,by have:=l.ok.page;omega⟩;have bm:p<8:=by have:=l.ok.page;omega
   have HP:=H_ hp;clear hp d3 d4;go_wp2
   go_loopw [12] (fun s wx=>∃(k:Nat) (L:List UInt8),s = I_ k/\k<=16/\L.length=16/\LW U8R wx (fun _=>False) B L/\s_ w wx/\bA wx (w) (D_ (some ⟨bf,of,none⟩) C.files.length b0 (some ⟨bb,o,none⟩) C.frames.length b1 A3 m3 c3 A4 m4 c4 A5 m5 c5 A6 m6 c6 A7 m7 c7) 30/\wx.heap[w.heap.size+1]?=some (bM)/\wx.heap[w1.heap.size]?=some (oF x)) (fun s _=>16 - (intOf s).toNat)
   case atStart=>exact ⟨0,_,rfl,O_,by simp [HT.out],HV.out,a7.out,a9.out,a5.out,a3.out⟩
   case round=>
    clear HV a7 a9 a5 a3;obtain ⟨k,L,rfl,hk,hL,hw,hb,hX,hR,hF⟩:=hrel;obtain ⟨HV,HW,HX,HR,R,a4⟩:=h6_ hw hb hX hR hF hL;obtain ⟨x0,J,K,M,N,O,Q⟩:=T_ hX;obtain ⟨X,Y,f2,f3,f4,f5,f6,f7,f8⟩:=iQ hF;rw [l.ix] at X;rw [HP.out] at Y;have z6:wr.cell? ⟨bf,of+j*15+6,none⟩=some (I_ y.size):=(g_ (HW.block _ b4)).trans (b7 6 _ rfl);clear hX hR hF
    by_cases bk:k<16
    ·have bh:k<t.size:=O_
     have fz:=(hw.slot (i:=k) (p:=0) O_ O_).2;obtain ⟨c0,b6⟩:=(hw.slot (i:=k) (p:=0) O_ O_).1;rw [Nat.mul_one,Nat.add_zero] at fz b6;clear hw hb hL;have bn:i64.wrap ((p:Int)*16)=(p:Int)*16:=IntWalk.i64_in _ O_;have bo:i64.wrap ((p:Int)*16+(k:Int))=(p:Int)*16+(k:Int):=IntWalk.i64_in _ O_
     by_cases ai:y.size<=(p:Int)*16+(k:Int)
     ·have g1:decide (y.size<=(p:Int)*16+(k:Int))=true:=dT ai
      go_upto_region 13 with fail
      go_quiet (fail);go_wp2;go_roundw
      case rel=>
       have hw:=HV.step (below_drewN B_ nq);have hs:=hw.setOne (i:=k) (p:=0) (a:=L[k]'(by have:=a4.out;omega)) (a':=0) (v:= .int .u8 0) (cY _) O_ rfl (fun r hr=>by
        have hr:r=[.int .u8 _]:=hr;subst hr
        rfl)
       rw [Nat.mul_one,Nat.add_zero] at hs;have bl:B≠w.heap.size/\B≠w.heap.size+1/\B≠w1.heap.size:=O_
       exact ⟨k+1,L.set k 0,by go_num,O_,by simp [a4.out],hs,aT (below_drewN HW.out _) ⟨B,k,none⟩ _ (by show w.heap.size<=B;omega),aQ HX.out _ _ (by show w.heap.size≠B;omega),aQ HR.out _ _ (by show w.heap.size+1≠B;omega),aQ R.out _ _ (by show w1.heap.size≠B;omega)⟩
      case measure=>exact bV
     ·have g1:decide (y.size<=(p:Int)*16+(k:Int))=false:=dF ai
      go_upto_region 13 with fail
      go_quiet (fail);go_wp2;go_roundw
      case rel=>exact ⟨k+1,L,by go_num,O_,a4.out,HV.out.step (below_drewN B_ nq),below_drewN HW.out _,HX.out,HR.out,R.out⟩
      case measure=>exact bV
    ·obtain rfl:k=16:=O_
     have ah:(convert 77 9 (S_ (some ⟨B,0,none⟩) t.size cp)).run prog wr = .ok (.string ⟨L.toArray⟩) wr:=by
      have:=kX L B cp wr (fun j hj=>by
       obtain ⟨r,hr,hc⟩:=hw.at_ (cY hj);have hr:r=[.int .u8 _]:=hr;subst hr;have:=hc 0 _ rfl;rw [Nat.mul_one,Nat.add_zero] at this;exact this)
      rw [hL] at this;rw [HT.out];exact this
     have a1:(⟨L.toArray⟩:ByteArray).size=16:=by simpa [ByteArray.size] using hL
     have b8:=fun w'=>hu_ x.pg.data x.pg.valid x.pg.dirty x.reading ⟨L.toArray⟩ w' l.ok.pg l.ok.reading a1;clear hw hb hL z6 a1
     go_upto_region 16 with (first
      | (go_at_call 150;(with_reducible refine CM (b8 _) ?_);rintro e w5 ⟨rfl,af⟩;obtain ⟨ab,ax,ap,au⟩:=dU R HX HR HW af;clear af;have ak:=iY ab)
      | (refine nK rfl 83 (.tmp 67) (.tmp 65) rfl (w1) 2 #[.string (mC x.pg x.reading ⟨L.toArray⟩).data,I_ (mC x.pg x.reading ⟨L.toArray⟩).valid,I_ (mC x.pg x.reading ⟨L.toArray⟩).dirty] rfl rfl ak cK (eE) ?_)
      | fail)
     have U:=H_ (iS (u:= .string (mC x.pg x.reading ⟨L.toArray⟩).data) (v:= I_ (mC x.pg x.reading ⟨L.toArray⟩).valid) (z:= I_ (mC x.pg x.reading ⟨L.toArray⟩).dirty) ab);generalize hW9:w5.setCells (w1) 2 _=W8 at U;have ay:=yL hW9 ax;have aq:=yL hW9 ap;have av:=sml hW9 au;clear hW9;clear x0 J K M N O Q X Y f2 f3 f4 f5 f6 f7 f8;clear ak;have Z:=t_ U 7;obtain ⟨X,Y,f2,f3,f4,f5,f6,f7,f8⟩:=iQ U.out
     go_upto_region 17 with fail
     generalize hW9:W8.setCell _ _=W3;have n:=scs hW9 U;have G:=sI hW9 ay;have A:=sI hW9 aq;have F:=scl hW9 av;clear hW9;clear X Y f2 f3 f4 f5 f6 f7 f8 Z;obtain ⟨x0,J,K,M,N,O,Q⟩:=T_ G.out;obtain ⟨X,Y,f2,f3,f4,f5,f6,f7,f8⟩:=iQ n.out;have az:w.heap.size+1<W3.heap.size:=n_ A
     go_wp2_with (first
      | (go_at_call 55;(with_reducible refine CM (fE i j (⟨x.file,x.page,mC x.pg x.reading ⟨L.toArray⟩,x.tenant,x.holds,0,x.writing⟩) y (H.out.step F.out) HL.out aj l.out.fl l.out.ix (fun z I=>s2 z (by omega))) ?_);rintro e w4 ⟨gf,nf,cf,gr,nr,cr,c',d',gl,nl,cl,gk,nk,ck,g',rfl,eJ,m⟩;obtain ⟨P3,n3,r3,rfl⟩:=eJ.zones.cap;obtain ⟨P4,n4,r4,rfl⟩:=eJ.groups.cap;obtain ⟨P7,n7,r7,rfl⟩:=eJ.ptes.cap;obtain ⟨D,an,aw,a6⟩:=dU A n G F m;have a2:=H_ eJ;have am:=H_ m;clear eJ m)
      | (refine Q_ rfl (.tmp 8) (.tmp 72) rfl rfl rfl rfl D rfl ?_))
     show bodyPost prog f91 _ _ _ _
     refine bodyPost_ret (aG rfl rfl rfl (setRow_heap _ _ _ _ _ _ D)) rfl ?_;refine ⟨cP C i j y (⟨x.file,x.page,mC x.pg x.reading ⟨L.toArray⟩,x.tenant,x.holds,0,x.writing⟩),_,_,_,_,_,_,_,_,?_,rfl,((a2.setRow (w+1) (oY gf nf cf gr nr cr (S_ P3 n3 r3) (S_ P4 n4 r4) gl nl cl gk nk ck (S_ P7 n7 r7)) (fun I=>(s1 _ I).2.2 rfl) O_).weak O_ (fun z I=>(s1 z I).1) hS).at_,d_ a6.out O_ _⟩;exact .inr ⟨⟨x.file,x.page,mC x.pg x.reading ⟨L.toArray⟩,x.tenant,x.holds,0,x.writing⟩,⟨l.ok.page,l.ok.tenant,dW_ l.ok.pg l.ok.reading,l.ok.holds,⟨by show (0:Int)<=0;omega,by show (0:Int)<=3;omega⟩,l.ok.writing⟩,fun h=>h,rfl,rfl,rfl,rfl⟩
end
section
def bT (s:Int):Int × Int:=if s=1 then (0,1) else if s=2 then (1,1) else (0,2)
theorem e0_ (s:Int) (w:World):C_ 53 #[I_ s] w (kV (.tuple #[I_ (bT s).1,I_ (bT s).2]) w):=by
 by_cases h1:s=1
 ·subst h1;go_enter func53,ntmps53;go_wp2
  go_ret2
  exact ⟨rfl,rfl⟩
 ·by_cases h2:s=2
  ·subst h2;go_enter func53,ntmps53;go_wp2
   go_ret2
   exact ⟨rfl,rfl⟩
  ·have a:=H_ (show bT s=(0,2) by unfold bT;rw [if_neg h1,if_neg h2]);have b:(s == 1)=false:=beq_eq_false_iff_ne.2 h1;have c:(s == 2)=false:=beq_eq_false_iff_ne.2 h2;clear h1 h2;go_enter func53,ntmps53;go_wp2
   go_ret2
   exact ⟨by rw [a.out];rfl,rfl⟩
theorem hW_ (s:Nat) (hs:s<7):C_ 145 #[I_ s] w (kV (.bool true) w):=by
 have h0:(0:Int)<=(s:Int):=O_
 have h1:(s:Int)<7:=O_
 go_enter func145,ntmps145
 go_wp2_with (go_at_call 146;refine (b7_ _).mono ?_;rintro e w1 ⟨rfl,rfl⟩)
 go_ret;exact ⟨rfl,rfl⟩
theorem xP (s p:Nat) (hs:s<7) (hp:p<8):C_ 122 #[I_ s,I_ p] w (kV (I_ ((s:Int)*18+2+(p:Int)*2)) w):=by
 have h0:(0:Int)<=(p:Int):=O_
 have h1:(p:Int)<8:=O_
 have h2:(0:Int)<=(s:Int):=O_
 have h3:(s:Int)<7:=O_
 go_enter func122,ntmps122
 go_wp2_with (go_at_call 145;refine (hW_ s hs).mono ?_;rintro e w1 ⟨rfl,rfl⟩)
 go_ret;exact ⟨rfl,rfl⟩
theorem aW:(prog.info? 37).map (·.size)=some 10:=by kernel_rfl
theorem cN {a0 a1 a2 a3 a4 a5:Int} {d:ByteArray} {b c:Bool} {t:Int}:(aO a0 a1 a2 a3 a4 a5 d b c t).all (·.oneCell')=true:=by simp [Value.oneCell']
theorem bf_ {p:Tmp} (h:fn.results=#[.cell p 37]) {g:Nat} {x7 x8 x9:Value}
  (hp:tmps.getD p undef = P_ g) (hg:w.heap[g]?=some (.cells #[x0,x1,x2,x3,x4,x5,x6,x7,x8,x9] t fr)):(results fn tmps).run prog w = .ok (.agg #[x0,x1,x2,x3,x4,x5,x6,x7,x8,x9]) w:=
 results_cell_row h tmps w g t _ fr _ hp hg underlying37 rfl aW
def iG_ (x:Fr) (y:Fl) (s p:Nat) (n:Int) (w:World) (en:Ending) (w':World):Prop:=en = .returned (.agg (aO 0 x.tenant y.dev 0 ((s:Int)*18+2+(p:Int)*2+(bT n).1) ((bT n).2) ⟨#[]⟩ false false 0))/\s_ w w'
theorem cZ_ (s p:Nat) (n:Int) (h:x_ w S a b c d e f g C) (hl:kT C) (hu:fG C i x j y) (hs:y.slot=s) (hs7:s<7) (hp:x.page=p) (hS:∀z,w.heap.size<=z->S z) :
  C_ 52 #[bK a b c d e f g,I_ ((i:Int)+1),I_ n] w (iG_ x y s p n w):=by
 have a5:p<8:=by have:=hu.ok.page;omega
 obtain ⟨S1,s1,s2,s3⟩:=iA hS;replace h:=h.weak s3;clear s3;have a7:=fun w' (hb:s_ w w')=>jV i x (h.step hb) hu.fr hl.frames.2;rw [hu.used] at a7;obtain ⟨A1,a9,rfl,q1,q2⟩:=h.files.form;obtain ⟨A2,aa,rfl,q3,q4⟩:=h.frames.form;obtain ⟨A3,m3,c3,A4,m4,c4,A5,m5,c5,A6,m6,c6,A7,m7,c7,rfl,rfl,rfl,rfl,rfl⟩:=x_.caps5 h;obtain ⟨bb,o,rfl,a3,J,L,M,N,O,P,Q,R,U⟩:=FrA.cells h.frames hu.fr;obtain ⟨bf,of,kt,KB,kc,rfl,a2,k1,k2,k3,k4,a4⟩:=FlA.cells h.files hu.fl;have ab:=bI hu.fr;have ac:=bI hu.fl;have i2:(i:Int)<(C.frames.length:Int):=O_
 have ae:C.frames.length<=100:=hl.frames.2;have ad:C.files.length<=100:=hl.files.2;have j2:(j:Int)<(C.files.length:Int):=O_
 obtain ⟨H,HL,HU⟩:=eI h hl hu;clear h hl hu k1 k2 k3 k4;have HP:=H_ hp;have HS:=H_ hs;clear hp hs;go_enter func52,ntmps52
 go_upto_region 1 with fail
 generalize hW9:(w.alloc _).alloc _=W;obtain ⟨HX,HR,HW,HZ⟩:=dJ hW9;clear hW9;obtain ⟨x0,x1,x2,x3,x4,x5,x6⟩:=T_ HX.out;have a8:=kt9 (HW.block _ a3) J L M N O P Q R U;clear J L M N O P Q R U;obtain ⟨J,L,M,N,O,P,Q,R,U⟩:=a8
 go_upto_region 2 with fail
 have V:=H_ (l_ W (oF x) (w+1+1) HZ);have B:=H_ (m_ HX (oF x));have v:=H_ (m_ HR (oF x));have t:=H_ (a_ HW (oF x));have D:(W.alloc (oF x)).heap.size=w.heap.size+1+1+1:=by simp [HZ]
 generalize W.alloc (oF x)=W2 at V B v t D;clear x0 x1 x2 x3 x4 x5 x6 J L M N O P Q R U;obtain ⟨x0,x1,x2,x3,x4,x5,x6⟩:=T_ B.out;obtain ⟨Z,I,f2,f3,f4,f5,f6,f7,f8⟩:=iQ V.out;rw [HU.ix] at Z;obtain ⟨z0,z1,-⟩:=zc (t.block _ a2) a4
 go_upto_region 3 with fail
 have r:=H_ (l_ W2 (.cells #[I_ y.dev,I_ y.slot] 53) (w+1+1+1) D);generalize hW9:W2.alloc (.cells #[I_ y.dev,I_ y.slot] 53)=E at r;have u:=oZ hW9 V;have X:=oZ hW9 v;have Y:=lah hW9 t;clear hW9;clear x0 x1 x2 x3 x4 x5 x6 Z I f2 f3 f4 f5 f6 f7 f8 z0 z1;obtain ⟨Z,I,f2,f3,f4,f5,f6,f7,f8⟩:=iQ u.out;obtain ⟨l0,l1⟩:=uW r.out;rw [HP.out] at I;rw [HS.out] at l1;have F:=n_ u;have G:=n_ r
 go_upto_region 4 with (go_at_call 53;refine (e0_ n _).mono ?_;rintro e w9 ⟨rfl,rfl⟩)
 have a6:0<=(bT n).1/\(bT n).1<=1:=by
  unfold bT
  split
  ·exact ⟨by show (0:Int)<=0;omega,by show (0:Int)<=1;omega⟩
  split
  ·exact ⟨by show (0:Int)<=1;omega,by show (1:Int)<=1;omega⟩
  exact ⟨by show (0:Int)<=0;omega,by show (0:Int)<=1;omega⟩
 obtain ⟨af,ag⟩:=a6
 go_cut [] (fun wx=>bA wx (w+1) (aO 0 x.tenant y.dev 0 ((s:Int)*18+2+(p:Int)*2+(bT n).1) ((bT n).2) ⟨#[]⟩ false false 0) 37/\s_ w wx)
 case first=>
  refine aR (S:=fun _=>False) 42 13 (fun i=>decide (i<=12)) (fun wx=>bA wx (w+1) (aO 0 x.tenant y.dev 0 ((s:Int)*18+2+(p:Int)*2+(bT n).1) ((bT n).2) ⟨#[]⟩ false false 0) 37/\s_ w wx) [SK.eq (P_ (w+1+1+1)),SK.eq (I_ y.dev),SK.eq (.pointer (some ⟨w+1+1,5,none⟩)),SK.eq (I_ x.tenant),SK.eq (.pointer (some ⟨w+1+1+1,1,none⟩)),SK.eq (I_ (s:Int)),SK.eq (.pointer (some ⟨w+1+1,1,none⟩)),SK.eq (I_ (p:Int)),SK.eq (I_ ((s:Int)*18+2+(p:Int)*2)),SK.eq (I_ (bT n).1),SK.eq (I_ ((s:Int)*18+2+(p:Int)*2+(bT n).1)),SK.eq (I_ (bT n).2),SK.eq (.agg (aO 0 x.tenant y.dev 0 ((s:Int)*18+2+(p:Int)*2+(bT n).1) ((bT n).2) ⟨#[]⟩ false false 0)),SK.any] q_ q_ rfl (fun _=>trivial) ?_;refine qP fun v0=>?_;simp only[ly];refine c_ rfl rfl (fun xw l m K q=>?_) (fun v1=>?_)
  ·obtain rfl:v0=_:=m 0 q_;have k:s_ E xw:=l;have u0:=(k.cell (p:=⟨w+1+1+1,_,none⟩) G).trans l0;go_simp;exact q _ _ l K_ rfl
  simp only[ly];refine qP fun v2=>?_;simp only[ly];refine c_ rfl rfl (fun xw l m K q=>?_) (fun v3=>?_)
  ·obtain rfl:v2=_:=m 2 q_;have k:s_ E xw:=l;have u0:=(k.cell (p:=⟨w+1+1,_,none⟩) F).trans f5;go_simp;exact q _ _ l K_ rfl
  simp only[ly];refine qP fun v4=>?_;simp only[ly];refine c_ rfl rfl (fun xw l m K q=>?_) (fun v5=>?_)
  ·obtain rfl:v4=_:=m 4 q_;have k:s_ E xw:=l;have u0:=(k.cell (p:=⟨w+1+1+1,_,none⟩) G).trans l1;go_simp;exact q _ _ l K_ rfl
  simp only[ly];refine qP fun v6=>?_;simp only[ly];refine c_ rfl rfl (fun xw l m K q=>?_) (fun v7=>?_)
  ·obtain rfl:v6=_:=m 6 q_;have k:s_ E xw:=l;have u0:=(k.cell (p:=⟨w+1+1,_,none⟩) F).trans I;go_simp;exact q _ _ l K_ rfl
  simp only[ly];refine c_ rfl rfl (fun xw l m K q=>?_) (fun v8=>?_)
  ·obtain rfl:v5=_:=m 5 q_;obtain rfl:v7=_:=m 7 q_;go_simp
   go_at_call 122
   refine (xP s p hs7 a5).mono ?_;rintro e w1 ⟨rfl,rfl⟩;exact q _ _ l K_ rfl
  simp only[ly];refine qP fun v9=>?_;simp only[ly];refine c_ rfl rfl (fun xw l m K q=>?_) (fun v10=>?_)
  ·obtain rfl:v8=_:=m 8 q_;obtain rfl:v9=_:=m 9 q_;go_simp;exact q _ _ l K_ (by first | rfl | (show Value.int _ _=Value.int _ _;simp;done) | (show Value.int _ _=Value.int _ _;simp [IntKind.wrap_i64,wrap64];done) | (show Value.int _ _=Value.int _ _;simp [IntKind.wrap_i64];omega))
  simp only[ly];refine qP fun v11=>qP fun v12=>?_;simp only[ly];refine z_ (fun xw l m K q=>?_) (fun v13=>?_)
  ·obtain rfl:v12=_:=m 12 q_;have k:s_ E xw:=l;have A:=h_ X k;refine aE rfl 37 (.tmp 6) (.tmp 41) rfl rfl (aO 0 x.tenant y.dev 0 ((s:Int)*18+2+(p:Int)*2+(bT n).1) ((bT n).2) ⟨#[]⟩ false false 0) rfl rfl 37 _ A aW rfl (cN) ?_;exact q undef _ ⟨setRow_heap _ _ _ _ _ _ A,d_ (e_ Y.out k) O_ _⟩ (r_.of_setRow _ _ _ (fun h=>h)) trivial
  simp only[ly];refine G_ ?_;intro wz hD hG;clear hG;go_wp2;go_meet
  case rel=>exact hD
 case rest=>
  obtain ⟨a0,a1⟩:=hcut;go_wp2
  show bodyPost prog f52 _ _ _ _
  refine bodyPost_ret (bf_ rfl rfl a0) rfl ?_;exact ⟨rfl,a1⟩
end
section
theorem qS {p:Pg} (h:iM p) (hs:0<=s/\s<=3):iM (cA p s):=by
 obtain ⟨d,v,y⟩:=p;obtain ⟨h1,h2,h3,a⟩:=h
 dsimp only at h1 h2 h3 a
 refine ⟨h1,h2,?_,?_⟩
 all_goals
  show _
  simp only[cA];obtain rfl | rfl | rfl | rfl:v=0\/v=1\/v=2\/v=3:=O_
  all_goals (obtain rfl | rfl | rfl | rfl:y=0\/y=1\/y=2\/y=3:=by omega)
  all_goals (obtain rfl | rfl | rfl | rfl:s=0\/s=1\/s=2\/s=3:=by omega)
  all_goals first
   | decide
   | exact absurd a cE
def fw_ (C:Ck) (i j:Nat) (x:Fr) (y:Fl) (C':Ck):Prop:=C'=C\/∃x',jE x'/\(DwF x'->DwF x)/\x'.file=x.file/\x'.page=x.page/\x'.tenant=x.tenant/\C'={cP C i j y x' with ptes:=C.ptes.map (eZ ((i:Int)+1))}
def yK:Value:= .agg jJ
def rqP (x:Fr) (y:Fl) (sc kind:Int) (d:ByteArray):Value:= .agg (aO 0 x.tenant y.dev kind (y.slot*18+2+x.page*2+(bT sc).1) ((bT sc).2) d false false 0)
def eQ (x:Fr) (y:Fl):Int:=if (bits .and .i64 y.blocks (wrap64 (2 ^ x.page.toNat)) == 0)=true then 3 else x.pg.dirty
def jF (x:Fr) (sc:Int):ByteArray:=x.pg.data.extract ((bT sc).1.toNat*8) (((bT sc).1.toNat+(bT sc).2.toNat)*8)
def pG (C:Ck) (i j:Nat) (x:Fr) (y:Fl) (sc:Int):Ck:={cP C i j y ⟨x.file,x.page,cA x.pg sc,x.tenant,x.holds,x.reading,sc⟩ with ptes:=C.ptes.map (eZ ((i:Int)+1))}
def fM (C:Ck) (i j:Nat) (x:Fr) (y:Fl) (C':Ck) (rq:Value) (err:Int):Prop:=
 if x.writing≠0 then C'=C/\rq=yK/\err=7 else if x.pg.dirty=0 then C'=C/\rq=yK/\err=4 else C'=pG C i j x y (eQ x y)/\rq=rqP x y (eQ x y) 2 (jF x (eQ x y))/\err=0
def kU (P:Ck->Value->Int->Prop) (S:Nat->Prop) (w:World) (en:Ending) (w':World):Prop:=∃C' err a b c d e f g rq,P C' rq err/\en = .returned (.tuple #[bK a b c d e f g,rq,I_ err])/\x_ w' S a b c d e f g C'/\s_ w w'
def im_ (P:Ck->Prop) (S:Nat->Prop) (w:World) (en:Ending) (w':World):Prop:=∃C' err a b c d e f g rq,P C'/\en = .returned (.tuple #[bK a b c d e f g,rq,I_ err])/\x_ w' S a b c d e f g C'/\s_ w w'
theorem jJ_ {P:Program} {p r q:Tmp} {ty ty2:TypeId} (h:fn.results=#[.cell p ty,.cell r ty2,.tmp q]) (tmps:Array Value) {g:Nat} (t t2:TypeId) {cs uW:Array Value} (fr fr2:Nat × Nat) {d d2:TypeDesc} (u:Value)
  (hp:tmps.getD p undef = P_ g) (hr:tmps.getD r undef = P_ g2) (hq:tmps.getD q undef=u) (hg:w.heap[g]?=some (.cells cs t fr)) (hg2:w.heap[g2]?=some (.cells uW t2 fr2))
  (hu:P.underlying ty=some d) (hd:(match d with | .struct _ | .array _ _=>true | _=>false)=true) (hi:(P.info? ty).map (·.size)=some cs.size)
  (hu2:P.underlying ty2=some d2) (hd2:(match d2 with | .struct _ | .array _ _=>true | _=>false)=true) (hi2:(P.info? ty2).map (·.size)=some uW.size) :
  (results fn tmps).run P w = .ok (.tuple #[.agg cs,.agg uW,u]) w:=by
 have a:tmps[p]?.getD undef = P_ g:=by simpa using hp
 have c:tmps[r]?.getD undef = P_ g2:=by simpa using hr
 have b:tmps[q]?.getD undef=u:=by simpa using hq
 simp [results,h,a,c,b,asAddr,run_loadVar_row w g t ty cs fr d hg hu hd hi,run_loadVar_row w g2 t2 ty2 uW fr2 d2 hg2 hu2 hd2 hi2]
theorem aH_ {p r q:Tmp} (h:fn.results=#[.cell p 30,.cell r 37,.tmp q]) {g:Nat} {t2:TypeId} {y0 y1 y2 y3 y4 y5 y6 y7 y8 y9:Value} {fr2:Nat × Nat} {u:Value}
  (hp:tmps.getD p undef = P_ g) (hr:tmps.getD r undef = P_ g2) (hq:tmps.getD q undef=u) (hg:w.heap[g]?=some (.cells #[x0,x1,x2,x3,x4,x5,x6] t fr)) (hg2:w.heap[g2]?=some (.cells #[y0,y1,y2,y3,y4,y5,y6,y7,y8,y9] t2 fr2)):(results fn tmps).run prog w = .ok (.tuple #[bK x0 x1 x2 x3 x4 x5 x6,.agg #[y0,y1,y2,y3,y4,y5,y6,y7,y8,y9],u]) w:=
 jJ_ h tmps t t2 fr fr2 u hp hr hq hg hg2 underlying30 rfl cD underlying37 rfl aW
def CBb (S:Nat->Prop) (W:World) (n X Y:Nat) (cs qs:Array Value) (w:World) (b:Bool) (wx:World):Prop:=r_ S W wx/\Below n w wx/\wx.heap[X]?=some (.cells cs 30 (0,0))/\wx.heap[Y]?=some (.cells qs 37 (0,0))/\(∃cs,wx.heap[n+1]?=some (.cells cs 30 (0,0))/\cs.size=7)/\(∃cs,wx.heap[n+1+1]?=some (.cells cs 37 (0,0))/\cs.size=10)/\(b=true->wx.heap[n+1+1]?=some (.cells qs 37 (0,0)))
def GBb (A B:Value) (H:World->Prop):Nat->Value->World->Prop
 | 0,v,_=>v=A
 | 1,v,_=>v=B
 | 2,_,w=>H w
 | 3,_,_=>True
 | 4,v,_=>v = I_ 0
 | _+5,_,_=>True
theorem fI_ (s:Nat) (h:x_ w S a b c d e f g C) (hl:kT C) (hu:fG C i x j y) (hs:y.slot=s) (hs7:s<7) (hpt:dZ C.ptes) (hS:∀z,w.heap.size<=z->S z) :
  C_ 11 #[bK a b c d e f g,I_ ((i:Int)+1)] w (kU (fM C i j x y) S w):=by
 have b6:=H_ hs;have c0:=H_ hpt;clear hs hpt;obtain ⟨S1,s1,s2,s3⟩:=iA hS;replace h:=h.weak s3;clear s3;have br:=fun w' (hb:s_ w w')=>jV i x (h.step hb) hu.fr hl.frames.2;rw [hu.used] at br;obtain ⟨A1,D,rfl,q1,q2⟩:=h.files.form;obtain ⟨A2,E,rfl,q3,q4⟩:=h.frames.form;obtain ⟨A3,m3,I,A4,m4,m,A5,m5,B,A6,m6,G,A7,m7,c7,rfl,rfl,rfl,rfl,rfl⟩:=x_.caps5 h;obtain ⟨bb,o,rfl,di,y0,y1,y2,y3,y4,y5,y6,y7,y8⟩:=FrA.cells h.frames hu.fr;obtain ⟨bf,of,kt,KB,kc,rfl,dh,k1,k2,k3,k4,dj⟩:=FlA.cells h.files hu.fl;have dl:=bI hu.fr;have dz:=bI hu.fl;have i2:(i:Int)<(C.frames.length:Int):=O_
 have e1:C.frames.length<=100:=hl.frames.2;have e0:C.files.length<=100:=hl.files.2;have j2:(j:Int)<(C.files.length:Int):=O_
 obtain ⟨H,HL,HU⟩:=eI h hl hu;clear h hl hu k1 k2 k3 k4;have HX:=H_ (m_ (m_ (i_ w (.cells (D_ (some ⟨bf,of,none⟩) C.files.length D (some ⟨bb,o,none⟩) C.frames.length E A3 m3 I A4 m4 m A5 m5 B A6 m6 G A7 m7 c7) 30)) (bM)) (jD));have HR:=H_ (m_ (l_ (w.alloc (.cells (D_ (some ⟨bf,of,none⟩) C.files.length D (some ⟨bb,o,none⟩) C.frames.length E A3 m3 I A4 m4 m A5 m5 B A6 m6 G A7 m7 c7) 30)) (bM) (w+1) A_) (jD));have HQ:=H_ (l_ ((w.alloc (.cells (D_ (some ⟨bf,of,none⟩) C.files.length D (some ⟨bb,o,none⟩) C.frames.length E A3 m3 I A4 m4 m A5 m5 B A6 m6 G A7 m7 c7) 30)).alloc (bM)) (jD) (w+1+1) A_);have HW:=H_ (a_ (a_ (a_ (aP (w) w) (.cells (D_ (some ⟨bf,of,none⟩) C.files.length D (some ⟨bb,o,none⟩) C.frames.length E A3 m3 I A4 m4 m A5 m5 B A6 m6 G A7 m7 c7) 30)) (bM)) (jD));have HZ:(((w.alloc (.cells (D_ (some ⟨bf,of,none⟩) C.files.length D (some ⟨bb,o,none⟩) C.frames.length E A3 m3 I A4 m4 m A5 m5 B A6 m6 G A7 m7 c7) 30)).alloc (bM)).alloc (jD)).heap.size=w.heap.size+1+1+1:=A_
 go_enter func11,ntmps11
 go_upto_region 1 with fail
 generalize ((w.alloc (.cells (D_ (some ⟨bf,of,none⟩) C.files.length D (some ⟨bb,o,none⟩) C.frames.length E A3 m3 I A4 m4 m A5 m5 B A6 m6 G A7 m7 c7) 30)).alloc (bM)).alloc (jD)=W at HX HR HQ HW HZ;have cu:=HW.out;obtain ⟨x0,x1,x2,x3,x4,x5,x6⟩:=T_ HX.out
 go_upto_region 3 with (go_at_call 37;(with_reducible refine CM (br _ (by assumption)) ?_);rintro e w1 ⟨rfl,ai⟩;obtain ⟨ba,ce,c8,b7⟩:=dU HX HR HQ HW ai;have du:=ai.size;clear ai)
 clear x0 x1 x2 x3 x4 x5 x6 cu;obtain ⟨x0,x1,x2,x3,x4,x5,x6⟩:=T_ ba.out;have dq:=kt9 (b7.block _ di) y0 y1 y2 y3 y4 y5 y6 y7 y8;clear y0 y1 y2 y3 y4 y5 y6 y7 y8;obtain ⟨y0,y1,y2,y3,y4,y5,y6,y7,y8⟩:=dq
 go_upto_region 4 with fail
 generalize hW9:w1.alloc _=W2;have HF:=nah hW9;have A:=oZ hW9 ba;have n:=oZ hW9 ce;have l:=oZ hW9 c8;have q:=lah hW9 b7;clear hW9;clear x0 x1 x2 x3 x4 x5 x6 y0 y1 y2 y3 y4 y5 y6 y7 y8;obtain ⟨x0,x1,x2,x3,x4,x5,x6⟩:=T_ A.out;obtain ⟨f0,f1,f2,f3,f4,f5,f6,f7,f8⟩:=iQ HF.out;have dt:w.heap.size<=w1.heap.size/\w.heap.size+1+1<w1.heap.size:=⟨O_,O_⟩
 by_cases Y:x.writing=0
 ·have d3:(x.writing != 0)=false:=by rw [Y];rfl
  by_cases a2:x.pg.dirty=0
  ·have d4:(x.pg.dirty == 0)=true:=by rw [a2];rfl
   have HB:=H_ (show fM C i j x y C yK 4 by unfold fM;rw [if_neg (fun h=>h Y),if_pos a2];exact ⟨rfl,rfl,rfl⟩);clear a2 Y
   go_wp2_with (first | (refine Q_ rfl (.tmp 4) (.tmp 34) rfl rfl rfl rfl n.out rfl ?_) | (refine cZ rfl 37 (.tmp 5) (.tmp 35) rfl rfl (w+1+1) jJ rfl rfl 37 _ ((setRow_other _ (w+1) (w+1+1) _ O_).trans l.out) aW rfl (cN) ?_))
   show bodyPost prog f11 _ _ _ _
   refine bodyPost_ret (aH_ rfl rfl rfl rfl ((setRow_other _ (w+1+1) (w+1) _ O_).trans (setRow_heap _ _ _ _ _ _ n.out)) (setRow_heap _ _ _ _ _ _ ((setRow_other _ (w+1) (w+1+1) _ O_).trans l.out))) rfl ?_;have X:=d_ (d_ q.out (by omega:w.heap.size<=w.heap.size+1) (D_ (some ⟨bf,of,none⟩) C.files.length D (some ⟨bb,o,none⟩) C.frames.length E A3 m3 I A4 m4 m A5 m5 B A6 m6 G A7 m7 c7)) (by omega:w.heap.size<=w.heap.size+1+1) jJ;exact ⟨C,_,_,_,_,_,_,_,_,_,HB.out,rfl,(H.step X).weak (fun z _ t=>(s1 z t).1),X⟩
  ·have d4:(x.pg.dirty == 0)=false:=beq_eq_false_iff_ne.2 a2;have dd:=HU.ok.pg.d;have d5:1<=x.pg.dirty/\x.pg.dirty<=3:=O_
   have D5:=H_ d5;have bs:=H_ (show fM C i j x y (pG C i j x y (eQ x y)) (rqP x y (eQ x y) 2 (jF x (eQ x y))) 0 by unfold fM;rw [if_neg (fun h=>h Y),if_neg a2];exact ⟨rfl,rfl,rfl⟩);clear a2 dd d5 Y;obtain ⟨p,hp⟩:∃p:Nat,x.page=p:=⟨x.page.toNat,by have:=HU.ok.page;omega⟩;have e2:p<8:=by have:=HU.ok.page;omega
   have HP:=H_ hp;clear hp
   go_upto_region 9 with fail
   rw [HU.ix] at f0;rw [HP.out] at f1;have z7:W2.cell? ⟨bf,of+j*15+7,none⟩=some (I_ y.blocks):=(g_ (q.block _ dh)).trans (dj 7 _ rfl)
   go_cut [50] (fun s50 wx=>∃bo:Bool,s50 = .bool bo/\bo=(bits .and .i64 y.blocks (wrap64 (2 ^ p)) == 0)/\bA wx (w) (D_ (some ⟨bf,of,none⟩) C.files.length D (some ⟨bb,o,none⟩) C.frames.length E A3 m3 I A4 m4 m A5 m5 B A6 m6 G A7 m7 c7) 30/\wx.heap[w.heap.size+1]?=some (bM)/\wx.heap[w.heap.size+1+1]?=some (jD)/\wx.heap[w1.heap.size]?=some (oF x)/\s_ w wx)
   case first=>
    cases e:(bits .and .i64 y.blocks (wrap64 (2 ^ p)) == 0) with
    | true=>
     go_quiet (fail);go_wp2;go_meet
     case rel=>exact ⟨_,rfl,e.symm,A,n,l,HF,below_drewN q _⟩
    | false=>
     go_quiet (fail);go_wp2;go_meet
     case rel=>exact ⟨_,rfl,e.symm,A,n,l,HF,below_drewN q _⟩
   case rest=>
    clear z7 x0 x1 x2 x3 x4 x5 x6 f0 f1 f2 f3 f4 f5 f6 f7 f8 A n l HF q;obtain ⟨bo,rfl,bj,hX,hR,hQ,hF,hW⟩:=hcut;have bt:=H_ bj;clear bj;obtain ⟨A,n,l,a1,q⟩:=h5_ hX hR hQ hF hW;clear hX hR hQ hF hW d3 d4
    go_upto_if 50 with fail
    go_cut [8] (fun s8 wx=>∃k:Int,s8 = I_ k/\k=(if bo=true then 3 else x.pg.dirty)/\1<=k/\k<=3/\bA wx (w) (D_ (some ⟨bf,of,none⟩) C.files.length D (some ⟨bb,o,none⟩) C.frames.length E A3 m3 I A4 m4 m A5 m5 B A6 m6 G A7 m7 c7) 30/\wx.heap[w.heap.size+1]?=some (bM)/\wx.heap[w.heap.size+1+1]?=some (jD)/\wx.heap[w1.heap.size]?=some (oF x)/\s_ w wx)
    case first=>
     cases bo with
     | true=>
      go_wp2;go_meet
      case rel=>exact ⟨3,rfl,rfl,O_,O_,A.out,n.out,l.out,a1.out,q.out⟩
     | false=>
      go_wp2;go_meet
      case rel=>exact ⟨_,rfl,rfl,D5.out.1,D5.out.2,A,n,l,a1,q⟩
    case rest=>
     clear A n l a1 q;obtain ⟨k,rfl,bn,e5,dr,hX,hR,hQ,hF,hW⟩:=hcut;have cp:=H_ (show eQ x y=k by rw [bn,bt.out];unfold eQ;rw [HP.out];rfl);clear bn;obtain ⟨A,n,l,a1,q⟩:=h5_ hX hR hQ hF hW;have bl:=n_ hR;clear hR hQ hW;obtain ⟨x0,x1,x2,x3,x4,x5,x6⟩:=T_ hX;obtain ⟨f0,f1,f2,f3,f4,f5,f6,f7,f8⟩:=iQ hF;clear hX hF;have bm:=fun w' (hb:s_ w w') (t:w.heap.size+1<w'.heap.size)=>cZ_ s p k (H.step hb) HL.out HU.out b6.out hs7 HP.out (fun z e3=>s2 z O_)
     go_upto_region 12 with (go_at_call 52;(with_reducible refine CM (bm _ q.out bl) ?_);rintro e w3 ⟨rfl,V⟩)
     have e4:w.heap.size+1+1<w3.heap.size/\w1.heap.size<w3.heap.size:=⟨n_ (h_ l V),n_ (h_ a1 V)⟩;generalize hW9:w3.alloc _=W3;have d0:=oZ hW9 (fC A V);have cg:=oZ hW9 (fC n V);have c9:=oZ hW9 (fC l V);have bv:=oZ hW9 (fC a1 V);have ae:=nah hW9;have cv:=lah hW9 (jC q V);clear hW9;clear V bm bl x0 x1 x2 x3 x4 x5 x6 f0 f1 f2 f3 f4 f5 f6 f7 f8;obtain ⟨fi,co,al,dy,dx⟩:∃fi co:Nat,bT k=((fi:Int),(co:Int))/\fi<=1/\fi+co<=2:=by
      obtain rfl | rfl | rfl:k=1\/k=2\/k=3:=O_
      ·exact ⟨0,1,rfl,O_,O_⟩
      ·exact ⟨1,1,rfl,O_,O_⟩
      ·exact ⟨0,2,rfl,O_,O_⟩
     have bp:∀w',C_ 53 #[I_ k] w' (kV (.tuple #[I_ (fi:Int),I_ (co:Int)]) w'):=fun w'=>by
      have:=e0_ k w';rw [al] at this;exact this
     have cq:=H_ al;clear al;have g3:=b_ ae 3;simp only[zl] at g3;have dc:=t_ ae 3
     go_upto_region 14 with (go_at_call 53;refine (bp _).mono ?_;rintro e w9 ⟨rfl,rfl⟩)
     clear g3 dc bp;generalize hW9:W3.setCell _ _=W4;have af:=scs hW9 ae;have d1:=sI hW9 d0;have ch:=sI hW9 cg;have ca:=sI hW9 c9;have ap:=sI hW9 bv;have cw:=scl hW9 cv;clear hW9;have g6:=b_ af 6;simp only[zl] at g6;have de:=t_ af 6;obtain ⟨f0,f1,f2,f3,f4,f5,f6,f7,f8⟩:=iQ ap.out;have d8:x.pg.data.size<=16:=by have:=HU.ok.pg.len;omega
     have d9:16<=x.pg.data.size:=by have:=HU.ok.pg.len;omega
     have da:(fi:Int)*8<=((fi:Int)+(co:Int))*8:=O_
     have db:((fi:Int)+(co:Int))*8<=(x.pg.data.size:Int):=O_
     go_upto_region 15 with fail
     obtain ⟨ed,aj⟩:=bL (x.pg.data.extract (fi*8) ((fi+co)*8));rw [<-aj];have bu:=H_ (show jF x k=ed by unfold jF;rw [cq.out,aj];rfl);clear aj g6 de d8 d9 da db f0 f1 f2 f3 f4 f5 f6 f7 f8;generalize hW9:W4.setCell _ _=W5;have bw:=scs hW9 af;have d2:=sI hW9 d1;have ci:=sI hW9 ch;have cb:=sI hW9 ca;have ad:=sI hW9 ap;have cx:=scl hW9 cw;clear hW9;have dk:=t_ ad 8;obtain ⟨f0,f1,f2,f3,f4,f5,f6,f7,f8⟩:=iQ ad.out
     go_upto_region 16 with fail
     generalize hW9:W5.setCell _ _=W6;have aq:=scs hW9 ad;have d6:=sI hW9 d2;have cj:=sI hW9 ci;have cc:=sI hW9 cb;have bx:=sI hW9 bw;have cy:=scl hW9 cx;clear hW9;clear dk f0 f1 f2 f3 f4 f5 f6 f7 f8;obtain ⟨f0,f1,f2,f3,f4,f5,f6,f7,f8⟩:=iQ aq.out;have bk:=fun w'=>fM_ x.pg.data x.pg.valid x.pg.dirty k w' HU.ok.pg ⟨O_,dr⟩
     go_upto_region 17 with (first
      | (go_at_call 54;(with_reducible refine CM (bk _) ?_);rintro e w5 ⟨rfl,a0⟩;have ar:=fC aq a0;have d7:=fC d6 a0;have cm:=fC cj a0;have cd:=fC cc a0;have bz:=fC bx a0;have cz:=jC cy a0;clear a0;have bq:=iY ar)
      | (refine nK rfl 83 (.tmp 81) (.tmp 79) rfl (w1) 2 #[.string (cA x.pg k).data,I_ (cA x.pg k).valid,I_ (cA x.pg k).dirty] rfl rfl bq cK (eE) ?_)
      | fail)
     have au:=H_ (iS (u:= .string (cA x.pg k).data) (v:= I_ (cA x.pg k).valid) (z:= I_ (cA x.pg k).dirty) ar);generalize hW9:w5.setCells (w1) 2 _=W8 at au;have bc:=yL hW9 d7;have cn:=yL hW9 cm;have b2:=yL hW9 cd;have aw:=yL hW9 bz;have ag:=sml hW9 cz;clear hW9;clear bq bk f0 f1 f2 f3 f4 f5 f6 f7 f8;obtain ⟨f0,f1,f2,f3,f4,f5,f6,f7,f8⟩:=iQ au.out;obtain ⟨x0,x1,x2,x3,x4,x5,x6⟩:=T_ bc.out;obtain ⟨S3,a6⟩:=bL (fun z=>S1 z/\z≠w.heap.size+1+1);have s3:∀z,S3 z->S1 z/\z≠w.heap.size+1+1:=fun z t=>by rw [a6] at t;exact t
     have s4:∀z,w.heap.size+1+1<z->S3 z:=fun z t=>by rw [a6];exact ⟨s2 z O_,O_⟩
     have H3:=H_ (H.weak (S':=S3) (fun z t h=>by rw [a6];exact ⟨h,O_⟩));clear a6;have dw:w.heap.size+1+1<W8.heap.size:=n_ b2
     go_upto_region 18 with (go_at_call 55;(with_reducible refine CM (fE i j (⟨x.file,x.page,cA x.pg k,x.tenant,x.holds,x.reading,k⟩) y (H3.out.step ag.out) HL.out dl HU.out.fl HU.out.ix (fun z t=>s4 z (by omega))) ?_);rintro e w4 ⟨gf,nf,N,gr,nr,O,c',d',P,nl,cl,gk,nk,ck,g',rfl,eJ,J⟩;obtain ⟨L,n3,R,rfl⟩:=eJ.zones.cap;obtain ⟨M,Q,U,rfl⟩:=eJ.groups.cap;obtain ⟨P7,n7,r7,rfl⟩:=eJ.ptes.cap)
     obtain ⟨S5,a4⟩:=bL (fun z=>S3 z/\z≠w4.heap.size);have s5:∀z,S5 z->S3 z/\z≠w4.heap.size:=fun z t=>by rw [a4] at t;exact t
     have dv:w.heap.size+1+1<w4.heap.size/\w3.heap.size<w4.heap.size:=⟨by have:=J.size;omega,n_ (h_ aw.out J)⟩;have s6:∀z,w4.heap.size<z->S5 z:=fun z t=>by rw [a4];exact ⟨s4 z O_,O_⟩
     have ay:=H_ ((eJ.at_.weak (S':=S5) (fun z t h=>by rw [a4];exact ⟨h,O_⟩)).step (a_ (aP (w4) w4) (.cells ((oY gf nf N gr nr O (S_ L n3 R) (S_ M Q U) P nl cl gk nk ck (S_ P7 n7 r7))) 30)));have b0:=H_ ((H3.ptes.oldB (a_ (e_ ag.out J) (.cells ((oY gf nf N gr nr O (S_ L n3 R) (S_ M Q U) P nl cl gk nk ck (S_ P7 n7 r7))) 30))).weak (S':=S5) (fun z t h=>by rw [a4];exact ⟨h.1,O_⟩));have a5:=H_ (l_ w4 (.cells ((oY gf nf N gr nr O (S_ L n3 R) (S_ M Q U) P nl cl gk nk ck (S_ P7 n7 r7))) 30) (w4) rfl);have ah:=H_ (m_ (h_ bc J) (.cells ((oY gf nf N gr nr O (S_ L n3 R) (S_ M Q U) P nl cl gk nk ck (S_ P7 n7 r7))) 30));have b5:=H_ (m_ (h_ cn J) (.cells ((oY gf nf N gr nr O (S_ L n3 R) (S_ M Q U) P nl cl gk nk ck (S_ P7 n7 r7))) 30));have b3:=H_ (m_ (h_ b2 J) (.cells ((oY gf nf N gr nr O (S_ L n3 R) (S_ M Q U) P nl cl gk nk ck (S_ P7 n7 r7))) 30));have ax:=H_ (m_ (h_ aw J) (.cells ((oY gf nf N gr nr O (S_ L n3 R) (S_ M Q U) P nl cl gk nk ck (S_ P7 n7 r7))) 30));have b9:=H_ (a_ (e_ ag J) (.cells ((oY gf nf N gr nr O (S_ L n3 R) (S_ M Q U) P nl cl gk nk ck (S_ P7 n7 r7))) 30));clear eJ J a4 x0 x1 x2 x3 x4 x5 x6 f0 f1 f2 f3 f4 f5 f6 f7 f8;have bi:(w4.alloc (.cells ((oY gf nf N gr nr O (S_ L n3 R) (S_ M Q U) P nl cl gk nk ck (S_ P7 n7 r7))) 30)).heap.size=w4.heap.size+1:=A_
     generalize w4.alloc (.cells ((oY gf nf N gr nr O (S_ L n3 R) (S_ M Q U) P nl cl gk nk ck (S_ P7 n7 r7))) 30)=W9 at ay b0 a5 ah b5 b3 ax b9 bi;obtain ⟨x0,x1,x2,x3,x4,x5,x6⟩:=T_ ah.out;have dp:=cW_ ((i:Int)+1) b0.out c0.out (fun z t=>s6 z O_);have o6:=b_ a5 6;have ao:=t_ a5 6;clear o6 ao
     go_upto_region 19 with (go_at_call 56;(with_reducible refine CM dp ?_);rintro e w10 ⟨pv,rfl,ak,r⟩;obtain ⟨Z,n8,r8,rfl⟩:=ak.cap;have a3:=fC a5 r;have ds:=fC ah r;have b4:=fC b5 r;have b1:=fC b3 r;have av:=fC ax r;have b8:=jC b9 r;have F:=H_ (ay.step r);have az:=H_ ak;have o6:=b_ a3 6;have ao:=t_ a3 6;clear ak r)
     have a9:=H_ (show (w10.setCell ⟨w4,6,none⟩ (S_ Z n8 r8)).heap[w4.heap.size]?=some (.cells (D_ (o_ gf) nf N (o_ gr) nr O L n3 R M Q U (o_ P) nl cl (o_ gk) nk ck Z n8 r8) 30 (0,0)) from W_ a3 _);have ab:=H_ ((iH w10 ⟨w4,6,none⟩ (S_ Z n8 r8) (w+1) (by show w.heap.size+1≠w4.heap.size;omega)).trans b4.out);have aa:=H_ ((iH w10 ⟨w4,6,none⟩ (S_ Z n8 r8) (w+1+1) (by show w.heap.size+1+1≠w4.heap.size;omega)).trans b1.out);have a7:=H_ ((iH w10 ⟨w4,6,none⟩ (S_ Z n8 r8) (w3) (by show w3.heap.size≠w4.heap.size;omega)).trans av.out);have ac:=H_ (aT b8 ⟨w4,6,none⟩ (S_ Z n8 r8) (by show w.heap.size<=w4.heap.size;omega));have a8:=H_ ((show x_ w10 S5 _ _ _ _ _ _ (S_ Z n8 r8) {cP C i j y ⟨x.file,x.page,cA x.pg k,x.tenant,x.holds,x.reading,k⟩ with ptes:=C.ptes.map (eZ ((i:Int)+1))} from ⟨F.files,F.frames,F.zones,F.groups,F.lists,F.clocks,az⟩).kept (r_.of_setCell w10 ⟨w4,6,none⟩ (S_ Z n8 r8) (fun t=>(s5 _ t).2 rfl)))
     generalize w10.setCell ⟨w4,6,none⟩ (S_ Z n8 r8)=bd at a9 ab aa a7 ac a8;clear o6 ao x0 x1 x2 x3 x4 x5 x6
     go_cut [6] (fun s6 wx=>s6 = I_ 0/\r_ S5 bd wx/\s_ w wx/\bA wx (w+1) (D_ (o_ gf) nf N (o_ gr) nr O L n3 R M Q U (o_ P) nl cl (o_ gk) nk ck Z n8 r8) 30/\bA wx (w+1+1) (aO 0 x.tenant y.dev 2 ((s:Int)*18+2+(p:Int)*2+(bT k).1) ((bT k).2) ed false false 0) 37)
     case first=>
      refine mQ 93 3 (fun i=>decide (i<=2)) (CBb S5 bd (w) (w4) (w3) (D_ (o_ gf) nf N (o_ gr) nr O L n3 R M Q U (o_ P) nl cl (o_ gk) nk ck Z n8 r8) (aO 0 x.tenant y.dev 2 ((s:Int)*18+2+(p:Int)*2+(bT k).1) ((bT k).2) ed false false 0) w) (fun w1 w2=>bA w1 (w+1) (D_ (o_ gf) nf N (o_ gr) nr O L n3 R M Q U (o_ P) nl cl (o_ gk) nk ck Z n8 r8) 30->bA w2 (w+1) (D_ (o_ gf) nf N (o_ gr) nr O L n3 R M Q U (o_ P) nl cl (o_ gk) nk ck Z n8 r8) 30) (GBb (.agg (D_ (o_ gf) nf N (o_ gr) nr O L n3 R M Q U (o_ P) nl cl (o_ gk) nk ck Z n8 r8)) (.agg (aO 0 x.tenant y.dev 2 ((s:Int)*18+2+(p:Int)*2+(bT k).1) ((bT k).2) ed false false 0)) (fun wx=>bA wx (w+1) (D_ (o_ gf) nf N (o_ gr) nr O L n3 R M Q U (o_ P) nl cl (o_ gk) nk ck Z n8 r8) 30)) q_ q_ rfl ⟨r_.of_below (B_.drew),ac.drew,a9.out,a7.out,⟨_,ab.out,rfl⟩,⟨_,aa.out,rfl⟩,fun h=>by cases h⟩ ?_ ?_ ?_
      ·intro xa xb hr jj v hg
       match jj with
       | 0=>exact hg
       | 1=>exact hg
       | 2=>exact hr hg
       | 3=>trivial
       | 4=>exact hg
       | _+5=>trivial
      ·intro ii oo ho hd v xw hg
       match ii with
       | 0=>obtain rfl:=bH ho;cases hd
       | 1=>obtain rfl:=bH ho;cases hd
       | 2=>exact hg
       | 3=>trivial
       | 4=>obtain rfl:=bH ho;cases hd
       | _+5=>trivial
      refine c_ rfl rfl (fun xw hC hd K hK=>?_) (fun v0=>?_)
      ·obtain ⟨c1,c2,I,m,B,G,c7⟩:=hC;obtain ⟨x0,x1,x2,x3,x4,x5,x6⟩:=T_ I;go_simp;exact hK _ _ ⟨c1,c2,I,m,B,G,c7⟩ (fun h=>h) rfl
      simp only[ly];refine c_ rfl rfl (fun xw hC hd K hK=>?_) (fun v1=>?_)
      ·obtain ⟨c1,c2,I,m,B,G,c7⟩:=hC;have q0:=b_ m 0;have q1:=b_ m 1;have q2:=b_ m 2;have q3:=b_ m 3;have q4:=b_ m 4;have q5:=b_ m 5;have q6:=b_ m 6;have q7:=b_ m 7;have q8:=b_ m 8;have q9:=b_ m 9;simp only[zl] at q0 q1 q2 q3 q4 q5 q6 q7 q8 q9;go_simp;exact hK _ _ ⟨c1,c2,I,m,B,G,c7⟩ (fun h=>h) rfl
      simp only[ly];refine c_ rfl rfl (fun xw hC hd K hK=>?_) (fun v2=>?_)
      ·obtain rfl:v0=_:=hd 0 q_;obtain ⟨c1,c2,I,m,⟨cs,B,an⟩,⟨ct,G,am⟩,c7⟩:=hC;refine aE rfl 30 (.tmp 4) (.tmp 91) rfl rfl (D_ (o_ gf) nf N (o_ gr) nr O L n3 R M Q U (o_ P) nl cl (o_ gk) nk ck Z n8 r8) rfl rfl 30 cs B cD (by rw [an];rfl) (fQ) ?_;exact hK undef _ ⟨c1.trans (r_.of_setRow _ _ _ (fun t=>(s1 _ (s3 _ (s5 _ t).1).1).2.2 rfl)),d_ c2 O_ _,(setRow_other _ _ _ _ O_).trans I,(setRow_other _ _ _ _ O_).trans m,⟨_,setRow_heap _ _ _ _ _ _ B,rfl⟩,⟨ct,(setRow_other _ _ _ _ O_).trans G,am⟩,fun h=>by cases h⟩ (fun _=>setRow_heap _ _ _ _ _ _ B) (setRow_heap _ _ _ _ _ _ B)
      simp only[ly];refine z_ (fun xw hC hd K hK=>?_) (fun v3=>?_)
      ·obtain rfl:v1=_:=hd 1 q_;obtain ⟨c1,c2,I,m,⟨cs,B,an⟩,⟨ct,G,am⟩,c7⟩:=hC;refine aE rfl 37 (.tmp 5) (.tmp 92) rfl rfl (aO 0 x.tenant y.dev 2 ((s:Int)*18+2+(p:Int)*2+(bT k).1) ((bT k).2) ed false false 0) rfl rfl 37 ct G aW (by rw [am];rfl) (cN) ?_;exact hK undef _ ⟨c1.trans (r_.of_setRow _ _ _ (fun t=>(s3 _ (s5 _ t).1).2 rfl)),d_ c2 O_ _,(setRow_other _ _ _ _ O_).trans I,(setRow_other _ _ _ _ O_).trans m,⟨cs,(setRow_other _ _ _ _ O_).trans B,an⟩,⟨_,setRow_heap _ _ _ _ _ _ G,rfl⟩,fun _=>setRow_heap _ _ _ _ _ _ G⟩ (fun h=>(setRow_other _ _ _ _ O_).trans h) trivial
      simp only[ly];refine Z_ rfl (fun _ h=>h) (fun xw hd K hK=>?_) (fun v4=>?_)
      ·go_simp;exact hK _ rfl
      simp only[ly];refine G_ ?_;intro wz hD hG;have df:=hG 2 cE;have dg:=hG 4 cE;obtain rfl:v4=_:=dg;clear hG;go_wp2;go_meet
      case rel=>exact ⟨rfl,hD.1,hD.2.1,df,hD.2.2.2.2.2.2 rfl⟩
     case rest=>
      obtain ⟨rfl,dm,bh,bg,be⟩:=hcut;have HB:=H_ (show fM C i j x y {cP C i j y ⟨x.file,x.page,cA x.pg k,x.tenant,x.holds,x.reading,k⟩ with ptes:=C.ptes.map (eZ ((i:Int)+1))} (.agg (aO 0 x.tenant y.dev 2 ((s:Int)*18+2+(p:Int)*2+(bT k).1) ((bT k).2) ed false false 0)) 0 by
       have:=bs.out;rw [cp.out,bu.out] at this;unfold rqP at this;rw [b6.out,HP.out] at this;exact this)
      go_wp2
      show bodyPost prog f11 _ _ _ _
      refine bodyPost_ret (aH_ rfl rfl rfl rfl bg be) rfl ?_;exact ⟨_,_,_,_,_,_,_,_,_,_,HB.out,rfl,(a8.kept dm).weak (fun z _ t=>(s1 z (s3 z (s5 z t).1).1).1),bh⟩
 ·have d3:(x.writing != 0)=true:=bne_iff_ne.2 Y;have HB:=H_ (show fM C i j x y C yK 7 by unfold fM;rw [if_pos Y];exact ⟨rfl,rfl,rfl⟩);clear Y
  go_wp2_with (first | (refine Q_ rfl (.tmp 4) (.tmp 28) rfl rfl rfl rfl n.out rfl ?_) | (refine cZ rfl 37 (.tmp 5) (.tmp 29) rfl rfl (w+1+1) jJ rfl rfl 37 _ ((setRow_other _ (w+1) (w+1+1) _ O_).trans l.out) aW rfl (cN) ?_))
  show bodyPost prog f11 _ _ _ _
  refine bodyPost_ret (aH_ rfl rfl rfl rfl ((setRow_other _ (w+1+1) (w+1) _ O_).trans (setRow_heap _ _ _ _ _ _ n.out)) (setRow_heap _ _ _ _ _ _ ((setRow_other _ (w+1) (w+1+1) _ O_).trans l.out))) rfl ?_;have X:=d_ (d_ q.out (by omega:w.heap.size<=w.heap.size+1) (D_ (some ⟨bf,of,none⟩) C.files.length D (some ⟨bb,o,none⟩) C.frames.length E A3 m3 I A4 m4 m A5 m5 B A6 m6 G A7 m7 c7)) (by omega:w.heap.size<=w.heap.size+1+1) jJ;exact ⟨C,_,_,_,_,_,_,_,_,_,HB.out,rfl,(H.step X).weak (fun z _ t=>(s1 z t).1),X⟩
theorem fM.q {rq:Value} (hP:fM C i j x y C' rq err) (hu:fG C i x j y):fw_ C i j x y C':=by
 unfold fM at hP
 split at hP
 ·exact .inl hP.1
 split at hP
 ·exact .inl hP.1
 rename_i hd0
 have b:=hu.ok.pg.d;have a:1<=eQ x y/\eQ x y<=3:=by unfold eQ;split <;> omega
 exact .inr ⟨⟨x.file,x.page,cA x.pg (eQ x y),x.tenant,x.holds,x.reading,eQ x y⟩,⟨hu.ok.page,hu.ok.tenant,qS hu.ok.pg ⟨O_,a.2⟩,hu.ok.holds,hu.ok.reading,⟨by show 0<=eQ x y;omega,a.2⟩⟩,fun _=> .inl hd0,rfl,rfl,rfl,hP.1⟩
theorem fH_ (s:Nat) (h:x_ w S a b c d e f g C) (hl:kT C) (hu:fG C i x j y) (hs:y.slot=s) (hs7:s<7) (hpt:dZ C.ptes) (hS:∀z,w.heap.size<=z->S z) :
  C_ 11 #[bK a b c d e f g,I_ ((i:Int)+1)] w (im_ (fw_ C i j x y) S w):=by
 refine (fI_ s h hl hu hs hs7 hpt hS).mono ?_;rintro en w' ⟨C',err,a',b',c',d',e',f',g',rq,hP,h1,h2,h3⟩;exact ⟨C',err,a',b',c',d',e',f',g',rq,hP.q hu,h1,h2,h3⟩
end
end Go.Proofs.YtehfhnbpnaiogaaGreatDoor
