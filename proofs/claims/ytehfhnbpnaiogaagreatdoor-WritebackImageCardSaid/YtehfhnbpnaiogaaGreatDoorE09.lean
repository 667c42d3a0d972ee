/-
  Lemmas and contracts for the laws of this seat, part 9; several texts joined by a program.
-/
import Derived.Test.YtehfhnbpnaiogaaGreatDoorE08
import Derived.Test.YtehfhnbpnaiogaaGreatDoorE00
namespace Go.Proofs.YtehfhnbpnaiogaaGreatDoor
set_option linter.unusedVariables false
set_option linter.unusedSimpArgs false
set_option maxRecDepth 100000
set_option maxHeartbeats 16000000
open Go.RowKit Go.Proofs.Tryz IntKind
variable {C C':Ck} {L:List Gr} {S:Nat->Prop} {a b c d e f g:Value} {en p s v:Int} {gp:Gr} {i j k n off t:Nat} {l:Lr} {w:World} {x x':Fr} {y:Fl} {z:Zn} {α:Type}
section
theorem LlA.cells {A:Option Addr} {cap:Nat} {L:List Lr} (h:LA sJ w S (S_ A n cap) L) {i:Nat} {x:Lr} (hi:L[i]?=some x):∃b o A1 n1 c1 A2 n2 c2 A3 n3 c3,A=some ⟨b,o,none⟩/\n=L.length/\b<w.heap.size/\sI w S (S_ A1 n1 c1) (S_ A2 n2 c2) (S_ A3 n3 c3) x/\
  w.cell? ⟨b,o+i*3,none⟩=some (S_ A1 n1 c1)/\w.cell? ⟨b,o+i*3+1,none⟩=some (S_ A2 n2 c2)/\w.cell? ⟨b,o+i*3+2,none⟩=some (S_ A3 n3 c3):=by
 obtain ⟨b,o,cap',r,hv,c1,c2,g,k,j,hc⟩:=h.at_ hi;injection hv with e1 e2 _
 obtain ⟨v1,v2,v3,rfl,a⟩:=j;obtain ⟨A1,n1,c,rfl⟩:=a.1.cap;obtain ⟨A2,n2,d,rfl⟩:=a.2.1.cap;obtain ⟨A3,n3,f,rfl⟩:=a.2.2.cap;exact ⟨b,o,A1,n1,c,A2,n2,d,A3,n3,f,e1,e2,g,a,hc 0 _ rfl,hc 1 _ rfl,hc 2 _ rfl⟩
def eI:Fr:=⟨-1,0,⟨⟨#[]⟩,0,0⟩,0,0,0,0⟩
def SK.tr2 (T:Nat->Prop) (d:Cn) (err:Int) {S:Nat->Prop} (hT:∀z,T z->S z):SK S:=⟨fun v w=>∃(h:Nat) (A:Option Addr) (cap:Nat),v = .tuple #[oD h A (f_ h d).kids.length cap (f_ h d).val (f_ h d).marks,I_ err]/\X_ h d/\(f_ h d).kids.length<=cap/\NK w T A (f_ h d).kids,fun v w w' hb ⟨h,A,cap,h1,h2,h3,h4⟩=>⟨h,A,cap,h1,h2,h3,h4.kept hb.1 (fun z hz=>hb.2 z (hT z hz))⟩⟩
def SK.tr1 (T:Nat->Prop) (d:Cn) {S:Nat->Prop} (hT:∀z,T z->S z):SK S:=⟨fun v w=>∃(h:Nat) (A:Option Addr) (cap:Nat),v=oD h A (f_ h d).kids.length cap (f_ h d).val (f_ h d).marks/\X_ h d/\(f_ h d).kids.length<=cap/\NK w T A (f_ h d).kids,fun v w w' hb ⟨h,A,cap,h1,h2,h3,h4⟩=>⟨h,A,cap,h1,h2,h3,h4.kept hb.1 (fun z hz=>hb.2 z (hT z hz))⟩⟩
def mF (C:Ck) (i j t k:Nat) (x:Fr) (y:Fl) (l:Lr) (gr:Gr) (z:Zn) (v:Int):Ck:=
 {files:=C.files.set j {y with c:=(Z_ y.c x.page v).1},frames:=C.frames.set i eI,zones:=C.zones.set k {z with free:=dQ z.free ((i:Int)+1)},groups:=(bZ C.groups t gr 1).1,lists:=C.lists.set t (iY l ((i:Int)+1)),clocks:=C.clocks,ptes:=gB C.ptes ((i:Int)+1)}
structure zD (C:Ck) (i t k:Nat) (x:Fr) (l:Lr) (gr:Gr) (z:Zn):Prop where
 ten:x.tenant=t
 lst:C.lists[t]?=some l
 lok:eQ l
 grp:C.groups[t]?=some gr
 gok:fY C.groups
 zon:C.zones[k]?=some z
 zin:z.first<=(i:Int)+1/\(i:Int)+1<z.first+z.size
 zno:(i:Int)+1 ∉ z.free
 zok:cC C.zones
 pok:eD C.ptes
 i64:i<64
theorem ip_ {zn:Zn} (v:Int) (h:x_ w S a b c d e f g C) (hl:qK C) (hu:dE C i x j y) (hg:zD C i t k x l gp zn) (hS:∀z,w.heap.size<=z->S z) :
  C_ 156 #[cI a b c d e f g,I_ ((i:Int)+1),I_ v] w (xL (mF C i j t k x y l gp zn v) S w):=by
 obtain ⟨S1,s1,s2,s3⟩:=oB hS;replace h:=h.weak s3;clear s3;have db:=fun w' (hb:q_ w w')=>yR i x (h.step hb) hu.fr hl.frames.2;rw [hu.used] at db;obtain ⟨A1,af,rfl,q1,q2⟩:=h.files.form;obtain ⟨A2,aw,rfl,q3,q4⟩:=h.frames.form;obtain ⟨A3,m3,c3,A4,m4,c4,A5,m5,c5,A6,m6,c6,A7,m7,c7,rfl,rfl,rfl,rfl,rfl⟩:=x_.caps5 h;obtain ⟨bb,o,rfl,dm,y0,y1,y2,y3,y4,y5,y6,y7,y8⟩:=FrA.cells h.frames hu.fr;obtain ⟨bf,of,kt,KB,kc,rfl,d4,k1,k2,k3,k4,e4⟩:=FlA.cells h.files hu.fl;have br:=bK hu.fr;have d7:=bK hu.fl;have i2:(i:Int)<(C.frames.length:Int):=O_
 have e6:C.frames.length<=100:=hl.frames.2;have e5:C.files.length<=100:=hl.files.2;have j2:(j:Int)<(C.files.length:Int):=O_
 obtain ⟨H,HL,HU⟩:=eT h hl hu;clear h hl hu k1 k2 k3 k4;have GH:=H_ hg;clear hg db;go_enter func156,ntmps156
 go_upto_region 1 with fail
 generalize hW9:(w.alloc _).alloc _=W0;obtain ⟨HX,HR,HW,HZ⟩:=fV hW9;clear hW9;obtain ⟨x0,x1,x2,x3,x4,x5,x6⟩:=aF HX.out;have dw:=kt9 (HW.block _ dm) y0 y1 y2 y3 y4 y5 y6 y7 y8;clear y0 y1 y2 y3 y4 y5 y6 y7 y8;obtain ⟨y0,y1,y2,y3,y4,y5,y6,y7,y8⟩:=dw
 go_upto_region 2 with fail
 have bc:=H_ (l_ W0 (oF x) (w+1+1) HZ);have au:=H_ (m_ HX (oF x));have bh:=H_ (m_ HR (oF x));have aq:=H_ (b_ HW (oF x));have dg:(W0.alloc (oF x)).heap.size=w.heap.size+1+1+1:=by simp [HZ]
 generalize W0.alloc (oF x)=W at bc au bh aq dg;clear x0 x1 x2 x3 x4 x5 x6 y0 y1 y2 y3 y4 y5 y6 y7 y8;obtain ⟨x0,x1,x2,x3,x4,x5,x6⟩:=aF au.out
 go_upto_region 3 with (go_at_call 21;(with_reducible refine CM (kX C _ _ _ _ _ _ _ S1 _ (H.out.step aq.out) HL.out (fun z hz=>s2 z (by omega))) ?_);rintro e w1 ⟨gf,nf,G,q,nr,J,c',d',s,nl,cl,gk,nk,ck,g',rfl,L,a5⟩;obtain ⟨P3,n3,r3,rfl⟩:=L.zones.cap;obtain ⟨P4,n4,r4,rfl⟩:=L.groups.cap;obtain ⟨P7,n7,r7,rfl⟩:=L.ptes.cap)
 obtain ⟨X,hX⟩:=aZ w1.heap.size;obtain ⟨Sx,ag⟩:=aZ (fun z=>S1 z/\z≠X);have bw:∀z,Sx z->S1 z/\z≠X:=fun z hz=>by rw [ag] at hz;exact hz
 have bp:w.heap.size+1+1<X/\W.heap.size<=X/\gk<X:=⟨by have:=a5.size;omega,by have:=a5.size;omega,by rw [hX];exact L.lt⟩;have dx:∀z,X<z->Sx z:=fun z hz=>by rw [ag];exact ⟨s2 z O_,O_⟩
 have e0:w.heap.size+1+1<gf/\gf<q/\q<s/\s<gk:=⟨by have:=L.o1;omega,L.o2,L.o3,L.o4⟩;have HT:=H_ (H.weak (S':=TS Sx gf q s gk) (fun z hz h=>⟨by rw [ag];exact ⟨h,O_⟩,O_,O_,O_,O_⟩));have V:=H_ (show eP (w1.alloc (.cells (E_ (o_ gf) nf G (o_ q) nr J P3 n3 r3 P4 n4 r4 (o_ s) nl cl (o_ gk) nk ck P7 n7 r7) 30)) Sx (W) gf nf G q nr J (S_ P3 n3 r3) (S_ P4 n4 r4) s nl cl gk nk ck (S_ P7 n7 r7) C by rw [ag];exact (L.but X O_).step (b_ B_ _));have cb:=H_ (l_ w1 (.cells (E_ (o_ gf) nf G (o_ q) nr J P3 n3 r3 P4 n4 r4 (o_ s) nl cl (o_ gk) nk ck P7 n7 r7) 30) X hX.symm);have bn:=H_ (m_ (i_ au a5) (.cells (E_ (o_ gf) nf G (o_ q) nr J P3 n3 r3 P4 n4 r4 (o_ s) nl cl (o_ gk) nk ck P7 n7 r7) 30));have cd:=H_ (m_ (i_ bh a5) (.cells (E_ (o_ gf) nf G (o_ q) nr J P3 n3 r3 P4 n4 r4 (o_ s) nl cl (o_ gk) nk ck P7 n7 r7) 30));have bx:=H_ (m_ (i_ bc a5) (.cells (E_ (o_ gf) nf G (o_ q) nr J P3 n3 r3 P4 n4 r4 (o_ s) nl cl (o_ gk) nk ck P7 n7 r7) 30));have bm:=H_ (b_ (d_ aq a5) (.cells (E_ (o_ gf) nf G (o_ q) nr J P3 n3 r3 P4 n4 r4 (o_ s) nl cl (o_ gk) nk ck P7 n7 r7) 30));have dq:(w1.alloc (.cells (E_ (o_ gf) nf G (o_ q) nr J P3 n3 r3 P4 n4 r4 (o_ s) nl cl (o_ gk) nk ck P7 n7 r7) 30)).heap.size=X+1:=by simp [hX]
 rw [<-hX];generalize w1.alloc (.cells (E_ (o_ gf) nf G (o_ q) nr J P3 n3 r3 P4 n4 r4 (o_ s) nl cl (o_ gk) nk ck P7 n7 r7) 30)=W3 at V cb bn cd bx bm dq;have ah:∀w':World,X+1<=w'.heap.size->∀z,w'.heap.size<=z->TS Sx gf q s gk z:=fun w' ee z hz=>⟨dx z O_,O_,O_,O_,O_⟩;have e8:j<nf/\nf<=1000:=⟨by rw [<-V.ef];exact d7,by rw [<-V.ef];omega⟩;have ea:i<nr/\nr<=1000:=⟨by rw [<-V.er];exact br,by rw [<-V.er];omega⟩;have bu:=bK GH.lst;have e9:t<nl/\nl<=1000:=⟨by rw [<-V.el];exact bu,by rw [<-V.el];have:=HL.lists.2;omega⟩;have nX:¬Sx X:=fun hz=>(bw _ hz).2 rfl;clear hX ag L a5 au bh bc aq x0 x1 x2 x3 x4 x5 x6;obtain ⟨x0,x1,x2,x3,x4,x5,x6⟩:=aF bn.out;have dp:=ij_ ((i:Int)+1) (HT.ptes.step bm.out) GH.pok (ah W3 O_)
 go_upto_region 4 with (go_at_call 198;(with_reducible refine CM dp ?_);rintro e w4 ⟨pv,rfl,bs,a1⟩;obtain ⟨Q,R,U,rfl⟩:=bs.cap;have ak:=H_ (V.step (a1));have an:=H_ (i_ cb (a1));have ce:=H_ (i_ cd (a1));have bz:=H_ (i_ bx (a1));have cq:=H_ (i_ bn (a1));have cm:=H_ (d_ bm (a1));have de:=H_ bs;have eb:=a1.size;have o6:=a_ an 6;have du:=t_ an 6;clear bs a1)
 have a4:=H_ (show (w4.setCell ⟨X,6,none⟩ (S_ Q R U)).heap[X]?=some (.cells (E_ (o_ gf) nf G (o_ q) nr J P3 n3 r3 P4 n4 r4 (o_ s) nl cl (o_ gk) nk ck Q R U) 30 (0,0)) from R_ an _);have bi:=H_ ((jO w4 ⟨X,6,none⟩ (S_ Q R U) (w+1) (by show w.heap.size+1≠X;omega)).trans ce.out);have ab:=H_ ((jO w4 ⟨X,6,none⟩ (S_ Q R U) (w+1+1) (by show w.heap.size+1+1≠X;omega)).trans bz.out);have ae:=H_ ((jO w4 ⟨X,6,none⟩ (S_ Q R U) (w) (by show w.heap.size≠X;omega)).trans cq.out);have Z:=H_ (bA cm ⟨X,6,none⟩ (S_ Q R U) (by show w.heap.size<=X;omega));have b9:=H_ ((ak.with_ ak.zones ak.groups de).setCellX X 6 (S_ Q R U) nX bp.2.2);have d8:X+1<=(w4.setCell ⟨X,6,none⟩ (S_ Q R U)).heap.size:=by simp [World.setCell];omega
 generalize w4.setCell ⟨X,6,none⟩ (S_ Q R U)=W5 at b9 a4 ae bi ab Z d8;clear x0 x1 x2 x3 x4 x5 x6 o6 du;obtain ⟨x0,x1,x2,x3,x4,x5,x6⟩:=aF ae.out;obtain ⟨f0,f1,f2,f3,f4,f5,f6,f7,f8⟩:=sE ab.out;have o0:=a_ a4 0;have o1:=a_ a4 1;have o4:=a_ a4 4;simp only[zl] at o0 o1 o4;rw [HU.ix] at f0;rw [GH.ten] at f5;have a7:=p_ ae;have N:=p_ ab;have a6:=p_ a4;obtain ⟨bl,ol,E1,u1,v1,E2,u2,v2,E3,u3,v3,cv,cx,a8,hA,l0,l1,l2⟩:=LlA.cells HT.lists GH.lst;rw [cv,cx] at x4;have HA:=H_ hA;clear hA cv cx;have M:bl<W5:=iS a8 Z.size;replace l0:=(c_ (Z.block _ a8)).trans l0;replace l1:=(c_ (Z.block _ a8)).trans l1;replace l2:=(c_ (Z.block _ a8)).trans l2;have e7:C.lists.length<=100:=HL.lists.2
 go_cut [] (fun wx=>eP wx Sx (W) gf nf G q nr J (S_ P3 n3 r3) (S_ P4 n4 r4) s nl cl gk nk ck (S_ Q R U) (⟨C.files,C.frames,C.zones,C.groups,C.lists.set t (iY l ((i:Int)+1)),C.clocks,gB C.ptes ((i:Int)+1)⟩:Ck)/\aW wx X (E_ (o_ gf) nf G (o_ q) nr J P3 n3 r3 P4 n4 r4 (o_ s) nl cl (o_ gk) nk ck Q R U) 30/\wx.heap[w.heap.size+1]?=some (cG)/\wx.heap[w.heap.size+1+1]?=some (oF x)/\aW wx (w) (E_ (some ⟨bf,of,none⟩) C.files.length af (some ⟨bb,o,none⟩) C.frames.length aw A3 m3 c3 A4 m4 c4 A5 m5 c5 A6 m6 c6 A7 m7 c7) 30/\q_ w wx)
 case first=>
  refine bG (S:=TS Sx gf q s gk) 82 16 (inL [0,1,2,3,4,5,6,7,8,9,10,11,12,13,15]) (fun wx=>eP wx Sx (W) gf nf G q nr J (S_ P3 n3 r3) (S_ P4 n4 r4) s nl cl gk nk ck (S_ Q R U) (⟨C.files,C.frames,C.zones,C.groups,C.lists.set t (iY l ((i:Int)+1)),C.clocks,gB C.ptes ((i:Int)+1)⟩:Ck)/\aW wx X (E_ (o_ gf) nf G (o_ q) nr J P3 n3 r3 P4 n4 r4 (o_ s) nl cl (o_ gk) nk ck Q R U) 30/\wx.heap[w.heap.size+1]?=some (cG)/\wx.heap[w.heap.size+1+1]?=some (oF x)/\aW wx (w) (E_ (some ⟨bf,of,none⟩) C.files.length af (some ⟨bb,o,none⟩) C.frames.length aw A3 m3 c3 A4 m4 c4 A5 m5 c5 A6 m6 c6 A7 m7 c7) 30/\q_ w wx) [SK.eq (.pointer (some ⟨X,4,none⟩)),SK.eq (S_ (some ⟨s,0,none⟩) nl cl),SK.eq (.pointer (some ⟨w+1+1,5,none⟩)),SK.eq (I_ (t:Int)),SK.eq (.pointer (some ⟨w,4,none⟩)),SK.eq (S_ (some ⟨bl,ol,none⟩) C.lists.length c5),SK.eq (.pointer (some ⟨w+1+1,5,none⟩)),SK.eq (I_ (t:Int)),SK.eq (.pointer (some ⟨bl,ol+t*3,none⟩)),SK.eq (.agg #[S_ E1 u1 v1,S_ E2 u2 v2,S_ E3 u3 v3]),SK.eq (I_ ((i:Int)+1)),SK.lr2 (TS Sx gf q s gk) (iY l ((i:Int)+1)) (if eU l ((i:Int)+1)=true then 0 else 4) (fun _ h=>h),SK.lr2 (TS Sx gf q s gk) (iY l ((i:Int)+1)) (if eU l ((i:Int)+1)=true then 0 else 4) (fun _ h=>h),SK.lr (TS Sx gf q s gk) (iY l ((i:Int)+1)) (fun _ h=>h),SK.eq (I_ (if eU l ((i:Int)+1)=true then 0 else 4)),SK.eq (.pointer (some ⟨s,t*3,none⟩)),SK.any] s_ s_ rfl (fun _=>trivial) ?_;refine qP fun v0=>?_;simp only[ly];refine k_ rfl rfl (fun xw r u K A=>?_) (fun v1=>?_)
  ·obtain rfl:v0=_:=u 0 s_;have m:q_ W5 xw:=r;have u0:=(m.cell (p:=⟨X,_,none⟩) a6).trans o4;go_simp;exact A _ _ r K_ rfl
  simp only[ly];refine qP fun v2=>?_;simp only[ly];refine k_ rfl rfl (fun xw r u K A=>?_) (fun v3=>?_)
  ·obtain rfl:v2=_:=u 2 s_;have m:q_ W5 xw:=r;have u0:=(m.cell (p:=⟨w+1+1,_,none⟩) N).trans f5;go_simp;exact A _ _ r K_ rfl
  simp only[ly];refine qP fun v4=>?_;simp only[ly];refine k_ rfl rfl (fun xw r u K A=>?_) (fun v5=>?_)
  ·obtain rfl:v4=_:=u 4 s_;have m:q_ W5 xw:=r;have u0:=(m.cell (p:=⟨w,_,none⟩) a7).trans x4;go_simp;exact A _ _ r K_ rfl
  simp only[ly];refine qP fun v6=>?_;simp only[ly];refine k_ rfl rfl (fun xw r u K A=>?_) (fun v7=>?_)
  ·obtain rfl:v6=_:=u 6 s_;have m:q_ W5 xw:=r;have u0:=(m.cell (p:=⟨w+1+1,_,none⟩) N).trans f5;go_simp;exact A _ _ r K_ rfl
  simp only[ly];refine qP fun v8=>?_;simp only[ly];refine k_ rfl rfl (fun xw r u K A=>?_) (fun v9=>?_)
  ·obtain rfl:v8=_:=u 8 s_;have m:q_ W5 xw:=r;have u0:=(m.cell (p:=⟨bl,_,none⟩) M).trans l0;have u1:=(m.cell (p:=⟨bl,_,none⟩) M).trans l1;have u2:=(m.cell (p:=⟨bl,_,none⟩) M).trans l2;go_simp;exact A _ _ r K_ rfl
  simp only[ly];refine qP fun v10=>?_;simp only[ly];refine k_ rfl rfl (fun xw r u K A=>?_) (fun v11=>?_)
  ·obtain rfl:v9=_:=u 9 s_;obtain rfl:v10=_:=u 10 s_;have m:q_ W5 xw:=r;go_simp
   go_at_call 199
   refine (fi_ ((i:Int)+1) (HA.step (d_ Z.out m)) GH.lok ⟨O_,by have:=GH.i64;omega⟩ (ah _ (dO d8 m.size))).mono ?_;rintro e w1 ⟨q1,q2,q3,rfl,hA,hb⟩;exact A _ _ (d_ m hb) (r_.of_below hb) ⟨q1,q2,q3,rfl,hA⟩
  simp only[ly];refine k_ rfl rfl (fun xw r u K A=>?_) (fun v12=>?_)
  ·obtain ⟨q1,q2,q3,e,hA⟩:=u 11 s_;obtain rfl:v11=_:=e;go_simp;exact A _ _ r K_ ⟨q1,q2,q3,rfl,hA⟩
  simp only[ly];refine k_ rfl rfl (fun xw r u K A=>?_) (fun v13=>?_)
  ·obtain ⟨q1,q2,q3,e,hA⟩:=u 12 s_;obtain rfl:v12=_:=e;go_simp;exact A _ _ r K_ ⟨q1,q2,q3,rfl,hA⟩
  simp only[ly];refine cD rfl (fun w=>r_.refl w) (fun xw u K A=>?_) (fun v14=>?_)
  ·obtain ⟨q1,q2,q3,e,hA⟩:=u 12 s_;obtain rfl:v12=_:=e;go_simp;exact A _ rfl
  simp only[ly];refine qP fun v15=>?_;simp only[ly];refine aL (fun xw r u K A=>?_) (fun v16=>?_)
  ·obtain rfl:v15=_:=u 15 s_;obtain ⟨q1,q2,q3,e,hA⟩:=u 13 s_;obtain rfl:v13=_:=e;have m:q_ W5 xw:=r;obtain ⟨B1,j1,di,rfl⟩:=hA.1.cap;obtain ⟨B2,dr,dj,rfl⟩:=hA.2.1.cap;obtain ⟨B3,j3,dl,rfl⟩:=hA.2.2.cap;have P:=b9.step m;have ax:=LW.there P.lists (i:=t) bu (p:=0) (n:=3) O_;rw [Nat.add_zero] at ax;refine aO (ops:=#[]) rfl (pF rfl 119 (.tmp 37) (.tmp 35) rfl s (t*3) #[S_ B1 j1 di,S_ B2 dr dj,S_ B3 j3 dl] rfl rfl ax cY (rF) ?_);refine A undef _ ⟨P.putLists (J_ xw s (t*3) _) (P.lists.set bu ⟨_,_,_,rfl,hA⟩) z_,?_,?_,?_,?_,?_⟩ (r_.of_setCells _ _ _ _ (fun h=>h.2.2.2.1 rfl)) trivial
   ·exact (u_ s _ (t*3) xw X O_).trans (i_ a4.out m)
   ·exact (u_ s _ (t*3) xw (w+1) O_).trans (i_ bi.out m)
   ·exact (u_ s _ (t*3) xw (w+1+1) O_).trans (i_ ab.out m)
   ·exact (u_ s _ (t*3) xw (w) O_).trans (i_ ae.out m)
   ·exact aS (d_ Z.out m) O_ _ _
  simp only[ly];refine aY ?_;intro wz hD hG;clear hG;go_wp2;go_meet
  case rel=>exact hD
 case rest=>
  clear M l0 l1 l2 b9 a4 ae bi ab Z ak an cq ce bz cm;clear x0 x1 x2 x3 x4 x5 x6 f0 f1 f2 f3 f4 f5 f6 f7 f8 o0 o1 o4 a7 N a6;obtain ⟨cy,d0,d1,cz,d3,d2⟩:=hcut;obtain ⟨P,ac,df,bd,bo,cn⟩:=h6_ cy d0 d1 cz d3 d2;clear cy d0 d1 cz d3 d2;obtain ⟨x0,x1,x2,x3,x4,x5,x6⟩:=aF bo.out;obtain ⟨f0,f1,f2,f3,f4,f5,f6,f7,f8⟩:=sE bd.out;have o0:=a_ ac 0;have o1:=a_ ac 1;have o4:=a_ ac 4;simp only[zl] at o0 o1 o4;rw [HU.ix] at f0;rw [GH.ten] at f5;have a7:=p_ bo;have N:=p_ bd;have a6:=p_ ac;have da:=bL_ t gp 1 (HT.groups.step cn.out) GH.grp GH.gok ⟨O_,O_⟩ (ah wc O_)
  go_upto_region 6 with (go_at_call 200;(with_reducible refine CM da ?_);rintro e w7 ⟨gv,rfl,bq,a2⟩;obtain ⟨P9,n9,r9,rfl⟩:=bq.cap;have al:=H_ (P.step (a2));have ao:=H_ (i_ ac (a2));have cg:=H_ (i_ df (a2));have c0:=H_ (i_ bd (a2));have cs:=H_ (i_ bo (a2));have co:=H_ (d_ cn (a2));have c8:=H_ bq;have ec:=a2.size;have o3:=a_ ao 3;have dt:=t_ ao 3;clear bq a2)
  have bg:=H_ (show (w7.setCell ⟨X,3,none⟩ (S_ P9 n9 r9)).heap[X]?=some (.cells (E_ (o_ gf) nf G (o_ q) nr J P3 n3 r3 P9 n9 r9 (o_ s) nl cl (o_ gk) nk ck Q R U) 30 (0,0)) from R_ ao _);have bj:=H_ ((jO w7 ⟨X,3,none⟩ (S_ P9 n9 r9) (w+1) (by show w.heap.size+1≠X;omega)).trans cg.out);have be:=H_ ((jO w7 ⟨X,3,none⟩ (S_ P9 n9 r9) (w+1+1) (by show w.heap.size+1+1≠X;omega)).trans c0.out);have av:=H_ ((jO w7 ⟨X,3,none⟩ (S_ P9 n9 r9) (w) (by show w.heap.size≠X;omega)).trans cs.out);have ar:=H_ (bA co ⟨X,3,none⟩ (S_ P9 n9 r9) (by show w.heap.size<=X;omega));have ba:=H_ ((al.with_ al.zones c8 al.ptes).setCellX X 3 (S_ P9 n9 r9) nX bp.2.2);have d9:X+1<=(w7.setCell ⟨X,3,none⟩ (S_ P9 n9 r9)).heap.size:=by simp [World.setCell];omega
  generalize w7.setCell ⟨X,3,none⟩ (S_ P9 n9 r9)=W8 at ba bg av bj be ar d9;clear x0 x1 x2 x3 x4 x5 x6 f0 f1 f2 f3 f4 f5 f6 f7 f8 o0 o1 o4 o3 dt a7 N a6 da al ao cs cg c0 co c8;obtain ⟨x0,x1,x2,x3,x4,x5,x6⟩:=aF av.out;have d6:=io_ k zn ((i:Int)+1) (HT.zones.step ar.out) GH.zon GH.zin GH.zno GH.zok (ah W8 O_)
  go_upto_region 7 with (go_at_call 201;(with_reducible refine CM d6 ?_);rintro e w9 ⟨zv,rfl,bv,a3⟩;obtain ⟨B,D,E,rfl⟩:=bv.cap;have am:=H_ (ba.step (a3));have ap:=H_ (i_ bg (a3));have ch:=H_ (i_ bj (a3));have c2:=H_ (i_ be (a3));have ct:=H_ (i_ av (a3));have cp:=H_ (d_ ar (a3));have c9:=H_ bv;have ed:=a3.size;have o2:=a_ ap 2;have ds:=t_ ap 2;clear bv a3)
  have F:=H_ (show (w9.setCell ⟨X,2,none⟩ (S_ B D E)).heap[X]?=some (.cells (E_ (o_ gf) nf G (o_ q) nr J B D E P9 n9 r9 (o_ s) nl cl (o_ gk) nk ck Q R U) 30 (0,0)) from R_ ap _);have ad:=H_ ((jO w9 ⟨X,2,none⟩ (S_ B D E) (w+1) (by show w.heap.size+1≠X;omega)).trans ch.out);have Y:=H_ ((jO w9 ⟨X,2,none⟩ (S_ B D E) (w+1+1) (by show w.heap.size+1+1≠X;omega)).trans c2.out);have a0:=H_ ((jO w9 ⟨X,2,none⟩ (S_ B D E) (w) (by show w.heap.size≠X;omega)).trans ct.out);have O:=H_ (bA cp ⟨X,2,none⟩ (S_ B D E) (by show w.heap.size<=X;omega));have a9:=H_ ((am.with_ c9 am.groups am.ptes).setCellX X 2 (S_ B D E) nX bp.2.2);have ai:X+1<=(w9.setCell ⟨X,2,none⟩ (S_ B D E)).heap.size:=by simp [World.setCell];omega
  generalize w9.setCell ⟨X,2,none⟩ (S_ B D E)=I at a9 F a0 ad Y O ai;clear x0 x1 x2 x3 x4 x5 x6 o2 ds d6 am ap ct ch c2 cp c9;obtain ⟨x0,x1,x2,x3,x4,x5,x6⟩:=aF a0.out;obtain ⟨f0,f1,f2,f3,f4,f5,f6,f7,f8⟩:=sE Y.out;have o0:=a_ F 0;have o1:=a_ F 1;have o4:=a_ F 4;simp only[zl] at o0 o1 o4;rw [HU.ix] at f0;rw [GH.ten] at f5;have a7:=p_ a0;have N:=p_ Y;have a6:=p_ F;obtain ⟨dh,dv,aj,cu,dc,cw,d5,k1,k2,k3,k4,b7⟩:=FlA.cells HT.files HU.fl;obtain ⟨rfl,rfl⟩:bf=dh/\of=dv:=by injection cw with e;injection e with e1 e2;exact ⟨e1,e2⟩
  obtain ⟨-,-,z2,z3,z4,z5,-⟩:=zc (O.block _ d4) b7;have M:bf<I:=iS d4 O.size;have dd:=H_ k1;have b8:=fun w' (hb:q_ I w')=>bD_ dc x.page v k1 k2 k3 (k4.step (d_ O hb)) (ah w' (dO ai hb.size));clear b7 cw d5 k1 k2 k3 k4
  go_cut [] (fun wx=>eP wx Sx (W) gf nf G q nr J (S_ B D E) (S_ P9 n9 r9) s nl cl gk nk ck (S_ Q R U) (⟨C.files.set j ⟨y.dev,y.slot,(Z_ y.c x.page v).1,y.size,y.blocks,y.ecnt,y.eerr,y.sseq,y.ssize,y.sblocks,y.which,y.seq⟩,C.frames,C.zones.set k ⟨zn.first,zn.size,zn.mn,zn.low,zn.high,dQ zn.free ((i:Int)+1)⟩,(bZ C.groups t gp 1).1,C.lists.set t (iY l ((i:Int)+1)),C.clocks,gB C.ptes ((i:Int)+1)⟩:Ck)/\aW wx X (E_ (o_ gf) nf G (o_ q) nr J B D E P9 n9 r9 (o_ s) nl cl (o_ gk) nk ck Q R U) 30/\wx.heap[w.heap.size+1]?=some (cG)/\wx.heap[w.heap.size+1+1]?=some (oF x)/\aW wx (w) (E_ (some ⟨bf,of,none⟩) C.files.length af (some ⟨bb,o,none⟩) C.frames.length aw A3 m3 c3 A4 m4 c4 A5 m5 c5 A6 m6 c6 A7 m7 c7) 30/\q_ w wx)
  case first=>
   refine bG (S:=TS Sx gf q s gk) 82 20 (inL [0,1,2,3,4,5,6,7,8,9,10,11,12,13,14,15,16,18,19]) (fun wx=>eP wx Sx (W) gf nf G q nr J (S_ B D E) (S_ P9 n9 r9) s nl cl gk nk ck (S_ Q R U) (⟨C.files.set j ⟨y.dev,y.slot,(Z_ y.c x.page v).1,y.size,y.blocks,y.ecnt,y.eerr,y.sseq,y.ssize,y.sblocks,y.which,y.seq⟩,C.frames,C.zones.set k ⟨zn.first,zn.size,zn.mn,zn.low,zn.high,dQ zn.free ((i:Int)+1)⟩,(bZ C.groups t gp 1).1,C.lists.set t (iY l ((i:Int)+1)),C.clocks,gB C.ptes ((i:Int)+1)⟩:Ck)/\aW wx X (E_ (o_ gf) nf G (o_ q) nr J B D E P9 n9 r9 (o_ s) nl cl (o_ gk) nk ck Q R U) 30/\wx.heap[w.heap.size+1]?=some (cG)/\wx.heap[w.heap.size+1+1]?=some (oF x)/\aW wx (w) (E_ (some ⟨bf,of,none⟩) C.files.length af (some ⟨bb,o,none⟩) C.frames.length aw A3 m3 c3 A4 m4 c4 A5 m5 c5 A6 m6 c6 A7 m7 c7) 30/\q_ w wx) [SK.eq (P_ X),SK.eq (S_ (some ⟨gf,0,none⟩) nf G),SK.eq (P_ (w+1+1)),SK.eq (I_ (j:Int)),SK.eq (P_ (w)),SK.eq (S_ (some ⟨bf,of,none⟩) C.files.length af),SK.eq (P_ (w+1+1)),SK.eq (I_ (j:Int)),SK.eq (.pointer (some ⟨bf,of+j*15,none⟩)),SK.eq (.pointer (some ⟨bf,of+j*15+2,none⟩)),SK.eq (.agg #[I_ aj,S_ cu (f_ aj y.c).kids.length dc,I_ (f_ aj y.c).val,I_ (f_ aj y.c).marks]),SK.eq (.pointer (some ⟨w+1+1,1,none⟩)),SK.eq (I_ x.page),SK.eq (I_ v),SK.tr2 (TS Sx gf q s gk) (Z_ y.c x.page v).1 (Z_ y.c x.page v).2 (fun _ h=>h),SK.tr2 (TS Sx gf q s gk) (Z_ y.c x.page v).1 (Z_ y.c x.page v).2 (fun _ h=>h),SK.tr1 (TS Sx gf q s gk) (Z_ y.c x.page v).1 (fun _ h=>h),SK.eq (I_ (Z_ y.c x.page v).2),SK.eq (.pointer (some ⟨gf,j*15,none⟩)),SK.eq (.pointer (some ⟨gf,j*15+2,none⟩)),SK.any] s_ s_ rfl (fun _=>trivial) ?_
   refine qP fun v0=>?_;simp only[ly];refine k_ rfl rfl (fun xw r u K A=>?_) (fun v1=>?_)
   ·obtain rfl:v0=_:=u 0 s_;have m:q_ I xw:=r;have u0:=(m.cell (p:=⟨X,_,none⟩) a6).trans o0;go_simp;exact A _ _ r K_ rfl
   simp only[ly];refine qP fun v2=>?_;simp only[ly];refine k_ rfl rfl (fun xw r u K A=>?_) (fun v3=>?_)
   ·obtain rfl:v2=_:=u 2 s_;have m:q_ I xw:=r;have u0:=(m.cell (p:=⟨w+1+1,_,none⟩) N).trans f0;go_simp;exact A _ _ r K_ rfl
   simp only[ly];refine qP fun v4=>?_;simp only[ly];refine k_ rfl rfl (fun xw r u K A=>?_) (fun v5=>?_)
   ·obtain rfl:v4=_:=u 4 s_;have m:q_ I xw:=r;have u0:=(m.cell (p:=⟨w,_,none⟩) a7).trans x0;go_simp;exact A _ _ r K_ rfl
   simp only[ly];refine qP fun v6=>?_;simp only[ly];refine k_ rfl rfl (fun xw r u K A=>?_) (fun v7=>?_)
   ·obtain rfl:v6=_:=u 6 s_;have m:q_ I xw:=r;have u0:=(m.cell (p:=⟨w+1+1,_,none⟩) N).trans f0;go_simp;exact A _ _ r K_ rfl
   simp only[ly];refine qP fun v8=>qP fun v9=>?_;simp only[ly];refine k_ rfl rfl (fun xw r u K A=>?_) (fun v10=>?_)
   ·obtain rfl:v9=_:=u 9 s_;have m:q_ I xw:=r;have u0:=(m.cell (p:=⟨bf,_,none⟩) M).trans z2;have u1:=(m.cell (p:=⟨bf,_,none⟩) M).trans z3;have u2:=(m.cell (p:=⟨bf,_,none⟩) M).trans z4;have u3:=(m.cell (p:=⟨bf,_,none⟩) M).trans z5;go_simp;exact A _ _ r K_ rfl
   simp only[ly];refine qP fun v11=>?_;simp only[ly];refine k_ rfl rfl (fun xw r u K A=>?_) (fun v12=>?_)
   ·obtain rfl:v11=_:=u 11 s_;have m:q_ I xw:=r;have u0:=(m.cell (p:=⟨w+1+1,_,none⟩) N).trans f1;go_simp;exact A _ _ r K_ rfl
   simp only[ly];refine qP fun v13=>?_;simp only[ly];refine k_ rfl rfl (fun xw r u K A=>?_) (fun v14=>?_)
   ·obtain rfl:v10=_:=u 10 s_;obtain rfl:v12=_:=u 12 s_;obtain rfl:v13=_:=u 13 s_;have m:q_ I xw:=r;go_simp
    go_at_call 134
    refine (b8 xw m).mono ?_;rintro e w1 ⟨h1,A1,p1,rfl,t1,c1,n1,hb⟩;exact A _ _ (d_ m hb) (r_.of_below hb) ⟨h1,A1,p1,rfl,t1,c1,n1⟩
   simp only[ly];refine k_ rfl rfl (fun xw r u K A=>?_) (fun v15=>?_)
   ·obtain ⟨h1,A1,p1,e,t1,c1,n1⟩:=u 14 s_;obtain rfl:v14=_:=e;go_simp;exact A _ _ r K_ ⟨h1,A1,p1,rfl,t1,c1,n1⟩
   simp only[ly];refine k_ rfl rfl (fun xw r u K A=>?_) (fun v16=>?_)
   ·obtain ⟨h1,A1,p1,e,t1,c1,n1⟩:=u 15 s_;obtain rfl:v15=_:=e;go_simp;exact A _ _ r K_ ⟨h1,A1,p1,rfl,t1,c1,n1⟩
   simp only[ly];refine cD rfl (fun w=>r_.refl w) (fun xw u K A=>?_) (fun v17=>?_)
   ·obtain ⟨h1,A1,p1,e,t1,c1,n1⟩:=u 15 s_;obtain rfl:v15=_:=e;go_simp;exact A _ rfl
   simp only[ly];refine qP fun v18=>qP fun v19=>?_;simp only[ly];refine aL (fun xw r u K A=>?_) (fun v20=>?_)
   ·obtain rfl:v19=_:=u 19 s_;obtain ⟨h1,A1,p1,e,t1,c1,n1⟩:=u 16 s_;obtain rfl:v16=_:=e;have m:q_ I xw:=r;have P:=a9.step m;have ax:=LW.there P.files (i:=j) d7 (p:=2) (n:=4) O_;refine aO (ops:=#[]) rfl (pF rfl 58 (.tmp 74) (.tmp 71) rfl gf (j*15+2) #[I_ (h1:Int),S_ A1 (f_ h1 (Z_ y.c x.page v).1).kids.length p1,I_ (f_ h1 (Z_ y.c x.page v).1).val,I_ (f_ h1 (Z_ y.c x.page v).1).marks] rfl rfl ax L_ (aD) ?_);refine A undef _ ⟨P.putFiles (J_ xw gf (j*15+2) _) (LW.tree P.files HU.fl (oZ dd.out) t1 c1 n1) z_,?_,?_,?_,?_,?_⟩ (r_.of_setCells _ _ _ _ (fun h=>h.2.1 rfl)) trivial
    ·exact (u_ gf _ (j*15+2) xw X O_).trans (i_ F.out m)
    ·exact (u_ gf _ (j*15+2) xw (w+1) O_).trans (i_ ad.out m)
    ·exact (u_ gf _ (j*15+2) xw (w+1+1) O_).trans (i_ Y.out m)
    ·exact (u_ gf _ (j*15+2) xw (w) O_).trans (i_ a0.out m)
    ·exact aS (d_ O.out m) O_ _ _
   simp only[ly];refine aY ?_;intro wz hD hG;clear hG;go_wp2;go_meet
   case rel=>exact hD
  case rest=>
   clear M z2 z3 z4 z5 b8 a9 F a0 ad Y O ai ba bg av bj be ar d9;clear x0 x1 x2 x3 x4 x5 x6 f0 f1 f2 f3 f4 f5 f6 f7 f8 o0 o1 o4 a7 N a6;obtain ⟨b1,b3,b4,b2,b6,b5⟩:=hcut;obtain ⟨ay,az,cc,dy,dz,ci⟩:=h6_ b1 b3 b4 b2 b6 b5;clear b1 b3 b4 b2 b6 b5;obtain ⟨o0,o1,o2,o3,o4,o5,o6⟩:=aF az.out;have bk:=H_ (LW.there ay.frames br (p:=0) (n:=9) O_);rw [Nat.add_zero] at bk
   go_upto_region 9 with (first
    | (refine pF rfl 85 (.tmp 80) (.tmp 79) rfl q (i*9) (pC (-1) 0 ⟨#[]⟩ 0 0 0 0 0 0) rfl rfl bk lA (yB eI) ?_)
    | fail)
   have aa:=H_ (ay.frame br eI);rw [show eI.row=[I_ (-1),I_ 0,.string ⟨#[]⟩,I_ 0,I_ 0,I_ 0,I_ 0,I_ 0,I_ 0] from rfl] at aa;generalize hW9:wc.setCells q (i*9) _=e3 at aa;have ca:=smx hW9 az;have b0:=smx hW9 cc;have cj:=sml hW9 ci;clear hW9;clear o0 o1 o2 o3 o4 o5 o6 bk;obtain ⟨x0,x1,x2,x3,x4,x5,x6⟩:=aF ca.out
   go_wp2_with (refine aJ rfl (.tmp 6) (.tmp 81) rfl rfl rfl rfl b0 rfl ?_)
   show bodyPost prog f156 _ _ _ _
   refine bodyPost_ret (mB rfl rfl (setRow_heap _ _ _ _ _ _ b0)) rfl ?_;refine ⟨gf,_,G,q,_,J,_,_,s,nl,cl,gk,nk,ck,_,rfl,?_,j_ cj.out O_ _⟩;exact (aa.setRow (w+1) _ (fun hz=>(s1 _ (bw _ hz).1).2.2 rfl) O_).weak O_ (fun z hz=>(s1 z (bw z hz).1).1) hS
end
section
def stA (s:Int):Int:=if s<0/\-1000001<=s then -s - 1 else 0
def stB (s:Int):Bool:=decide (s<0/\-1000001<=s)
def diA (c s:Int):Int:=if (0<=c/\c<=1000000)/\(stB s=true/\stA s<c) then c - stA s else 0
def diE (c s:Int):Int:=if 0<=c/\c<=1000000 then (if stB s=true/\stA s<c then 0 else 1) else 2
def acB (c s a:Int):Bool:=diE c s == 0&&decide (diA c s<=a)
theorem sZ {k l:IntKind} {a b c d:Int} (h:a=b) (h':c=d):Ending.returned (.tuple #[.int k a,.int l c]) = .returned (.tuple #[.int k b,.int l d]):=by rw [h,h']
theorem fk_ {k:IntKind} {a b:Int} {c d:Bool} (h:a=b) (h':c=d):Ending.returned (.tuple #[.int k a,.bool c]) = .returned (.tuple #[.int k b,.bool d]):=by rw [h,h']
def kv_ (a b:Int) (w:World) (e:Ending) (w':World):Prop:=e = .returned (.tuple #[I_ a,I_ b])/\w=w'
def ko_ (a:Int) (b:Bool) (w:World) (e:Ending) (w':World):Prop:=e = .returned (.tuple #[I_ a,.bool b])/\w=w'
def kr_ (b:Bool) (w:World) (e:Ending) (w':World):Prop:=e = .returned (.bool b)/\w=w'
theorem pY:C_ 218 #[I_ s] w (ko_ (stA s) (stB s) w):=by
 by_cases h:s<0/\-1000001<=s
 ·obtain ⟨h1,h2⟩:=h;go_enter func218,ntmps218;go_wp2
  go_ret2
  exact ⟨fk_ (by simp [stA,h1,h2]) (by simp [stB,h1,h2]),rfl⟩
 ·go_enter func218,ntmps218;go_wp2
  all_goals go_ret2
  all_goals exact ⟨fk_ (by simp [stA,h]) (by simp [stB,h]),rfl⟩
theorem aH_ {c:Int}:C_ 187 #[I_ c,I_ s] w (kv_ (diA c s) (diE c s) w):=by
 by_cases h:0<=c/\c<=1000000
 ·have b:0<=stA s/\stA s<=1000000:=by unfold stA;split <;> omega
  obtain ⟨h1,h2⟩:=h;obtain ⟨h3,d⟩:=b
  by_cases a:stB s=true
  ·by_cases hl:stA s<c
   ·go_enter func187,ntmps187
    go_wp2_with (go_at_call 218;refine (pY).mono ?_;rintro e w' ⟨rfl,rfl⟩)
    all_goals go_ret2
    all_goals exact ⟨sZ (by simp [diA,h1,h2,a,hl]) (by simp [diE,h1,h2,a,hl]),rfl⟩
   ·go_enter func187,ntmps187
    go_wp2_with (go_at_call 218;refine (pY).mono ?_;rintro e w' ⟨rfl,rfl⟩)
    all_goals go_ret2
    all_goals exact ⟨sZ (by simp [diA,h1,h2,a];omega) (by simp [diE,h1,h2,a];omega),rfl⟩
  ·simp only[Bool.not_eq_true] at a;go_enter func187,ntmps187
   go_wp2_with (go_at_call 218;refine (pY).mono ?_;rintro e w' ⟨rfl,rfl⟩)
   all_goals go_ret2
   all_goals exact ⟨sZ (by simp [diA,a]) (by simp [diE,h1,h2,a]),rfl⟩
 ·have f:decide (0<=c/\c<=1000000)=false:=by simpa using h
  go_enter func187,ntmps187
  go_wp2_with (go_at_call 218;refine (pY).mono ?_;rintro e w' ⟨rfl,rfl⟩)
  all_goals go_ret2
  all_goals exact ⟨sZ (by simp [diA,h]) (by simp [diE,h]),rfl⟩
theorem aG_ (c s a:Int) (w:World):C_ 133 #[I_ c,I_ s,I_ a] w (kr_ (acB c s a) w):=by
 go_enter func133,ntmps133
 go_wp2_with (go_at_call 187;refine (aH_).mono ?_;rintro e w' ⟨rfl,rfl⟩)
 all_goals go_ret
 all_goals exact ⟨A_ (by simp_all [acB]),rfl⟩
end
section
def SK.int {S:Nat->Prop}:SK S:=⟨fun v _=>∃z:Int,v = I_ z,fun _ _ _ _ h=>h⟩
theorem LW.clk {g:Nat} {L:List Int} (h:LW M_ w S g L) (hi:i<L.length) (z:Int):LW M_ (w.setCell ⟨g,i,none⟩ (I_ z)) S g (L.set i z):=by
 have:=h.setOne (i:=i) (p:=0) (a:=L[i]) (a':=z) (v:= I_ z) (cU hi) O_ rfl (fun r hr=>by
  have hr:r=[I_ _]:=hr;subst hr
  rfl)
 rw [Nat.mul_one,Nat.add_zero] at this;exact this
end
section
def xB (s:Int):Int:=if s % 16<8 then 3 else 2
def TlP (y:Fl) (en p s:Int):Prop:=p=-1/\(en<=y.size\/y.size % 16=0\/aC y (y.size / 16).toNat=true)\/(p=y.size / 16/\s=xB y.size)/\y.size<en/\y.size % 16≠0
def tlK (r kn:Nat):Int:=if kn<=r / 8 then 0 else if r / 8=0 then (if kn=1 then 1 else 3) else 2
def jv_ (y:Fl) (en9:Int) (sz:Nat) (w:World) (en:Ending) (w':World):Prop:=∃p s:Int,en = .returned (.tuple #[I_ p,I_ s])/\(p=-1\/∃q:Nat,p=q/\q<8)/\0<=s/\s<=3/\((sz % 16=0->p=-1)/\(p=-1\/p*16<sz)/\TlP y en9 p s)/\q_ w w'
theorem fr_ (j sz:Nat) (y:Fl) (en:Int) (h:x_ w S a b c d e f g C) (hl:qK C) (hj:C.files[j]?=some y) (hsz:y.size=sz) (hs8:sz<=128) :
  C_ 89 #[cI a b c d e f g,I_ j,I_ en] w (jv_ y en sz w):=by
 have J:=bK hj;have u:=fun w' (hb:q_ w w')=>gF j (h.step hb) J;obtain ⟨A1,A,rfl,q1,q2⟩:=h.files.form;obtain ⟨Q,m2,c2,rfl⟩:=h.frames.cap;obtain ⟨R,m3,c3,U,m4,c4,V,m5,c5,X,m6,c6,Y,m7,c7,rfl,rfl,rfl,rfl,rfl⟩:=x_.caps5 h;obtain ⟨P,of,O,KB,kc,rfl,G,k1,k2,k3,k4,I⟩:=FlA.cells h.files hj;have a3:=bK hj;have a6:C.files.length<=100:=hl.files.2;have j2:(j:Int)<(C.files.length:Int):=O_
 have j0:(0:Int)<=(j:Int):=O_
 obtain ⟨H,HL,HJ⟩:=eT h hl hj;clear h hl hj k1 k2 k3 k4;have o:=H_ hsz;obtain ⟨q,r,M,hr⟩:∃q r:Nat,sz=q*16+r/\r<16:=⟨sz / 16,sz % 16,O_,O_⟩;have e1:(sz:Int).tmod 16=(r:Int):=by rw [tm_ O_];omega
 have e2:(sz:Int).tdiv 16=(q:Int):=by rw [tv_ O_];omega
 have e3:(sz:Int) / 16=(q:Int):=O_
 have e4:(sz:Int) % 16=(r:Int):=O_
 have l:=H_ M;have a7:q<=8:=O_
 clear M hsz;have HX:=H_ (g_ w (.cells (E_ (some ⟨P,of,none⟩) C.files.length A Q m2 c2 R m3 c3 U m4 c4 V m5 c5 X m6 c6 Y m7 c7) 30));have t:=H_ (b_ (aI (w) w) (.cells (E_ (some ⟨P,of,none⟩) C.files.length A Q m2 c2 R m3 c3 U m4 c4 V m5 c5 X m6 c6 Y m7 c7) 30));go_enter func89,ntmps89
 go_upto_region 1 with fail
 generalize w.alloc (.cells (E_ (some ⟨P,of,none⟩) C.files.length A Q m2 c2 R m3 c3 U m4 c4 V m5 c5 X m6 c6 Y m7 c7) 30)=W at HX t;obtain ⟨x0,x1,x2,x3,x4,x5,x6⟩:=aF HX.out;obtain ⟨z0,z1,z2,z3,z4,z5,z6,z7,z8,z9,za,zb,zc,zd,ze⟩:=zc (t.block _ G) I;rw [o.out] at z6
 have p:=fun z=>u (ext W z) (d_ t (n_ W z));have xe:=aG W;have a2:w.heap.size<W.heap.size:=p_ HX;have a1:P<W:=iS G t.size;clear I u
 by_cases h1:en<=(sz:Int)
 ·have d1:decide (en<=(sz:Int))=true:=dT h1;have k:True:=trivial;have n:=H_ (show en<=y.size\/y.size % 16=0\/aC y (y.size / 16).toNat=true from .inl (by rw [o.out];exact h1));clear h1
  go_upto_region 1 with fail
  refine y_ s_ s_ ?_
  repeat (go_big_quiet_step ((first | (with_reducible exact aB (p _)) | (with_reducible exact aB (k _)))))
  refine wpQuiet_nil ?_;rintro w' ⟨z,rfl⟩;go_wp2
  go_ret2
  exact ⟨-1,0,rfl,.inl rfl,O_,O_,⟨fun _=>rfl,.inl rfl,.inl ⟨rfl,n.out⟩⟩,d_ t.out (n_ _ _)⟩
 ·have d1:decide (en<=(sz:Int))=false:=dF h1;have Z:=H_ (show y.size<en by rw [o.out];omega);clear h1
  by_cases h2:r=0
  ·subst h2;have k:True:=trivial;have n:=H_ (show en<=y.size\/y.size % 16=0\/aC y (y.size / 16).toNat=true from .inr (.inl (by rw [o.out];omega)))
   go_upto_region 1 with fail
   refine y_ s_ s_ ?_
   repeat (go_big_quiet_step ((first | (with_reducible exact aB (p _)) | (with_reducible exact aB (k _)))))
   refine wpQuiet_nil ?_;rintro w' ⟨z,rfl⟩;go_wp2
   go_ret2
   exact ⟨-1,0,rfl,.inl rfl,O_,O_,⟨fun _=>rfl,.inl rfl,.inl ⟨rfl,n.out⟩⟩,d_ t.out (n_ _ _)⟩
  ·have d2:((r:Int) == 0)=false:=beq_eq_false_iff_ne.2 O_;have L:q<8:=by have:=l.out;omega
   have i:∀w',C_ 137 #[.agg #[I_ y.dev,I_ y.slot,I_ O,S_ KB (f_ O y.c).kids.length kc,I_ (f_ O y.c).val,I_ (f_ O y.c).marks,I_ (sz:Int),I_ y.blocks,I_ y.ecnt,I_ y.eerr,I_ y.sseq,I_ y.ssize,I_ y.sblocks,I_ y.which,I_ y.seq],I_ (q:Int)] w' (cP (aC y q) w'):=fun w'=>by
    have:=sQ y O KB kc q L w';simp only[Fl.v,Fl.rowT,o.out] at this;exact this
   cases h3:aC y q with
   | true=>
    rw [h3] at i;have k:=fun z=>i (ext W z);have n:=H_ (show en<=y.size\/y.size % 16=0\/aC y (y.size / 16).toNat=true from .inr (.inr (by rw [o.out,e3,Int.toNat_natCast];exact h3)));clear i h3
    go_upto_region 1 with fail
    refine y_ s_ s_ ?_
    repeat (go_big_quiet_step ((first | (with_reducible exact aB (p _)) | (with_reducible exact aB (k _)))))
    refine wpQuiet_nil ?_;rintro w' ⟨z,rfl⟩;go_wp2
    go_ret2
    exact ⟨-1,0,rfl,.inl rfl,O_,O_,⟨fun _=>rfl,.inl rfl,.inl ⟨rfl,n.out⟩⟩,d_ t.out (n_ _ _)⟩
   | false=>
    rw [h3] at i;have k:=fun z=>i (ext W z);clear i h3
    go_upto_region 1 with fail
    refine y_ s_ s_ ?_
    repeat (go_big_quiet_step ((first | (with_reducible exact aB (p _)) | (with_reducible exact aB (k _)))))
    refine wpQuiet_nil ?_;rintro w' ⟨z,rfl⟩;obtain ⟨F,a0,a4⟩:∃F:Nat,r / 8=F/\F<=1:=⟨r / 8,rfl,O_⟩;have e5:(r:Int).tdiv 8=(F:Int):=by rw [tv_ O_];omega
    have e6:(r:Int) / 8=(F:Int):=O_
    clear a0 d1 d2
    go_upto_region 5 with fail
    go_loopw [8,9] (fun s8 s9 wx=>∃(x:Int) (kn:Nat),s8 = I_ x/\s9 = I_ kn/\kn<=2/\0<=x/\x<=3/\(r / 8<=kn/\x=tlK r kn)/\wx=ext W z) (fun _ s9 _=>2 - (intOf s9).toNat)
    case atStart=>exact ⟨0,F,rfl,rfl,O_,O_,O_,⟨O_,by unfold tlK;rw [if_pos O_]⟩,rfl⟩
    case round=>
     obtain ⟨x,kn,rfl,rfl,a5,B,D,N,rfl⟩:=hrel;have m:=H_ N;have s:=H_ hr;clear N;obtain rfl | rfl | rfl:kn=0\/kn=1\/kn=2:=O_
     ·have K:=or3 (a:=x) (b:=1) ⟨B,D⟩ ⟨O_,O_⟩;clear e1 e2 e3 e4 e5 e6;go_wp2;go_roundw
      case rel=>exact ⟨_,1,rfl,rfl,O_,K.1,K.2,⟨by have:=m.out.1;omega,by have h1:=m.out.1;rw [m.out.2,show tlK r 0=0 by (unfold tlK;rw [if_pos O_]),show tlK r 1=1 by (unfold tlK;rw [if_neg O_,if_pos O_,if_pos rfl])];decide⟩,trivial⟩
      case measure=>simp [intOf]
     ·have K:=or3 (a:=x) (b:=2) ⟨B,D⟩ ⟨O_,O_⟩;clear e1 e2 e3 e4 e5 e6;go_wp2;go_roundw
      case rel=>exact ⟨_,2,rfl,rfl,O_,K.1,K.2,⟨by have:=s.out;omega,by
       have h1:=m.out.1;rw [m.out.2];unfold tlK
       by_cases E:r / 8=0
       ·rw [if_neg O_,if_pos E,if_pos rfl,if_neg O_,if_pos E,if_neg O_];decide
       ·rw [if_pos O_,if_neg O_,if_neg E];decide⟩,trivial⟩
      case measure=>simp [intOf]
     ·go_wp2
      go_ret2
      exact ⟨q,x,rfl,.inr ⟨q,rfl,L⟩,B,D,⟨fun h=>by have:=l.out;omega,.inr (by have:=l.out;omega),.inr ⟨⟨by rw [o.out];have:=l.out;omega,by
       have h1:=s.out;rw [m.out.2,o.out];unfold xB tlK;have h2:=l.out
       by_cases E:r / 8=0
       ·rw [if_neg O_,if_pos E,if_neg O_,if_pos O_]
       ·rw [if_neg O_,if_neg E,if_neg O_]⟩,Z.out,by rw [o.out];have:=l.out;omega⟩⟩,d_ t.out (n_ _ _)⟩
end
section
def xI (C:Ck) (j:Nat) (y:Fl):Prop:=∀p:Int,0<D_ y.c p->∃(i:Nat) (x:Fr),D_ y.c p=(i:Int)+1/\dE C i x j y/\x.page=p
def dK_ (P:Ck->Int->Prop) (S:Nat->Prop) (w:World) (en:Ending) (w':World):Prop:=∃C' err a b c d e f g,P C' err/\en = .returned (.tuple #[cI a b c d e f g,I_ err])/\x_ w' S a b c d e f g C'/\q_ w w'
def SoP (C:Ck) (j:Nat) (y:Fl) (C':Ck):Prop:=C'=C\/∃i x s,dE C i x j y/\x.page*16<y.size/\0<=s/\s<=3/\C'=eY C i j y ⟨x.file,x.page,aK x.pg s,x.tenant,x.holds,x.reading,x.writing⟩
def SoX (C:Ck) (j:Nat) (y:Fl) (en:Int) (C':Ck):Prop:=C'=C/\(en<=y.size\/y.size % 16=0\/aC y (y.size / 16).toNat=true)\/∃i x,dE C i x j y/\(y.size<en/\y.size % 16≠0)/\x.page=y.size / 16/\bits .andNot .i64 (xB y.size) x.pg.valid=0/\C'=eY C i j y ⟨x.file,x.page,aK x.pg (xB y.size),x.tenant,x.holds,x.reading,x.writing⟩
theorem TlP.no (h:TlP y en (-1) s) (hy:0<=y.size):en<=y.size\/y.size % 16=0\/aC y (y.size / 16).toNat=true:=by
 rcases h with h | h
 ·exact h.2
 ·omega
theorem TlP.yes {q:Nat} (h:TlP y en q s):((q:Int)=y.size / 16/\s=xB y.size)/\y.size<en/\y.size % 16≠0:=by
 rcases h with h | h
 ·omega
 ·exact h
theorem aK_(sz:Nat) (en:Int) (h:x_ w S a b c d e f g C) (hl:qK C) (hj:C.files[j]?=some y) (hsz:y.size=sz) (hs8:sz<=128) (hF:xI C j y) (hS:∀z,w.heap.size<=z->S z) :
  C_ 95 #[cI a b c d e f g,I_ j,I_ en] w (dK_ (fun C' err=>SoP C j y C'/\(sz % 16=0->C'=C/\err=0)/\(err=0->SoX C j y en C')) S w):=by
 obtain ⟨S1,s1,s2,s3⟩:=oB hS;replace h:=h.weak s3;clear s3;have ap:=fun w' (P:q_ w w')=>fr_ j sz y en (h.step P) hl hj hsz hs8;have L:=fun p w' (P:q_ w w')=>gR j y p (h.step P) hj;obtain ⟨A1,a4,rfl,q1,q2⟩:=h.files.form;obtain ⟨A2,m2,c2,rfl⟩:=h.frames.cap;obtain ⟨A3,m3,c3,A4,m4,c4,A5,m5,c5,A6,m6,c6,A7,m7,c7,rfl,rfl,rfl,rfl,rfl⟩:=x_.caps5 h;obtain ⟨bf,of,kt,KB,kc,rfl,aw,k1,k2,k3,k4,am⟩:=FlA.cells h.files hj;have ax:=bK hj;have ay:C.files.length<=100:=hl.files.2;have j2:(j:Int)<(C.files.length:Int):=O_
 have j0:(0:Int)<=(j:Int):=O_
 obtain ⟨H,HL,HJ⟩:=eT h hl hj;clear h hl hj k1 k2 k3 k4;have ad:=H_ hF;have a1:=H_ hsz;clear hF hsz am;go_enter func95,ntmps95
 go_upto_region 1 with fail
 generalize hW9:(w.alloc _).alloc _=W;obtain ⟨HX,HR,HW,HZ⟩:=fV hW9;clear hW9 HZ;obtain ⟨x0,B,D,E,F,G,I⟩:=aF HX.out
 go_upto_region 2 with (go_at_call 89;(with_reducible refine CM (ap _ HW.out) ?_);rintro e w1 ⟨p,s,rfl,hp,a9,aa,k,a5⟩;obtain ⟨O,J,l⟩:=bN HX HR HW a5;clear a5)
 clear x0 B D E F G I;obtain ⟨x0,B,D,E,F,G,I⟩:=aF O.out
 rcases hp with rfl | ⟨q,rfl,hq8⟩
 ·go_wp2_with (refine aJ rfl (.tmp 6) (.tmp 22) rfl rfl rfl rfl J rfl ?_)
  show bodyPost prog f95 _ _ _ _
  refine bodyPost_ret (bQ rfl rfl rfl (setRow_heap _ _ _ _ _ _ J)) rfl ?_;exact ⟨C,_,_,_,_,_,_,_,_,⟨.inl rfl,⟨fun _=>⟨rfl,rfl⟩,fun _=> .inl ⟨rfl,k.2.2.no (by rw [a1.out];omega)⟩⟩⟩,rfl,(H.step (j_ l.out O_ _)).weak (fun z _ A=>(s1 z A).1),j_ l.out O_ _⟩
 ·have q0:decide ((q:Int)<0)=false:=dF O_
  by_cases hv:D_ y.c q<=0
  ·have Q:∀w',q_ w w'->C_ 59 #[cI (S_ (some ⟨bf,of,none⟩) C.files.length a4) (S_ A2 m2 c2) (S_ A3 m3 c3) (S_ A4 m4 c4) (S_ A5 m5 c5) (S_ A6 m6 c6) (S_ A7 m7 c7),I_ j,I_ q] w' (fun e U=>e = .returned (.tuple #[I_ 0,.bool false])/\q_ w' U):=fun w' P=>by
    have:=L q w' P;unfold eR wG at this;rw [if_pos hv] at this;exact this
   clear L hv
   go_wp2_with (first | (go_at_call 59;refine CM (Q _ l) ?_;rintro e w2 ⟨rfl,r⟩;obtain ⟨K,m,n⟩:=bN O J l r;clear r x0 B D E F G I;obtain ⟨x0,B,D,E,F,G,I⟩:=aF K.out) | (refine aJ rfl (.tmp 6) (.tmp 32) rfl rfl rfl rfl m.out rfl ?_))
   show bodyPost prog f95 _ _ _ _
   refine bodyPost_ret (bQ rfl rfl rfl (setRow_heap _ _ _ _ _ _ m)) rfl ?_;exact ⟨C,_,_,_,_,_,_,_,_,⟨.inl rfl,⟨fun h=>absurd (k.1 h) O_,fun h=>absurd h bX⟩⟩,rfl,(H.step (j_ n.out O_ _)).weak (fun z _ A=>(s1 z A).1),j_ n.out O_ _⟩
  ·obtain ⟨i,x,a8,hU,R⟩:=ad.out q O_;have Q:∀w',q_ w w'->C_ 59 #[cI (S_ (some ⟨bf,of,none⟩) C.files.length a4) (S_ A2 m2 c2) (S_ A3 m3 c3) (S_ A4 m4 c4) (S_ A5 m5 c5) (S_ A6 m6 c6) (S_ A7 m7 c7),I_ j,I_ q] w' (fun e U=>e = .returned (.tuple #[I_ ((i:Int)+1),.bool true])/\q_ w' U):=fun w' P=>by
    have:=L q w' P;unfold eR wG at this;rw [if_neg hv,a8] at this;exact this
   have HU:=H_ hU;have ak:=H_ (show x.page*16<(sz:Int) by have:=k.2.1;rw [R];omega);have aj:=H_ R;obtain ⟨ar,av,ea,q3,q4⟩:=H.frames.form;injection ea with ea1 ea2 ea3
   subst ea1 ea2 ea3;obtain ⟨bb,o,rfl,al,y0,y1,y2,y3,y4,y5,y6,y7,y8⟩:=FrA.cells H.frames hU.fr;have an:=bK hU.fr;have i2:(i:Int)<(C.frames.length:Int):=O_
   have az:C.frames.length<=100:=HL.frames.2;clear L hv a8 hU R
   go_upto_region 7 with (go_at_call 59;refine CM (Q _ l) ?_;rintro e w2 ⟨rfl,r⟩;obtain ⟨K,m,n⟩:=bN O J l r;clear r x0 B D E F G I;obtain ⟨x0,B,D,E,F,G,I⟩:=aF K.out)
   have aq:=kt9 (n.block _ al) y0 y1 y2 y3 y4 y5 y6 y7 y8;clear y0 y1 y2 y3 y4 y5 y6 y7 y8;obtain ⟨y0,y1,y2,y3,y4,y5,y6,y7,y8⟩:=aq;have b0:w.heap.size+1<w2.heap.size:=p_ m
   go_upto_region 8 with fail
   generalize hW9:w2.alloc _=W3;have V:=nah hW9;have a3:=bah hW9 K;have M:=bah hW9 m;have N:=lah hW9 n;clear hW9;clear x0 B D E F G I y0 y1 y2 y3 y4 y5 y6 y7 y8;obtain ⟨x0,B,D,E,F,G,I⟩:=aF a3.out;obtain ⟨f0,f1,f2,f3,f4,f5,f6,f7,f8⟩:=sE V.out
   cases d3:bits .andNot .i64 s x.pg.valid != 0 with
   | true=>
    go_wp2_with (refine aJ rfl (.tmp 6) (.tmp 45) rfl rfl rfl rfl M rfl ?_)
    show bodyPost prog f95 _ _ _ _
    refine bodyPost_ret (bQ rfl rfl rfl (setRow_heap _ _ _ _ _ _ M)) rfl ?_;exact ⟨C,_,_,_,_,_,_,_,_,⟨.inl rfl,⟨fun h=>absurd (k.1 h) O_,fun h=>absurd h bX⟩⟩,rfl,(H.step (j_ N.out O_ _)).weak (fun z _ A=>(s1 z A).1),j_ N.out O_ _⟩
   | false=>
    have D3:=H_ (show bits .andNot .i64 s x.pg.valid=0 by simpa using d3);have ao:=fun w'=>iQ_ x.pg.data x.pg.valid x.pg.dirty s w' HU.ok.pg ⟨a9,aa⟩
    go_upto_region 11 with (first
     | (go_at_call 69;(with_reducible refine CM (ao _) ?_);rintro e w5 ⟨rfl,a6⟩;obtain ⟨X,ah,ae,af⟩:=iC V a3 M N a6;clear a6;have ab:=qD X)
     | (refine pF rfl 83 (.tmp 53) (.tmp 51) rfl (w2) 2 #[.string (aK x.pg s).data,I_ (aK x.pg s).valid,I_ (aK x.pg s).dirty] rfl rfl ab dB (eX) ?_)
     | fail)
    have Y:=H_ (pM (u:= .string (aK x.pg s).data) (v:= I_ (aK x.pg s).valid) (z:= I_ (aK x.pg s).dirty) X);generalize hW9:w5.setCells (w2) 2 _=W8 at Y;have ai:=smx hW9 ah;have Z:=smx hW9 ae;have a2:=sml hW9 af;clear hW9;clear x0 B D E F G I f0 f1 f2 f3 f4 f5 f6 f7 f8 ab d3;obtain ⟨x0,B,D,E,F,G,I⟩:=aF ai.out;obtain ⟨f0,f1,f2,f3,f4,f5,f6,f7,f8⟩:=sE Y.out;have au:w.heap.size+1<W8.heap.size:=p_ Z
    go_wp2_with (first
     | (go_at_call 55;(with_reducible refine CM (nE i j (⟨x.file,x.page,aK x.pg s,x.tenant,x.holds,x.reading,x.writing⟩) y (H.out.step a2.out) HL.out an HU.out.fl HU.out.ix (fun z A=>s2 z (by omega))) ?_);rintro e w9 ⟨gf,nf,cf,gr,nr,cr,c',d',gl,nl,cl,gk,nk,ck,g',rfl,t,a7⟩;obtain ⟨P3,n3,r3,rfl⟩:=t.zones.cap;obtain ⟨P4,n4,r4,rfl⟩:=t.groups.cap;obtain ⟨P7,n7,r7,rfl⟩:=t.ptes.cap;obtain ⟨a0,ag⟩:=gZ Z a2 a7;have ac:=H_ t;clear t a7)
     | (refine aJ rfl (.tmp 6) (.tmp 57) rfl rfl rfl rfl a0 rfl ?_))
    show bodyPost prog f95 _ _ _ _
    refine bodyPost_ret (bQ rfl rfl rfl (setRow_heap _ _ _ _ _ _ a0)) rfl ?_;exact ⟨eY C i j y ⟨x.file,x.page,aK x.pg s,x.tenant,x.holds,x.reading,x.writing⟩,_,_,_,_,_,_,_,_,⟨.inr ⟨i,x,s,HU.out,by rw [a1.out];exact ak.out,a9,aa,rfl⟩,fun h=>absurd (k.1 h) O_,fun _=> .inr ⟨i,x,HU.out,k.2.2.yes.2,aj.trans k.2.2.yes.1.1,by rw [<-k.2.2.yes.1.2];exact D3.out,by rw [<-k.2.2.yes.1.2]⟩⟩,rfl,((ac.setRow (w+1) (R7_ gf nf cf gr nr cr (S_ P3 n3 r3) (S_ P4 n4 r4) gl nl cl gk nk ck (S_ P7 n7 r7)) (fun A=>(s1 _ A).2.2 rfl) O_).weak O_ (fun z A=>(s1 z A).1) hS).at_,j_ ag.out O_ _⟩
end
section
theorem iV (off n:Nat):(W_ off n).length=(off+n+15) / 16 - off / 16:=sX _ _
theorem gJ (off n k:Nat) (hk:k<(off+n+15) / 16 - off / 16):(W_ off n)[k]?=some (((off / 16+k:Nat):Nat):Int):=by
 unfold W_ zA;rw [gP_,List.getElem?_range hk]
 rfl
theorem br_ (h:p ∈ W_ off n):∃k,k<(off+n+15) / 16 - off / 16/\p=((off / 16+k:Nat):Int):=by
 unfold W_ zA at h;obtain ⟨k,hk,rfl⟩:=List.mem_map.1 h;exact ⟨k,by simpa using hk,rfl⟩
theorem yF {p:Nat} (h1:p*16<off+n) (h2:off<(p+1)*16):0<=(bD p off n).1/\0<=(bD p off n).2/\(bD p off n).1<=16/\(bD p off n).2<=16 - (bD p off n).1:=by
 unfold bD;refine ⟨?_,?_,?_,?_⟩ <;> (dsimp only;omega)
theorem pS {off n k:Nat} (hk:k<(off+n+15) / 16 - off / 16) (h2:off+n<=128):(off / 16+k)*16<off+n/\off<(off / 16+k+1)*16/\off / 16+k<8:=O_
def NdR:RR (Int × Int) 2:=RR.flat (fun x=>[I_ x.1,I_ x.2]) (fun a=>⟨rfl,fun u hu=>by simp at hu;rcases hu with rfl | rfl <;> rfl⟩)
theorem gC_:(prog.info? 209).map (fun i=>(i.zero,i.size,i.bytes))=some (some (.agg #[I_ 0,I_ 0]),2,16):=by kernel_rfl
theorem jR_:rY prog 145 209 2:=by
 obtain ⟨i,h1,h2,h3,h4⟩:=info_parts gC_;exact ⟨i,_,16,underlying145,h1,h2,h3,h4,rfl,O_,O_⟩
def kU (C:Ck) (j:Nat) (y:Fl) (off n:Nat) (wr:Bool) (p:Int):Prop:=∃(i:Nat) (x:Fr),D_ y.c p=(i:Int)+1/\dE C i x j y/\x.page=p/\jK x.pg.valid (bD p off n).1 (bD p off n).2 wr=0
def jw_ (C:Ck) (j:Nat) (y:Fl) (off n:Nat) (wr:Bool) (w:World) (en:Ending) (w':World):Prop:=∃u K err,en = .returned (.tuple #[u,I_ err])/\LA NdR w' gL u K/\K.length<=100/\(err=0\/err=4)/\(err=0->K=[]->∀p ∈ W_ off n,kU C j y off n wr p)/\((∀p ∈ W_ off n,kU C j y off n wr p)->err=0/\K=[])/\q_ w w'
theorem fv_ (off n:Nat) (wr0:Bool) (h:x_ w S a b c d e f g C) (hl:qK C) (hj:C.files[j]?=some y) (hF:xI C j y) (h1:1<=n) (h2:off+n<=128) :
  C_ 94 #[cI a b c d e f g,I_ j,I_ off,I_ n,.bool wr0] w (jw_ C j y off n wr0 w):=by
 have af:=bK hj;have ae:=fun w' (P:q_ w w')=>gF j (h.step P) af;have ad:=fun w'=>mA (off:Int) (n:Int) w' O_ O_ O_ O_;have aj:=fun w'=>sW off n gL w' h1 h2 (fun _ _=>trivial);have M:=fun p w' (P:q_ w w')=>gR j y p (h.step P) hj;have al:=fun (p:Nat) (hp:p<8) w'=>yG (p:Int) (off:Int) (n:Int) w' ⟨O_,O_⟩ ⟨O_,O_⟩ ⟨O_,O_⟩;obtain ⟨A1,t,rfl,q1,q2⟩:=h.files.form;obtain ⟨A2,m2,c2,rfl⟩:=h.frames.cap;obtain ⟨A3,m3,c3,A4,m4,c4,A5,m5,c5,A6,m6,c6,A7,m7,c7,rfl,rfl,rfl,rfl,rfl⟩:=x_.caps5 h;obtain ⟨bf,of,kt,KB,kc,rfl,bc,k1,k2,k3,k4,ax⟩:=FlA.cells h.files hj;have bg:=bK hj;have bh:C.files.length<=100:=hl.files.2;have j2:(j:Int)<(C.files.length:Int):=O_
 have j0:(0:Int)<=(j:Int):=O_
 obtain ⟨H,HL,HJ⟩:=eT h hl hj;clear h hl hj k1 k2 k3 k4;have aq:=H_ hF;have HX:=H_ (g_ w (.cells (E_ (some ⟨bf,of,none⟩) C.files.length t A2 m2 c2 A3 m3 c3 A4 m4 c4 A5 m5 c5 A6 m6 c6 A7 m7 c7) 30));have F:=H_ (b_ (aI (w) w) (.cells (E_ (some ⟨bf,of,none⟩) C.files.length t A2 m2 c2 A3 m3 c3 A4 m4 c4 A5 m5 c5 A6 m6 c6 A7 m7 c7) 30));clear hF ax;go_enter func94,ntmps94
 go_upto_region 1 with fail
 generalize w.alloc (.cells (E_ (some ⟨bf,of,none⟩) C.files.length t A2 m2 c2 A3 m3 c3 A4 m4 c4 A5 m5 c5 A6 m6 c6 A7 m7 c7) 30)=W at HX F;obtain ⟨x0,x1,x2,x3,x4,x5,x6⟩:=aF HX.out
 go_upto_region 5 with (first
  | (go_at_call 92;refine CM (ae _ F) ?_;rintro e w1 ⟨rfl,ab⟩;obtain ⟨a7,a5⟩:=gZ HX F ab;clear ab)
  | (go_at_call 93;refine CM (ad _) ?_;rintro e w2 ⟨rfl,rfl⟩)
  | (go_at_call 88;refine CM (aj _) ?_;rintro e w3 ⟨pv,rfl,an,ac⟩;obtain ⟨X,a6⟩:=gZ a7 a5 ac;have J:=H_ (an.old);clear an ac)
  | fail)
 clear ae ad aj x0 x1 x2 x3 x4 x5 x6 HX F a7 a5;obtain ⟨B,hB⟩:=aZ w3.heap.size;rw [<-hB] at J;have b7:w.heap.size<B:=by rw [hB];exact p_ X
 obtain ⟨u,D⟩:=aZ ((off+n+15) / 16 - off / 16);have az:(W_ off n).length=u:=by rw [iV,D]
 have bd:u<=9:=O_
 obtain ⟨A8,a8,Q,_,_⟩:=J.form;rw [az] at Q;subst Q;have HB:=H_ hB;have a3:=H_ D;clear hB D;go_wp2
 go_loopw [12,14] (fun s12 s14 wx=>∃(k:Nat) (K:List (Int × Int)),s14 = I_ k/\k<=u/\K.length<=k/\LO NdR 209 wx B (fun _=>False) s12 K/\LA M_ wx (fun z=>gL z/\z<B) (S_ A8 u a8) (W_ off n)/\(K=[]->∀(m:Nat) (p:Int),m<k->(W_ off n)[m]?=some p->kU C j y off n wr0 p)/\((∀p ∈ W_ off n,kU C j y off n wr0 p)->K=[])/\q_ w wx/\B<=wx.heap.size/\aW wx (w) (E_ (some ⟨bf,of,none⟩) C.files.length t A2 m2 c2 A3 m3 c3 A4 m4 c4 A5 m5 c5 A6 m6 c6 A7 m7 c7) 30) (fun _ s14 _=>100 - (intOf s14).toNat)
 case atStart=>exact ⟨0,[],rfl,O_,z_,LO.nil _ _ _ _ _,J.out,fun _ m p hm=>absurd hm O_,fun _=>rfl,a6.out,by rw [HB.out];exact aQ _,X⟩
 case round=>
  clear J a6 X;obtain ⟨k,K,rfl,hk,b9,ho,hp,E,A,P,av,hX⟩:=hrel;have a2:=H_ A;clear A;obtain ⟨HO,HP,HG,F,HX⟩:=h5_ ho hp E P hX;have ba:=p_ hX;obtain ⟨x0,x1,x2,x3,x4,x5,x6⟩:=aF hX;clear ho E P hX
  by_cases bj:k<u
  ·have s:=gJ off n k (by have:=a3.out;omega);have ao:=pS (off:=off) (n:=n) (k:=k) (by have:=a3.out;omega) h2;obtain ⟨p,ai⟩:=aZ (off / 16+k);rw [<-ai] at s ao;obtain ⟨r1,r2,r3⟩:=ao;have v:=H_ s;have ak:=yF r1 r2;have I:=H_ ak;obtain ⟨b8,o8,b2,b1,_,_,aw,_,l0⟩:=IL.cell hp s;injection b1 with e81 e82 e83
   subst e81 e82 e83;have am:=al p r3;clear s ai hp ak r1 r2
   by_cases hv:D_ y.c p<=0
   ·have ar:=H_ hv;have N:∀z,C_ 59 #[cI (S_ (some ⟨bf,of,none⟩) C.files.length t) (S_ A2 m2 c2) (S_ A3 m3 c3) (S_ A4 m4 c4) (S_ A5 m5 c5) (S_ A6 m6 c6) (S_ A7 m7 c7),I_ j,I_ p] (ext wr z) (fun e a1=>e = .returned (.tuple #[I_ 0,.bool false])/\Below (ext wr z).heap.size (ext wr z) a1):=fun z=>by
     have:=M p (ext wr z) (d_ F (n_ wr z));unfold eR wG at this;rw [if_pos hv] at this;exact this
    have xe:=aG wr;clear hv M
    go_upto_region 8 with fail
    refine y_ s_ s_ ?_
    repeat (go_big_quiet_step ((exact aB (N _))))
    refine wpQuiet_nil ?_;rintro w' ⟨z,rfl⟩;go_wp2
    go_ret2
    exact ⟨_,[],4,rfl,LA.nil _ _ _,z_,.inr rfl,fun h=>absurd h bX,fun h=>by
     obtain ⟨i,x,g1,_⟩:=h p (fF v.out);have:=ar.out;omega,d_ F.out (n_ _ _)⟩
   ·obtain ⟨i,x,Z,hU,ap⟩:=aq.out p O_;have N:∀z,C_ 59 #[cI (S_ (some ⟨bf,of,none⟩) C.files.length t) (S_ A2 m2 c2) (S_ A3 m3 c3) (S_ A4 m4 c4) (S_ A5 m5 c5) (S_ A6 m6 c6) (S_ A7 m7 c7),I_ j,I_ p] (ext wr z) (fun e a1=>e = .returned (.tuple #[I_ ((i:Int)+1),.bool true])/\Below (ext wr z).heap.size (ext wr z) a1):=fun z=>by
     have:=M p (ext wr z) (d_ F (n_ wr z));unfold eR wG at this;rw [if_neg hv,Z] at this;exact this
    obtain ⟨a4,au,HU⟩:=eT Z ap hU;obtain ⟨b5,b6,ea,q3,q4⟩:=H.frames.form;injection ea with ea1 ea2 ea3
    subst ea1 ea2 ea3;obtain ⟨bb,o,rfl,Y,y0,y1,y2,y3,y4,y5,y6,y7,y8⟩:=FrA.cells H.frames hU.fr;have be:=bK hU.fr;have i2:(i:Int)<(C.frames.length:Int):=O_
    have bi:C.frames.length<=100:=HL.frames.2;have ag:=fun w'=>yE x.pg.data x.pg.valid x.pg.dirty (bD p off n).1 (bD p off n).2 wr0 w' hU.ok.pg I.out.1 I.out.2.1 I.out.2.2.1 I.out.2.2.2;have xe:=aG wr;clear M hv Z ap hU y0 y1 y5 y6 y7 y8
    go_upto_region 8 with fail
    refine y_ s_ s_ ?_
    repeat (go_big_quiet_step ((exact aB (N _))))
    refine wpQuiet_nil ?_;rintro w' ⟨z,rfl⟩;have r:=H_ (d_ F (n_ wr z));have L:=H_ (i_ HX (n_ wr z));have G:=H_ (HO.step (n_ wr z));have U:=H_ (HP.step (n_ wr z));have a9:B<=(ext wr z).heap.size:=dO av (n_ wr z).size;replace y2:=(c_ (r.block _ Y)).trans y2;replace y3:=(c_ (r.block _ Y)).trans y3;replace y4:=(c_ (r.block _ Y)).trans y4;replace l0:(ext wr z).cell? _=_:=(c_ ((n_ wr z).block _ aw)).trans l0;clear xe x0 x1 x2 x3 x4 x5 x6 N;generalize ext wr z=V at r L G U y2 y3 y4 l0 a9;obtain ⟨x0,x1,x2,x3,x4,x5,x6⟩:=aF L.out
    cases hn0:jK x.pg.valid (bD p off n).1 (bD p off n).2 wr0 != 0 with
    | false=>
     have HN:=H_ hn0
     go_wp2_with (first
      | (go_at_call 151;refine CM (am _) ?_;rintro e w4 ⟨rfl,rfl⟩)
      | (go_at_call 152;refine CM (ag _) ?_;rintro e w5 ⟨rfl,l⟩))
     go_roundw
     case rel=>
      refine ⟨k+1,K,by go_num,O_,O_,G.out.step l,U.out.step l,fun hK m p' hm ah=>?_,a2.out,d_ r.out l,dO a9 l.size,i_ L.out l⟩
      by_cases ay:m<k
      ·exact HG hK m p' ay ah
      ·obtain rfl:m=k:=O_
       obtain rfl:p'=(p:Int):=aP (ah.symm.trans v.out);exact ⟨i,x,a4.out,HU.out,au.out,by simpa using HN.out⟩
     case measure=>exact bH
    | true=>
     have HN:=H_ hn0
     go_wp2_with (first
      | (go_at_call 151;refine CM (am _) ?_;rintro e w4 ⟨rfl,rfl⟩)
      | (go_at_call 152;refine CM (ag _) ?_;rintro e w5 ⟨rfl,l⟩)
      | (at_builtin;(refine U_ jR_ rfl (.tmp 78) (.tmp 82) rfl (fun _=>False) rfl ((G.step l).alloc _) (by have:=l.size;simp;omega) O_ #[I_ ((i:Int)+1),I_ (jK x.pg.valid (bD p off n).1 (bD p off n).2 wr0)] rfl (l_ _ _ _ rfl) ((i:Int)+1,jK x.pg.valid (bD p off n).1 (bD p off n).2 wr0) rfl ?_);intro v6 w6 a0 O b3))
     go_roundw
     case rel=>
      have R:=(G.step l).alloc (.cells #[I_ ((i:Int)+1),I_ (jK x.pg.valid (bD p off n).1 (bD p off n).2 wr0)] 209);have b4:=l.size;refine ⟨k+1,_,by go_num,O_,by simp;omega,a0,(((U.step l).alloc _).kept (r_.of_gb O (fun q e hz=>by have:=(R.own e).1;exact absurd hz.2 O_))),fun hK=>by simp at hK,fun aa=>absurd (aa p (fF v.out)) (fun ⟨i',x',g1,g2,g3,g4⟩=>by
       obtain rfl:i'=i:=by have:=a4.out;omega
       obtain rfl:x'=x:=aP (g2.fr.symm.trans HU.fr);have:=HN.out;rw [g4] at this
       cases this),(b_ (d_ r.out l) _).grown O (b_ (d_ r.out l) _).size (fun b P=>by have:=(R.own P).1;omega),?_,(O.block _ ?_ (fun e=>by have:=(R.own e.symm).1;omega)).trans (m_ (i_ L.out l) _)⟩
      ·have:=O.size;simp at this;omega
      ·simp;omega
     case measure=>exact bH
  ·obtain rfl:k=u:=O_
   go_wp2
   go_ret2
   refine ⟨_,K,0,rfl,HO.la (fun _ _ _=>trivial) (fun _ _=>trivial),O_,.inl rfl,fun _ hK p b0=>?_,fun h=>⟨rfl,a2.out h⟩,F.out⟩;obtain ⟨m,hm⟩:=List.getElem?_of_mem b0;exact HG hK m p (by have:=bK hm;omega) hm
end
section
theorem kD {l:List Int} {f x:Int}:x ∈ bL l f↔x ∈ l/\x≠f:=by simp [bL]
theorem eQ.rem {a:Lr} (h:eQ a) (f:Int):eQ (iY a f):=by
 unfold iY
 split
 ·have b:bL a.act f ++ bL a.ina f=bL (a.act ++ a.ina) f:=by simp [bL,List.filter_append]
  refine ⟨fun x d=>?_,?_,fun x d=>?_,h.asc.sublist List.filter_sublist⟩
  ·rw [b] at d;exact h.rng x (kD.1 d).1
  ·show (bL a.act f ++ bL a.ina f).Nodup
   rw [b];exact h.dup.sublist List.filter_sublist
  ·have c:=kD.1 d
   show x ∈ bL a.act f ++ bL a.ina f
   rw [b];exact kD.2 ⟨h.sub x c.1,c.2⟩
 ·exact h
theorem eQ.add {a:Lr} (h:eQ a) (f:Int) (hf:1<=f/\f<=64) (ac:Bool):eQ (jD a f ac):=by
 unfold jD
 split
 ·exact h
 ·rename_i hn
  have c:f ∉ a.act ++ a.ina:=by simpa [eU] using hn
  split
  ·refine ⟨fun x b=>?_,?_,fun x b=>List.mem_cons_of_mem _ (h.sub x b),h.asc⟩
   ·rcases List.mem_cons.1 b with rfl | b
    ·exact hf
    ·exact h.rng x b
   ·exact List.nodup_cons.2 ⟨c,h.dup⟩
  ·have d:(a.act ++ f :: a.ina).Perm (f :: (a.act ++ a.ina)):=List.perm_middle;refine ⟨fun x b=>?_,d.nodup_iff.2 (List.nodup_cons.2 ⟨c,h.dup⟩),fun x b=>d.mem_iff.2 (List.mem_cons_of_mem _ (h.sub x b)),h.asc⟩
   rcases List.mem_cons.1 (d.mem_iff.1 b) with rfl | b
   ·exact hf
   ·exact h.rng x b
theorem eQ.touch {a:Lr} (h:eQ a) (f:Int):eQ (dP a f):=by
 unfold dP
 split
 ·rename_i hh
  have i:f ∈ a.act ++ a.ina:=by simpa [eU] using hh
  split
  ·split
   ·rename_i hr hi
    have c:f ∉ a.act:=fun g=>(List.nodup_append.1 h.dup).2.2 f g f hi rfl;have j:bL a.act f=a.act:=by
     unfold bL;exact List.filter_eq_self.2 fun x b=>bne_iff_ne.2 fun e=>c (e ▸ b)
    have d:∀x,x ∈ (f :: a.act) ++ bL a.ina f↔x ∈ a.act ++ a.ina:=fun x=>by
     simp only[List.cons_append,qJ,List.mem_append,kD]
     constructor
     ·rintro (rfl | h | h)
      ·exact .inr hi
      ·exact .inl h
      ·exact .inr h.1
     ·rintro (h | h)
      ·exact .inr (.inl h)
      ·by_cases e:x=f
       ·exact .inl e
       ·exact .inr (.inr ⟨h,e⟩)
    refine ⟨fun x b=>h.rng x ((d x).1 b),?_,fun x b=>(d x).2 (h.sub x (kD.1 b).1),h.asc.sublist List.filter_sublist⟩
    show (f :: (a.act ++ bL a.ina f)).Nodup
    refine List.nodup_cons.2 ⟨fun b=>?_,?_⟩
    ·rcases List.mem_append.1 b with b | b
     ·exact c b
     ·exact (kD.1 b).2 rfl
    ·exact h.dup.sublist (List.Sublist.append (List.Sublist.refl _) List.filter_sublist)
   ·exact h
  ·rename_i hr
   exact ⟨h.rng,h.dup,fun x b=>by
    rcases iQ.1 b with rfl | b
    ·exact i
    ·exact h.sub x b,uG h.asc hr⟩
 ·exact h
theorem fY.set (h:fY L) {i:Nat} {g:Gr} (hg:1<=g.limit/\g.limit<=64/\0<=g.protect/\g.protect<=g.limit/\0<=g.charge/\g.charge<=64):fY (L.set i g):=
 ⟨fun x hx=>by
  rcases List.mem_or_eq_of_mem_set hx with hx | rfl
  ·exact h.each x hx
  ·exact hg,by rw [lL];exact h.pos,by rw [lL];exact h.few⟩
theorem fY.charge (h:fY L) {g:Gr} (hi:L[i]?=some g):fY (bB L i g 1).1:=by
 have hg:=h.each g (fF hi);unfold bB
 split
 ·exact h
 ·refine h.set ⟨hg.1,hg.2.1,hg.2.2.1,hg.2.2.2.1,by show 0<=g.charge+1;omega,by show g.charge+1<=64;omega⟩
theorem fY.uncharge (h:fY L) {g:Gr} (hi:L[i]?=some g):fY (bZ L i g 1).1:=by
 have hg:=h.each g (fF hi);unfold bZ
 split
 ·exact h
 ·refine h.set ⟨hg.1,hg.2.1,hg.2.2.1,hg.2.2.2.1,by show 0<=g.charge - 1;omega,by show g.charge - 1<=64;omega⟩
theorem zT {g:Gr} {n:Int}:(bB L i g n).1.length=L.length:=by unfold bB;split <;> simp
theorem vW {g:Gr} {n:Int}:(bZ L i g n).1.length=L.length:=by unfold bZ;split <;> simp
end
section
variable {F G Z:Nat}
theorem cj_ (L:List Zn):nP L=(L.map (fun z=>z.size)).foldl (fun n s=>n+s) 1:=by unfold nP;rw [List.foldl_map]
theorem ax_ {L:List Zn} (hi:L[i]?=some z) (fr:List Int) (k:Nat):nP ((L.set i {z with free:=fr}).take k)=nP (L.take k):=by
 rw [cj_,cj_,List.map_take,List.map_take,List.map_set];have a:=bK hi;have:(L.map (fun z=>z.size)).set i z.size=L.map (fun z=>z.size):=by
  refine List.ext_getElem? fun q=>?_;rw [List.getElem?_set]
  split
  ·rename_i e
   subst e;rw [if_pos (by simpa using a),gP_,hi]
   rfl
  ·rfl
 rw [show ({z with free:=fr}:Zn).size=z.size from rfl,this]
theorem wQ {L:List Zn} (hi:L[i]?=some z) (fr:List Int):nP (L.set i {z with free:=fr})=nP L:=by
 have:=ax_ hi fr L.length;rw [tL_ z_,tL_ (aQ _)] at this;exact this
theorem cC.free {L:List Zn} (h:cC L) (hi:L[i]?=some z) {fr:List Int} (hr:∀x ∈ fr,z.first<=x/\x<z.first+z.size) (ha:fr.Pairwise (·<·)):cC (L.set i {z with free:=fr}):=by
 refine ⟨by rw [lL];exact h.ne,fun k u a=>?_⟩;rw [ax_ hi];rw [List.getElem?_set] at a
 split at a
 ·rename_i e
  subst e
  split at a
  ·injection a with a
   subst a;have:=h.each i z hi;exact ⟨this.fst,this.sz,this.wm,hr,ha⟩
  ·cases a
 ·exact h.each k u a
structure fU_ (y:Fl):Prop where
 size:∃sz:Nat,y.size=sz/\sz<=128
 slot:∃s:Nat,y.slot=s/\s<7
 err:xH y.ecnt y.eerr
 st:jN y.blocks/\y.which=0/\y.seq=0/\y.ssize=0/\y.sseq=0
structure cE (F G Z:Nat) (C:Ck):Prop where
 few:1<=F/\F<=3/\1<=G/\G<=2/\1<=Z/\Z<=2
 nf:C.files.length=F
 nr:0<C.frames.length/\C.frames.length<=64
 ng:C.groups.length=G
 nl:C.lists.length=G
 nk:C.clocks.length=G
 nz:C.zones.length=Z
 ten:∀(i:Nat) (x:Fr),C.frames[i]?=some x->x.tenant<G
 file:∀(j:Nat) (y:Fl),C.files[j]?=some y->fU_ y
 frame:∀(i:Nat) (x:Fr),C.frames[i]?=some x->x.file=-1\/∃(j:Nat) (y:Fl),dE C i x j y/\D_ y.c x.page=(i:Int)+1
 find:∀(j:Nat) (y:Fl) (p:Int),C.files[j]?=some y->0<D_ y.c p->∃(i:Nat) (x:Fr),D_ y.c p=(i:Int)+1/\C.frames[i]?=some x/\x.file=j/\x.page=p
 free:∀(k:Nat) (z:Zn),C.zones[k]?=some z->∀f ∈ z.free,∃(i:Nat) (x:Fr),f=(i:Int)+1/\C.frames[i]?=some x/\x.file=-1
 zok:cC C.zones
 zsum:nP C.zones=(C.frames.length:Int)+1
 gok:fY C.groups
 lok:∀(t:Nat) (l:Lr),C.lists[t]?=some l->eQ l
 pok:eD C.ptes
theorem cE.ok (h:cE F G Z C):qK C:=
 ⟨by have:=h.nf;have:=h.few;omega,by have:=h.nr;omega,by have:=h.ng;have:=h.few;omega,by have:=h.nl;have:=h.few;omega,by have:=h.nk;have:=h.few;omega⟩
theorem cE.used (h:cE F G Z C) (hx:C.frames[i]?=some x) (hu:x.file≠-1):∃(j:Nat) (y:Fl),dE C i x j y/\D_ y.c x.page=(i:Int)+1:=by
 rcases h.frame i x hx with h | h
 ·exact absurd h hu
 ·exact h
theorem cE.findOk (h:cE F G Z C) (hj:C.files[j]?=some y):xI C j y:=fun p c=>by
 obtain ⟨i,x,h1,h2,h3,b⟩:=h.find j y p hj c;obtain ⟨d,y',a,_⟩:=h.used h2 (by rw [h3];omega);obtain rfl:d=j:=by have:=a.ix;rw [h3] at this;omega
 obtain rfl:y'=y:=aP (a.fl.symm.trans hj);exact ⟨i,x,h1,a,b⟩
structure jT (L L':List Fr):Prop where
 len:L'.length=L.length
 up:∀(i:Nat) (x:Fr),L'[i]?=some x->∃x0,L[i]?=some x0/\x0.file=x.file/\x0.page=x.page/\x0.tenant=x.tenant/\(x.file≠-1->fE x)
structure jS (L L':List Fl):Prop where
 len:L'.length=L.length
 up:∀(j:Nat) (y:Fl),L'[j]?=some y->∃y0,L[j]?=some y0/\(∀p,0<D_ y.c p\/0<D_ y0.c p->D_ y.c p=D_ y0.c p)/\fU_ y
theorem jT.dn {L L':List Fr} (h:jT L L') {x0:Fr} (hx:L[i]?=some x0):∃x,L'[i]?=some x/\x.file=x0.file/\x.page=x0.page:=by
 have hl:=bK hx;obtain ⟨x1,h1,h2,h3,_,_⟩:=h.up i _ (cU (by rw [h.len];exact hl));obtain rfl:x1=x0:=aP (h1.symm.trans hx);exact ⟨_,cU _,h2.symm,h3.symm⟩
theorem jS.dn {L L':List Fl} (h:jS L L') {y0:Fl} (hy:L[j]?=some y0):∃y,L'[j]?=some y/\(∀p,0<D_ y.c p\/0<D_ y0.c p->D_ y.c p=D_ y0.c p):=by
 have hl:=bK hy;obtain ⟨y1,h1,h2,_⟩:=h.up j _ (cU (by rw [h.len];exact hl));obtain rfl:y1=y0:=aP (h1.symm.trans hy);exact ⟨_,cU _,h2⟩
theorem cE.rel (h:cE F G Z C) (hr:jT C.frames C'.frames) (hf:jS C.files C'.files) (hz:C'.zones=C.zones) (hg:C'.groups=C.groups) (hn:C'.lists.length=G) (hk:C'.clocks.length=G) (hl:∀(t:Nat) (l:Lr),C'.lists[t]?=some l->eQ l) (hp:eD C'.ptes):cE F G Z C' where
 few:=h.few
 nf:=hf.len.trans h.nf
 nr:=by rw [hr.len];exact h.nr
 ng:=by rw [hg];exact h.ng
 nl:=hn
 nk:=hk
 nz:=by rw [hz];exact h.nz
 ten i x hx:=by
  obtain ⟨x0,h1,_,_,a,_⟩:=hr.up i x hx;rw [<-a];exact h.ten i x0 h1
 file j y hy:=by obtain ⟨_,_,_,h3⟩:=hf.up j y hy;exact h3
 frame i x hx:=by
  obtain ⟨x0,h1,h2,h3,_,a⟩:=hr.up i x hx
  rcases h.frame i x0 h1 with c | ⟨j,y,hu,hv⟩
  ·exact .inl (h2 ▸ c)
  ·refine .inr ?_;obtain ⟨y',m,n⟩:=hf.dn hu.fl;refine ⟨j,y',⟨hx,m,by rw [<-h2];exact hu.ix,a (by rw [<-h2,hu.ix];omega)⟩,?_⟩;rw [n _ (.inr (by rw [<-h3,hv];omega)),<-h3];exact hv
 find j y p hy hv:=by
  obtain ⟨r,h1,h2,_⟩:=hf.up j y hy;have b:=h2 p (.inl hv);rw [b] at hv ⊢;obtain ⟨i,x0,h3,a,c,o⟩:=h.find j r p h1 hv;obtain ⟨x,d,g,q⟩:=hr.dn a;exact ⟨i,x,h3,d,g.trans c,q.trans o⟩
 free k z hz' f hf':=by
  rw [hz] at hz';obtain ⟨i,x0,h1,h2,h3⟩:=h.free k z hz' f hf';obtain ⟨x,d,g,_⟩:=hr.dn h2;exact ⟨i,x,h1,d,g.trans h3⟩
 zok:=by rw [hz];exact h.zok
 zsum:=by rw [hz,hr.len];exact h.zsum
 gok:=by rw [hg];exact h.gok
 lok:=hl
 pok:=hp
theorem jT.refl (h:cE F G Z C):jT C.frames C.frames:=⟨rfl,fun i x hx=>⟨x,hx,rfl,rfl,rfl,fun hn=>by obtain ⟨_,_,hu,_⟩:=h.used hx hn;exact hu.ok⟩⟩
theorem jS.refl (h:cE F G Z C):jS C.files C.files:=⟨rfl,fun j y hy=>⟨y,hy,fun _ _=>rfl,h.file j y hy⟩⟩
theorem jT.set (h:cE F G Z C) {i:Nat} {x x':Fr} (hx:C.frames[i]?=some x) (h1:x'.file=x.file) (h2:x'.page=x.page) (h3:x'.tenant=x.tenant) (hk:fE x'):jT C.frames (C.frames.set i x'):=
 ⟨z_,fun k u a=>by
  rw [List.getElem?_set] at a
  split at a
  ·rename_i e
   subst e
   split at a
   ·injection a with a
    subst a;exact ⟨x,hx,h1.symm,h2.symm,h3.symm,fun _=>hk⟩
   ·cases a
  ·exact (jT.refl h).up k u a⟩
theorem jS.set (h:cE F G Z C) {y y':Fl} (hy:C.files[j]?=some y) (h1:∀p,0<D_ y'.c p\/0<D_ y.c p->D_ y'.c p=D_ y.c p) (hk:fU_ y'):jS C.files (C.files.set j y'):=
 ⟨z_,fun k u a=>by
  rw [List.getElem?_set] at a
  split at a
  ·rename_i e
   subst e
   split at a
   ·injection a with a
    subst a;exact ⟨y,hy,h1,hk⟩
   ·cases a
  ·exact (jS.refl h).up k u a⟩
theorem eE {c:Cn} {p:Int} (h:0<D_ c p):gG p=true/\0<(c p.toNat).1:=by
 unfold D_ at h
 split at h
 ·exact ⟨by assumption,h⟩
 ·omega
theorem cE.put (h:cE F G Z C) {y y':Fl} (hu:dE C i x j y) (h1:fE x') (h2:x'.file=x.file) (h3:x'.page=x.page) (ht:x'.tenant=x.tenant) (h4:y'.c=y.c) (h5:fU_ y') (ps:List Pt) (hp:eD ps):cE F G Z {eY C i j y' x' with ptes:=ps}:=by
 obtain ⟨f,b,a,hv⟩:=h.used hu.fr (by rw [hu.ix];omega);obtain rfl:f=j:=by have:=a.ix;rw [hu.ix] at this;omega
 obtain rfl:b=y:=aP (a.fl.symm.trans hu.fl);obtain ⟨d,hc⟩:=eE (c:=b.c) (p:=x.page) (by rw [hv];omega);refine h.rel (jT.set h hu.fr h2 h3 ht h1) ?_ rfl rfl h.nl h.nk h.lok hp;exact jS.set h hu.fl (fun p _=>by
  show D_ (aT y'.c x'.page _ _) p=_
  rw [h4,h3,dG d hc]) ⟨h5.size,h5.slot,h5.err,h5.st⟩
theorem cE.putQ (h:cE F G Z C) (hu:dE C i x j y) (hq:hV_ C i j x y C'):cE F G Z C':=by
 rcases hq with rfl | ⟨x',y',h1,_,h2,h3,h4,h5,h6,h8,h7,h9,h10,h11,h12,h13,rfl⟩
 ·exact h
 ·have a:=h.file j y hu.fl;exact h.put hu h1 h2 h3 h4 h5 ⟨by rw [h6];exact a.size,by rw [h8];exact a.slot,h7,h9 a.st.1,h10.trans a.st.2.1,h11.trans a.st.2.2.1,h12.trans a.st.2.2.2.1,h13.trans a.st.2.2.2.2⟩ C.ptes h.pok
theorem cE.putP (h:cE F G Z C) (hu:dE C i x j y) (hq:hU_ C i j x y C'):cE F G Z C':=h.putQ hu (hq.q (h.file j y hu.fl).err)
theorem cE.putB (h:cE F G Z C) (hu:dE C i x j y) (hq:jd_ C i j x y C'):cE F G Z C':=by
 rcases hq with rfl | ⟨x',h1,_,h2,h3,h4,rfl⟩
 ·exact h
 ·exact h.put hu h1 h2 h3 h4 rfl (h.file j y hu.fl) _ (h.pok.shut _)
theorem cE.acc (h:cE F G Z C) (hl:C.lists[t]?=some l):cE F G Z (zJ C t l i):=by
 refine h.rel (jT.refl h) (jS.refl h) rfl rfl (by show (C.lists.set _ _).length=G;rw [lL];exact h.nl) h.nk (fun k u a=>?_) h.pok
 show eQ u
 have a:(C.lists.set t (dP l ((i:Int)+1)))[k]?=some u:=a;rw [List.getElem?_set] at a
 split at a
 ·split at a
  ·injection a with a
   subst a;exact (h.lok t l hl).touch _
  ·cases a
 ·exact h.lok k u a
end
section
variable {F G Z:Nat}
theorem eK {L:List α} {a b:α} (h:(L.set i a)[k]?=some b):(k=i/\b=a)\/(k≠i/\L[k]?=some b):=by
 rw [List.getElem?_set] at h
 split at h
 ·rename_i e
  split at h
  ·injection h with h
   exact .inl ⟨e.symm,h.symm⟩
  ·cases h
 ·rename_i e
  exact .inr ⟨fun h=>e h.symm,h⟩
theorem bY {L:List α} {a b:α} (hk:k≠i) (h:L[k]?=some b):(L.set i a)[k]?=some b:=by rw [gN_ (fun e=>hk e.symm)];exact h
theorem w_ {L:List α} {a b:α} (h:L[i]?=some b):(L.set i a)[i]?=some a:=nU (bK h)
theorem dM {c:Cn} {q:Int} (hp:gG p=true):D_ (Z_ c p v).1 q=if q=p then v else D_ c q:=by
 unfold Z_;rw [if_pos hp];have d:=nV hp;unfold D_
 by_cases a:gG q=true
 ·have f:=nV a;rw [if_pos a,if_pos a]
  by_cases e:q=p
  ·subst e;simp [upd]
  ·have b:q.toNat≠p.toNat:=O_
   simp [upd,b,e]
 ·rw [if_neg a,if_neg a];rw [if_neg (fun e:q=p=>a (e ▸ hp))]
theorem mI (h:fE x):gG x.page=true:=by
 have:=h.page;unfold gG;simp;omega
theorem cE.two (h:cE F G Z C):(∃z0,C.zones=[z0]/\z0.first=1/\1+z0.size=(C.frames.length:Int)+1)\/∃z0 z1,C.zones=[z0,z1]/\z0.first=1/\z1.first=1+z0.size/\1+z0.size+z1.size=(C.frames.length:Int)+1:=by
 have hl:C.zones.length<=2:=by have:=h.nz;have:=h.few;omega
 have b:=h.zok.ne
 match hz:C.zones with
 | [z0,z1]=>
  have h0:=(h.zok.each 0 z0 (by rw [hz];rfl)).fst;have h1:=(h.zok.each 1 z1 (by rw [hz];rfl)).fst;have a:=h.zsum;rw [hz] at h0 h1 a;exact .inr ⟨z0,z1,rfl,h0,h1,a⟩
 | []=>rw [hz] at b;simp at b
 | [z0]=>
  have h0:=(h.zok.each 0 z0 (by rw [hz];rfl)).fst;have a:=h.zsum;rw [hz] at h0 a;exact .inl ⟨z0,rfl,h0,a⟩
 | _ :: _ :: _ :: _=>rw [hz] at hl;simp at hl
theorem cE.zone (h:cE F G Z C) (hi:i<C.frames.length):∃(k:Nat) (z:Zn),C.zones[k]?=some z/\z.first<=(i:Int)+1/\(i:Int)+1<z.first+z.size:=by
 rcases h.two with ⟨z0,hz,h0,hs⟩ | ⟨z0,z1,hz,h0,h1,hs⟩
 ·exact ⟨0,z0,by rw [hz];rfl,O_,O_⟩
 ·by_cases a:(i:Int)<z0.size
  ·exact ⟨0,z0,by rw [hz];rfl,O_,O_⟩
  ·exact ⟨1,z1,by rw [hz];rfl,O_,O_⟩
theorem cE.apart (h:cE F G Z C) {k':Nat} {z':Zn} (hk:C.zones[k]?=some z) (hk':C.zones[k']?=some z') (hne:k≠k') {f:Int} (h1:z.first<=f/\f<z.first+z.size) (h2:z'.first<=f/\f<z'.first+z'.size):False:=by
 rcases h.two with ⟨z0,hz,e0,hs⟩ | ⟨z0,z1,hz,e0,e1,hs⟩
 ·have hl:=bK hk;have a:=(List.getElem?_eq_some_iff.1 hk').1;rw [hz] at hl a;simp at hl a;omega
 ·rw [hz] at hk hk'
  match k,k',hk,hk',hne with
  | 0,1,hk,hk',_=>
   obtain rfl:z0=z:=by simpa using hk
   obtain rfl:z1=z':=by simpa using hk'
   omega
  | 1,0,hk,hk',_=>
   obtain rfl:z1=z:=by simpa using hk
   obtain rfl:z0=z':=by simpa using hk'
   omega
  | 0,0,_,_,hne=>exact absurd rfl hne
  | 1,1,_,_,hne=>exact absurd rfl hne
  | k+2,_,hk,_,_=>simp at hk
  | 0,k'+2,_,hk',_=>simp at hk'
  | 1,k'+2,_,hk',_=>simp at hk'
theorem cE.goneH (h:cE F G Z C) (hu:dE C i x j y):∃(t k:Nat) (l:Lr) (gp:Gr) (z:Zn) (clk:Int),zD C i t k x l gp z/\C.clocks[t]?=some clk:=by
 have a:=bK hu.fr;obtain ⟨k,z,c,h1,h2⟩:=h.zone a;have s:=hu.ok.tenant;obtain ⟨t,b⟩:∃t:Nat,x.tenant=t:=⟨x.tenant.toNat,O_⟩;have o:=h.ten i x hu.fr;have n:t<C.lists.length:=by rw [h.nl];omega
 have g:t<C.groups.length:=by rw [h.ng];omega
 have m:t<C.clocks.length:=by rw [h.nk];omega
 refine ⟨t,k,C.lists[t],C.groups[t],z,C.clocks[t],⟨b,cU _,h.lok t _ (cU _),cU _,h.gok,c,⟨h1,h2⟩,fun f=>?_,h.zok,h.pok,by have:=h.nr;omega⟩,cU _⟩;obtain ⟨p,x',q,d,r⟩:=h.free k z c _ f;obtain rfl:p=i:=O_
 obtain rfl:x'=x:=aP (d.symm.trans hu.fr);have:=hu.ix;omega
theorem dE.eq {j':Nat} {y':Fl} (h:dE C i x j y) (h':dE C i x' j' y'):x'=x/\j'=j/\y'=y:=by
 obtain rfl:x'=x:=aP (h'.fr.symm.trans h.fr);obtain rfl:j'=j:=by have:=h.ix;have:=h'.ix;omega
 exact ⟨rfl,rfl,aP (h'.fl.symm.trans h.fl)⟩
theorem cE.gone (h:cE F G Z C) (hu:dE C i x j y) (hg:zD C i t k x l gp z) (hv:v<=0) (cl:List Int) (hcl:cl.length=G):cE F G Z {mF C i j t k x y l gp z v with clocks:=cl}:=by
 obtain ⟨K,o,I,M⟩:=h.used hu.fr (by rw [hu.ix];omega);obtain ⟨_,rfl,rfl⟩:=hu.eq I;have L:=mI hu.ok;have J:x.file≠-1:=by rw [hu.ix];omega
 have H:=fun (d:Nat) (y':Fl) (g:C.files[d]?=some y')=>(show ∃n,(C.files.set K {o with c:=(Z_ o.c x.page v).1})[d]?=some n/\(∀p,(d=K->p≠x.page)->D_ n.c p=D_ y'.c p) from by
  by_cases e:d=K
  ·subst e;obtain rfl:y'=o:=aP (g.symm.trans hu.fl);exact ⟨_,w_ g,fun p q=>by show D_ (Z_ _ _ _).1 p=_;rw [dM L,if_neg (q rfl)]⟩
  ·exact ⟨y',bY e g,fun _ _=>rfl⟩)
 refine ⟨h.few,by show (C.files.set _ _).length=F;rw [lL];exact h.nf,⟨by show 0<(C.frames.set _ _).length;rw [lL];exact h.nr.1,by show (C.frames.set _ _).length<=64;rw [lL];exact h.nr.2⟩,(vW).trans h.ng,by show (C.lists.set _ _).length=G;rw [lL];exact h.nl,hcl,by show (C.zones.set _ _).length=Z;rw [lL];exact h.nz,fun b u a=>by
  rcases eK a with ⟨rfl,rfl⟩ | ⟨_,a⟩
  ·show (0:Int)<G;have:=h.few;omega
  ·exact h.ten b u a,fun d y' g=>?_,fun b x' E=>?_,fun d y' p g q=>?_,fun r s A f hf=>?_,?_,?_,h.gok.uncharge hg.grp,fun N l' hl=>?_,h.pok.drop _⟩
 ·rcases eK g with ⟨rfl,rfl⟩ | ⟨_,g⟩
  ·have:=h.file _ o hu.fl;exact ⟨this.size,this.slot,this.err,this.st⟩
  ·exact h.file d y' g
 ·rcases eK E with ⟨rfl,rfl⟩ | ⟨hne,E⟩
  ·exact .inl rfl
  ·rcases h.frame b x' E with he | ⟨d,y',a,hv'⟩
   ·exact .inl he
   ·obtain ⟨n,h1,h2⟩:=H d y' a.fl;refine .inr ⟨d,n,⟨bY hne E,h1,a.ix,a.ok⟩,?_⟩;rw [h2 _ (fun e q=>?_)]
    ·exact hv'
    ·subst e;obtain rfl:y'=o:=aP (a.fl.symm.trans hu.fl);rw [q] at hv';omega
 ·rcases eK g with ⟨rfl,rfl⟩ | ⟨hne,g⟩
  ·have m:0<D_ (Z_ o.c x.page v).1 p:=q
   show ∃(b:Nat) (x':Fr),D_ (Z_ o.c x.page v).1 p=_/\(C.frames.set i eI)[b]?=_/\_
   rw [dM L] at m ⊢
   by_cases e:p=x.page
   ·rw [if_pos e] at m;omega
   ·rw [if_neg e] at m ⊢;obtain ⟨b,x',h1,h2,h3,D⟩:=h.find d o p hu.fl m;refine ⟨b,x',h1,bY (fun w=>e ?_) h2,h3,D⟩;subst w;obtain rfl:x'=x:=aP (h2.symm.trans hu.fr);exact D.symm
  ·obtain ⟨b,x',h1,h2,h3,D⟩:=h.find d y' p g q;refine ⟨b,x',h1,bY (fun w=>hne ?_) h2,h3,D⟩;subst w;obtain rfl:x'=x:=aP (h2.symm.trans hu.fr);have:=hu.ix;omega
 ·show ∃(b:Nat) (x':Fr),_/\(C.frames.set i eI)[b]?=_/\_
  have old:∀(r:Nat) (s:Zn),C.zones[r]?=some s->f ∈ s.free->∃(b:Nat) (x':Fr),f=(b:Int)+1/\(C.frames.set i eI)[b]?=some x'/\x'.file=-1:=fun r s A hf=>by
   obtain ⟨b,x',h1,h2,h3⟩:=h.free r s A f hf;refine ⟨b,x',h1,bY (fun w=>J ?_) h2,h3⟩;subst w;obtain rfl:x'=x:=aP (h2.symm.trans hu.fr);exact h3
  rcases eK A with ⟨rfl,rfl⟩ | ⟨_,A⟩
  ·rcases iQ.1 hf with rfl | hf
   ·exact ⟨i,eI,rfl,w_ hu.fr,rfl⟩
   ·exact old r z hg.zon hf
  ·exact old r s A hf
 ·have B:=h.zok.each k z hg.zon;exact h.zok.free hg.zon (fun f hf=>by
   rcases iQ.1 hf with rfl | hf
   ·exact hg.zin
   ·exact B.rng f hf) (uG B.asc hg.zno)
 ·show nP (C.zones.set k _)=((C.frames.set i eI).length:Int)+1
  rw [wQ hg.zon,lL];exact h.zsum
 ·rcases eK hl with ⟨rfl,rfl⟩ | ⟨_,hl⟩
  ·exact hg.lok.rem _
  ·exact h.lok N l' hl
theorem cE.insert (h:cE F G Z C) {i j t k:Nat} {x0 x':Fr} {p:Int} (hy:C.files[j]?=some y) (hp:0<=p/\p<8) (hno:D_ y.c p<=0) (hk:C.zones[k]?=some z) (hz0:z.free.headD 0=(i:Int)+1) (hne:z.free≠[]) (hl:C.lists[t]?=some l) (hg:C.groups[t]?=some gp)
  (hx':fE x') (hxf:x'.file=j) (hxp:x'.page=p) (hxt:x'.tenant<G) (ac:Bool):cE F G Z {files:=C.files.set j {y with c:=(Z_ y.c p ((i:Int)+1)).1},frames:=C.frames.set i x',zones:=C.zones.set k {z with free:=z.free.drop 1},groups:=(bB C.groups t gp 1).1,lists:=C.lists.set t (jD l ((i:Int)+1) ac),clocks:=C.clocks,ptes:=C.ptes}:=by
 have O:gG p=true:=by unfold gG;simp;omega
 obtain ⟨E,M,m⟩:∃E M,z.free=E :: M:=by
  cases hf:z.free with
  | nil=>exact absurd hf hne
  | cons a l=>exact ⟨a,l,rfl⟩
 have S:E=(i:Int)+1:=by rw [m] at hz0;exact hz0
 obtain ⟨r,x0,V,K,W⟩:=h.free k z hk E (by rw [m];exact List.mem_cons_self ..);obtain rfl:r=i:=O_
 have U:=bK K;have o:=h.zok.each k z hk;have v:=o.asc;rw [m,List.pairwise_cons] at v;have Q:=fun (n:Nat) (y':Fl) (b:C.files[n]?=some y')=>(show ∃s,(C.files.set j {y with c:=(Z_ y.c p ((r:Int)+1)).1})[n]?=some s/\(∀q,(n=j->q≠p)->D_ s.c q=D_ y'.c q) from by
  by_cases e:n=j
  ·subst e;obtain rfl:y'=y:=aP (b.symm.trans hy);exact ⟨_,w_ hy,fun q H=>by show D_ (Z_ _ _ _).1 q=_;rw [dM O,if_neg (H rfl)]⟩
  ·exact ⟨y',bY e b,fun _ _=>rfl⟩)
 refine ⟨h.few,by show (C.files.set _ _).length=F;rw [lL];exact h.nf,⟨by show 0<(C.frames.set _ _).length;rw [lL];exact h.nr.1,by show (C.frames.set _ _).length<=64;rw [lL];exact h.nr.2⟩,(zT).trans h.ng,by show (C.lists.set _ _).length=G;rw [lL];exact h.nl,h.nk,by show (C.zones.set _ _).length=Z;rw [lL];exact h.nz,fun g u d=>by
  rcases eK d with ⟨rfl,rfl⟩ | ⟨_,d⟩
  ·exact hxt
  ·exact h.ten g u d,fun n y' b=>?_,fun g u J=>?_,fun n y' q b H=>?_,fun B D A f hf=>?_,?_,?_,h.gok.charge hg,fun R l' w=>?_,h.pok⟩
 ·rcases eK b with ⟨rfl,rfl⟩ | ⟨_,b⟩
  ·have:=h.file _ y hy;exact ⟨this.size,this.slot,this.err,this.st⟩
  ·exact h.file n y' b
 ·rcases eK J with ⟨rfl,rfl⟩ | ⟨hni,J⟩
  ·refine .inr ⟨j,_,⟨J,w_ hy,hxf,hx'⟩,?_⟩
   show D_ (Z_ y.c p _).1 u.page=_
   rw [dM O,if_pos hxp]
  ·rcases h.frame g u J with he | ⟨n,y',d,hv'⟩
   ·exact .inl he
   ·obtain ⟨s,h1,h2⟩:=Q n y' d.fl;refine .inr ⟨n,s,⟨bY hni J,h1,d.ix,d.ok⟩,?_⟩;rw [h2 _ (fun e H=>?_)]
    ·exact hv'
    ·subst e;obtain rfl:y'=y:=aP (d.fl.symm.trans hy);rw [H] at hv';omega
 ·rcases eK b with ⟨rfl,rfl⟩ | ⟨hnj,b⟩
  ·have x:0<D_ (Z_ y.c p ((r:Int)+1)).1 q:=H
   show ∃(g:Nat) (u:Fr),D_ (Z_ y.c p ((r:Int)+1)).1 q=_/\(C.frames.set r x')[g]?=_/\_
   rw [dM O] at x ⊢
   by_cases e:q=p
   ·rw [if_pos e];exact ⟨r,x',rfl,w_ K,hxf,hxp.trans e.symm⟩
   ·rw [if_neg e] at x ⊢;obtain ⟨g,u,h1,h2,h3,N⟩:=h.find n y q hy x;refine ⟨g,u,h1,bY (fun L=>?_) h2,h3,N⟩;subst L;obtain rfl:u=x0:=aP (h2.symm.trans K);omega
  ·obtain ⟨g,u,h1,h2,h3,N⟩:=h.find n y' q b H;refine ⟨g,u,h1,bY (fun L=>?_) h2,h3,N⟩;subst L;obtain rfl:u=x0:=aP (h2.symm.trans K);omega
 ·show ∃(g:Nat) (u:Fr),_/\(C.frames.set r x')[g]?=_/\_
  have old:∀(B:Nat) (D:Zn),C.zones[B]?=some D->f ∈ D.free->f≠E->∃(g:Nat) (u:Fr),f=(g:Int)+1/\(C.frames.set r x')[g]?=some u/\u.file=-1:=fun B D A hf P=>by
   obtain ⟨g,u,h1,h2,h3⟩:=h.free B D A f hf;exact ⟨g,u,h1,bY (fun L=>P O_) h2,h3⟩
  rcases eK A with ⟨rfl,rfl⟩ | ⟨hnk,A⟩
  ·have I:f ∈ M:=by
    have hf:f ∈ z.free.drop 1:=hf;rw [m] at hf;exact hf
   refine old B z hk (by rw [m];exact List.mem_cons_of_mem _ I) (fun e=>?_);have:=v.1 f I;omega
  ·refine old B D A hf (fun e=>?_);exact h.apart hk A (fun e=>hnk e.symm) (o.rng E (by rw [m];exact List.mem_cons_self ..)) (e ▸ (h.zok.each B D A).rng f hf)
 ·exact h.zok.free hk (fun f hf=>o.rng f (List.mem_of_mem_drop hf)) (o.asc.sublist (List.drop_sublist _ _))
 ·show nP (C.zones.set k _)=((C.frames.set r x').length:Int)+1
  rw [wQ hk,lL];exact h.zsum
 ·rcases eK w with ⟨rfl,rfl⟩ | ⟨_,w⟩
  ·exact (h.lok R l hl).add _ ⟨O_,by have:=h.nr;omega⟩ ac
  ·exact h.lok R l' w
end
end Go.Proofs.YtehfhnbpnaiogaaGreatDoor
