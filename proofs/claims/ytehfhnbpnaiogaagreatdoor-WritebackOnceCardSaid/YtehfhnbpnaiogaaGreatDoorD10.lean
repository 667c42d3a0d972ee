/-
  Lemmas and contracts for the laws of this seat, part 10; several texts joined by a program.
-/
import Derived.Test.YtehfhnbpnaiogaaGreatDoorD09
import Derived.Test.YtehfhnbpnaiogaaGreatDoorD00
namespace Go.Proofs.YtehfhnbpnaiogaaGreatDoor
set_option linter.unusedVariables false
set_option linter.unusedSimpArgs false
set_option maxRecDepth 100000
set_option maxHeartbeats 16000000
open Go.RowKit Go.Proofs.Tryz IntKind
variable {C C':Ck} {L:List Gr} {S:Nat->Prop} {a b c d e f g:Value} {gp:Gr} {i j n off t:Nat} {k:IntKind} {l:Lr} {s:Int} {w:World} {x:Fr} {y:Fl} {z zn:Zn}
section
theorem LlA.cells {A:Option Addr} {cap:Nat} {L:List Lr} (h:LA sJ w S (S_ A n cap) L) {x:Lr} (hi:L[i]?=some x):∃b o A1 n1 c1 A2 n2 c2 A3 n3 c3,A=some ⟨b,o,none⟩/\n=L.length/\b<w.heap.size/\tB w S (S_ A1 n1 c1) (S_ A2 n2 c2) (S_ A3 n3 c3) x/\
  w.cell? ⟨b,o+i*3,none⟩=some (S_ A1 n1 c1)/\w.cell? ⟨b,o+i*3+1,none⟩=some (S_ A2 n2 c2)/\w.cell? ⟨b,o+i*3+2,none⟩=some (S_ A3 n3 c3):=by
 obtain ⟨b,o,cap',r,hv,c1,c2,g,k,j,hc⟩:=h.at_ hi;injection hv with e1 e2 _
 obtain ⟨v1,v2,v3,rfl,a⟩:=j;obtain ⟨A1,n1,c,rfl⟩:=a.1.cap;obtain ⟨A2,n2,d,rfl⟩:=a.2.1.cap;obtain ⟨A3,n3,f,rfl⟩:=a.2.2.cap;exact ⟨b,o,A1,n1,c,A2,n2,d,A3,n3,f,e1,e2,g,a,hc 0 _ rfl,hc 1 _ rfl,hc 2 _ rfl⟩
def gV:Fr:=⟨-1,0,⟨⟨#[]⟩,0,0⟩,0,0,0,0⟩
def SK.tr2 (T:Nat->Prop) (d:Cn) (err:Int) {S:Nat->Prop} (hT:∀z,T z->S z):SK S:=⟨fun v w=>∃(h:Nat) (A:Option Addr) (cap:Nat),v = .tuple #[nY h A (j_ h d).kids.length cap (j_ h d).val (j_ h d).marks,I_ err]/\aM h d/\(j_ h d).kids.length<=cap/\NK w T A (j_ h d).kids,fun v w w' hb ⟨h,A,cap,h1,h2,h3,h4⟩=>⟨h,A,cap,h1,h2,h3,h4.kept hb.1 (fun z hz=>hb.2 z (hT z hz))⟩⟩
def SK.tr1 (T:Nat->Prop) (d:Cn) {S:Nat->Prop} (hT:∀z,T z->S z):SK S:=⟨fun v w=>∃(h:Nat) (A:Option Addr) (cap:Nat),v=nY h A (j_ h d).kids.length cap (j_ h d).val (j_ h d).marks/\aM h d/\(j_ h d).kids.length<=cap/\NK w T A (j_ h d).kids,fun v w w' hb ⟨h,A,cap,h1,h2,h3,h4⟩=>⟨h,A,cap,h1,h2,h3,h4.kept hb.1 (fun z hz=>hb.2 z (hT z hz))⟩⟩
def gI (C:Ck) (i j t k:Nat) (x:Fr) (y:Fl) (l:Lr) (gr:Gr) (z:Zn) (v:Int):Ck:=
 {files:=C.files.set j {y with c:=(bD y.c x.page v).1},frames:=C.frames.set i gV,zones:=C.zones.set k {z with free:=dX z.free ((i:Int)+1)},groups:=(cU C.groups t gr 1).1,lists:=C.lists.set t (oS l ((i:Int)+1)),clocks:=C.clocks,ptes:=gU C.ptes ((i:Int)+1)}
structure bo_ (C:Ck) (i t k:Nat) (x:Fr) (l:Lr) (gr:Gr) (z:Zn):Prop where
 ten:x.tenant=t
 lst:C.lists[t]?=some l
 lok:fH l
 grp:C.groups[t]?=some gr
 gok:gD C.groups
 zon:C.zones[k]?=some z
 zin:z.first<=(i:Int)+1/\(i:Int)+1<z.first+z.size
 zno:(i:Int)+1 ∉ z.free
 zok:cB C.zones
 pok:dZ C.ptes
 i64:i<64
theorem d4_ {k:Nat} (v:Int) (h:x_ w S a b c d e f g C) (hl:kT C) (hu:fG C i x j y) (hg:bo_ C i t k x l gp zn) (hS:∀z,w.heap.size<=z->S z) :
  C_ 156 #[bK a b c d e f g,I_ ((i:Int)+1),I_ v] w (wU (gI C i j t k x y l gp zn v) S w):=by
 obtain ⟨S1,s1,s2,s3⟩:=iA hS;replace h:=h.weak s3;clear s3;have da:=fun w' (hb:s_ w w')=>jV i x (h.step hb) hu.fr hl.frames.2;rw [hu.used] at da;obtain ⟨A1,af,rfl,q1,q2⟩:=h.files.form;obtain ⟨A2,aw,rfl,q3,q4⟩:=h.frames.form;obtain ⟨A3,m3,c3,A4,m4,c4,A5,m5,c5,A6,m6,c6,A7,m7,c7,rfl,rfl,rfl,rfl,rfl⟩:=x_.caps5 h;obtain ⟨bb,o,rfl,dk,y0,y1,y2,y3,y4,y5,y6,y7,y8⟩:=FrA.cells h.frames hu.fr;obtain ⟨bf,of,kt,KB,kc,rfl,d3,k1,k2,k3,k4,e0⟩:=FlA.cells h.files hu.fl;have br:=bI hu.fr;have d6:=bI hu.fl;have i2:(i:Int)<(C.frames.length:Int):=O_
 have e4:C.frames.length<=100:=hl.frames.2;have e3:C.files.length<=100:=hl.files.2;have j2:(j:Int)<(C.files.length:Int):=O_
 obtain ⟨H,HL,HU⟩:=eI h hl hu;clear h hl hu k1 k2 k3 k4;have GH:=H_ hg;clear hg da;go_enter func156,ntmps156
 go_upto_region 1 with fail
 generalize hW9:(w.alloc _).alloc _=W0;obtain ⟨HX,HR,HW,HZ⟩:=dJ hW9;clear hW9;obtain ⟨x0,x1,x2,x3,x4,x5,x6⟩:=T_ HX.out;have du:=kt9 (HW.block _ dk) y0 y1 y2 y3 y4 y5 y6 y7 y8;clear y0 y1 y2 y3 y4 y5 y6 y7 y8;obtain ⟨y0,y1,y2,y3,y4,y5,y6,y7,y8⟩:=du
 go_upto_region 2 with fail
 have bc:=H_ (l_ W0 (oF x) (w+1+1) HZ);have au:=H_ (m_ HX (oF x));have bh:=H_ (m_ HR (oF x));have aq:=H_ (a_ HW (oF x));have df:(W0.alloc (oF x)).heap.size=w.heap.size+1+1+1:=by simp [HZ]
 generalize W0.alloc (oF x)=W at bc au bh aq df;clear x0 x1 x2 x3 x4 x5 x6 y0 y1 y2 y3 y4 y5 y6 y7 y8;obtain ⟨x0,x1,x2,x3,x4,x5,x6⟩:=T_ au.out
 go_upto_region 3 with (go_at_call 21;(with_reducible refine CM (kY C _ _ _ _ _ _ _ S1 _ (H.out.step aq.out) HL.out (fun z hz=>s2 z (by omega))) ?_);rintro e w1 ⟨gf,nf,G,q,nr,J,c',d',s,nl,cl,gk,nk,ck,g',rfl,L,a5⟩;obtain ⟨P3,n3,r3,rfl⟩:=L.zones.cap;obtain ⟨P4,n4,r4,rfl⟩:=L.groups.cap;obtain ⟨P7,n7,r7,rfl⟩:=L.ptes.cap)
 obtain ⟨X,hX⟩:=bL w1.heap.size;obtain ⟨Sx,ag⟩:=bL (fun z=>S1 z/\z≠X);have bv:∀z,Sx z->S1 z/\z≠X:=fun z hz=>by rw [ag] at hz;exact hz
 have bp:w.heap.size+1+1<X/\W.heap.size<=X/\gk<X:=⟨by have:=a5.size;omega,by have:=a5.size;omega,by rw [hX];exact L.lt⟩;have dv:∀z,X<z->Sx z:=fun z hz=>by rw [ag];exact ⟨s2 z O_,O_⟩
 have dy:w.heap.size+1+1<gf/\gf<q/\q<s/\s<gk:=⟨by have:=L.o1;omega,L.o2,L.o3,L.o4⟩;have HT:=H_ (H.weak (S':=TS Sx gf q s gk) (fun z hz h=>⟨by rw [ag];exact ⟨h,O_⟩,O_,O_,O_,O_⟩));have V:=H_ (show eS (w1.alloc (.cells (D_ (o_ gf) nf G (o_ q) nr J P3 n3 r3 P4 n4 r4 (o_ s) nl cl (o_ gk) nk ck P7 n7 r7) 30)) Sx (W) gf nf G q nr J (S_ P3 n3 r3) (S_ P4 n4 r4) s nl cl gk nk ck (S_ P7 n7 r7) C by rw [ag];exact (L.but X O_).step (a_ B_ _));have ca:=H_ (l_ w1 (.cells (D_ (o_ gf) nf G (o_ q) nr J P3 n3 r3 P4 n4 r4 (o_ s) nl cl (o_ gk) nk ck P7 n7 r7) 30) X hX.symm);have bn:=H_ (m_ (h_ au a5) (.cells (D_ (o_ gf) nf G (o_ q) nr J P3 n3 r3 P4 n4 r4 (o_ s) nl cl (o_ gk) nk ck P7 n7 r7) 30));have cc:=H_ (m_ (h_ bh a5) (.cells (D_ (o_ gf) nf G (o_ q) nr J P3 n3 r3 P4 n4 r4 (o_ s) nl cl (o_ gk) nk ck P7 n7 r7) 30));have bw:=H_ (m_ (h_ bc a5) (.cells (D_ (o_ gf) nf G (o_ q) nr J P3 n3 r3 P4 n4 r4 (o_ s) nl cl (o_ gk) nk ck P7 n7 r7) 30));have bm:=H_ (a_ (e_ aq a5) (.cells (D_ (o_ gf) nf G (o_ q) nr J P3 n3 r3 P4 n4 r4 (o_ s) nl cl (o_ gk) nk ck P7 n7 r7) 30));have dm:(w1.alloc (.cells (D_ (o_ gf) nf G (o_ q) nr J P3 n3 r3 P4 n4 r4 (o_ s) nl cl (o_ gk) nk ck P7 n7 r7) 30)).heap.size=X+1:=by simp [hX]
 rw [<-hX];generalize w1.alloc (.cells (D_ (o_ gf) nf G (o_ q) nr J P3 n3 r3 P4 n4 r4 (o_ s) nl cl (o_ gk) nk ck P7 n7 r7) 30)=W3 at V ca bn cc bw bm dm;have ah:∀w':World,X+1<=w'.heap.size->∀z,w'.heap.size<=z->TS Sx gf q s gk z:=fun w' ec z hz=>⟨dv z O_,O_,O_,O_,O_⟩;have e6:j<nf/\nf<=1000:=⟨by rw [<-V.ef];exact d6,by rw [<-V.ef];omega⟩;have e8:i<nr/\nr<=1000:=⟨by rw [<-V.er];exact br,by rw [<-V.er];omega⟩;have bt:=bI GH.lst;have e7:t<nl/\nl<=1000:=⟨by rw [<-V.el];exact bt,by rw [<-V.el];have:=HL.lists.2;omega⟩;have nX:¬Sx X:=fun hz=>(bv _ hz).2 rfl;clear hX ag L a5 au bh bc aq x0 x1 x2 x3 x4 x5 x6;obtain ⟨x0,x1,x2,x3,x4,x5,x6⟩:=T_ bn.out;have dl:=hs_ ((i:Int)+1) (HT.ptes.step bm.out) GH.pok (ah W3 O_)
 go_upto_region 4 with (go_at_call 198;(with_reducible refine CM dl ?_);rintro e w4 ⟨pv,rfl,bs,a1⟩;obtain ⟨Q,R,U,rfl⟩:=bs.cap;have ak:=H_ (V.step (a1));have an:=H_ (h_ ca (a1));have cd:=H_ (h_ cc (a1));have bx:=H_ (h_ bw (a1));have cp:=H_ (h_ bn (a1));have cj:=H_ (e_ bm (a1));have dd:=H_ bs;have e9:=a1.size;have o6:=b_ an 6;have ds:=t_ an 6;clear bs a1)
 have a4:=H_ (show (w4.setCell ⟨X,6,none⟩ (S_ Q R U)).heap[X]?=some (.cells (D_ (o_ gf) nf G (o_ q) nr J P3 n3 r3 P4 n4 r4 (o_ s) nl cl (o_ gk) nk ck Q R U) 30 (0,0)) from W_ an _);have bi:=H_ ((iH w4 ⟨X,6,none⟩ (S_ Q R U) (w+1) (by show w.heap.size+1≠X;omega)).trans cd.out);have ab:=H_ ((iH w4 ⟨X,6,none⟩ (S_ Q R U) (w+1+1) (by show w.heap.size+1+1≠X;omega)).trans bx.out);have ae:=H_ ((iH w4 ⟨X,6,none⟩ (S_ Q R U) (w) (by show w.heap.size≠X;omega)).trans cp.out);have Z:=H_ (aT cj ⟨X,6,none⟩ (S_ Q R U) (by show w.heap.size<=X;omega));have b9:=H_ ((ak.with_ ak.zones ak.groups dd).setCellX X 6 (S_ Q R U) nX bp.2.2);have d7:X+1<=(w4.setCell ⟨X,6,none⟩ (S_ Q R U)).heap.size:=by simp [World.setCell];omega
 generalize w4.setCell ⟨X,6,none⟩ (S_ Q R U)=W5 at b9 a4 ae bi ab Z d7;clear x0 x1 x2 x3 x4 x5 x6 o6 ds;obtain ⟨x0,x1,x2,x3,x4,x5,x6⟩:=T_ ae.out;obtain ⟨f0,f1,f2,f3,f4,f5,f6,f7,f8⟩:=iQ ab.out;have o0:=b_ a4 0;have o1:=b_ a4 1;have o4:=b_ a4 4;simp only[zl] at o0 o1 o4;rw [HU.ix] at f0;rw [GH.ten] at f5;have a7:=n_ ae;have N:=n_ ab;have a6:=n_ a4;obtain ⟨bl,ol,E1,u1,v1,E2,u2,v2,E3,u3,v3,cu,cw,a8,hA,l0,l1,l2⟩:=LlA.cells HT.lists GH.lst;rw [cu,cw] at x4;have HA:=H_ hA;clear hA cu cw;have M:bl<W5:=gX a8 Z.size;replace l0:=(g_ (Z.block _ a8)).trans l0;replace l1:=(g_ (Z.block _ a8)).trans l1;replace l2:=(g_ (Z.block _ a8)).trans l2;have e5:C.lists.length<=100:=HL.lists.2
 go_cut [] (fun wx=>eS wx Sx (W) gf nf G q nr J (S_ P3 n3 r3) (S_ P4 n4 r4) s nl cl gk nk ck (S_ Q R U) (⟨C.files,C.frames,C.zones,C.groups,C.lists.set t (oS l ((i:Int)+1)),C.clocks,gU C.ptes ((i:Int)+1)⟩:Ck)/\bA wx X (D_ (o_ gf) nf G (o_ q) nr J P3 n3 r3 P4 n4 r4 (o_ s) nl cl (o_ gk) nk ck Q R U) 30/\wx.heap[w.heap.size+1]?=some (bM)/\wx.heap[w.heap.size+1+1]?=some (oF x)/\bA wx (w) (D_ (some ⟨bf,of,none⟩) C.files.length af (some ⟨bb,o,none⟩) C.frames.length aw A3 m3 c3 A4 m4 c4 A5 m5 c5 A6 m6 c6 A7 m7 c7) 30/\s_ w wx)
 case first=>
  refine aR (S:=TS Sx gf q s gk) 82 16 (inL [0,1,2,3,4,5,6,7,8,9,10,11,12,13,15]) (fun wx=>eS wx Sx (W) gf nf G q nr J (S_ P3 n3 r3) (S_ P4 n4 r4) s nl cl gk nk ck (S_ Q R U) (⟨C.files,C.frames,C.zones,C.groups,C.lists.set t (oS l ((i:Int)+1)),C.clocks,gU C.ptes ((i:Int)+1)⟩:Ck)/\bA wx X (D_ (o_ gf) nf G (o_ q) nr J P3 n3 r3 P4 n4 r4 (o_ s) nl cl (o_ gk) nk ck Q R U) 30/\wx.heap[w.heap.size+1]?=some (bM)/\wx.heap[w.heap.size+1+1]?=some (oF x)/\bA wx (w) (D_ (some ⟨bf,of,none⟩) C.files.length af (some ⟨bb,o,none⟩) C.frames.length aw A3 m3 c3 A4 m4 c4 A5 m5 c5 A6 m6 c6 A7 m7 c7) 30/\s_ w wx) [SK.eq (.pointer (some ⟨X,4,none⟩)),SK.eq (S_ (some ⟨s,0,none⟩) nl cl),SK.eq (.pointer (some ⟨w+1+1,5,none⟩)),SK.eq (I_ (t:Int)),SK.eq (.pointer (some ⟨w,4,none⟩)),SK.eq (S_ (some ⟨bl,ol,none⟩) C.lists.length c5),SK.eq (.pointer (some ⟨w+1+1,5,none⟩)),SK.eq (I_ (t:Int)),SK.eq (.pointer (some ⟨bl,ol+t*3,none⟩)),SK.eq (.agg #[S_ E1 u1 v1,S_ E2 u2 v2,S_ E3 u3 v3]),SK.eq (I_ ((i:Int)+1)),SK.lr2 (TS Sx gf q s gk) (oS l ((i:Int)+1)) (if gK l ((i:Int)+1)=true then 0 else 4) (fun _ h=>h),SK.lr2 (TS Sx gf q s gk) (oS l ((i:Int)+1)) (if gK l ((i:Int)+1)=true then 0 else 4) (fun _ h=>h),SK.lr (TS Sx gf q s gk) (oS l ((i:Int)+1)) (fun _ h=>h),SK.eq (I_ (if gK l ((i:Int)+1)=true then 0 else 4)),SK.eq (.pointer (some ⟨s,t*3,none⟩)),SK.any] q_ q_ rfl (fun _=>trivial) ?_;refine qP fun v0=>?_;simp only[ly];refine c_ rfl rfl (fun xw r u K A=>?_) (fun v1=>?_)
  ·obtain rfl:v0=_:=u 0 q_;have m:s_ W5 xw:=r;have u0:=(m.cell (p:=⟨X,_,none⟩) a6).trans o4;go_simp;exact A _ _ r K_ rfl
  simp only[ly];refine qP fun v2=>?_;simp only[ly];refine c_ rfl rfl (fun xw r u K A=>?_) (fun v3=>?_)
  ·obtain rfl:v2=_:=u 2 q_;have m:s_ W5 xw:=r;have u0:=(m.cell (p:=⟨w+1+1,_,none⟩) N).trans f5;go_simp;exact A _ _ r K_ rfl
  simp only[ly];refine qP fun v4=>?_;simp only[ly];refine c_ rfl rfl (fun xw r u K A=>?_) (fun v5=>?_)
  ·obtain rfl:v4=_:=u 4 q_;have m:s_ W5 xw:=r;have u0:=(m.cell (p:=⟨w,_,none⟩) a7).trans x4;go_simp;exact A _ _ r K_ rfl
  simp only[ly];refine qP fun v6=>?_;simp only[ly];refine c_ rfl rfl (fun xw r u K A=>?_) (fun v7=>?_)
  ·obtain rfl:v6=_:=u 6 q_;have m:s_ W5 xw:=r;have u0:=(m.cell (p:=⟨w+1+1,_,none⟩) N).trans f5;go_simp;exact A _ _ r K_ rfl
  simp only[ly];refine qP fun v8=>?_;simp only[ly];refine c_ rfl rfl (fun xw r u K A=>?_) (fun v9=>?_)
  ·obtain rfl:v8=_:=u 8 q_;have m:s_ W5 xw:=r;have u0:=(m.cell (p:=⟨bl,_,none⟩) M).trans l0;have u1:=(m.cell (p:=⟨bl,_,none⟩) M).trans l1;have u2:=(m.cell (p:=⟨bl,_,none⟩) M).trans l2;go_simp;exact A _ _ r K_ rfl
  simp only[ly];refine qP fun v10=>?_;simp only[ly];refine c_ rfl rfl (fun xw r u K A=>?_) (fun v11=>?_)
  ·obtain rfl:v9=_:=u 9 q_;obtain rfl:v10=_:=u 10 q_;have m:s_ W5 xw:=r;go_simp
   go_at_call 199
   refine (eS_ ((i:Int)+1) (HA.step (e_ Z.out m)) GH.lok ⟨O_,by have:=GH.i64;omega⟩ (ah _ (eF d7 m.size))).mono ?_;rintro e w1 ⟨q1,q2,q3,rfl,hA,hb⟩;exact A _ _ (e_ m hb) (r_.of_below hb) ⟨q1,q2,q3,rfl,hA⟩
  simp only[ly];refine c_ rfl rfl (fun xw r u K A=>?_) (fun v12=>?_)
  ·obtain ⟨q1,q2,q3,e,hA⟩:=u 11 q_;obtain rfl:v11=_:=e;go_simp;exact A _ _ r K_ ⟨q1,q2,q3,rfl,hA⟩
  simp only[ly];refine c_ rfl rfl (fun xw r u K A=>?_) (fun v13=>?_)
  ·obtain ⟨q1,q2,q3,e,hA⟩:=u 12 q_;obtain rfl:v12=_:=e;go_simp;exact A _ _ r K_ ⟨q1,q2,q3,rfl,hA⟩
  simp only[ly];refine Z_ rfl (fun w=>r_.refl w) (fun xw u K A=>?_) (fun v14=>?_)
  ·obtain ⟨q1,q2,q3,e,hA⟩:=u 12 q_;obtain rfl:v12=_:=e;go_simp;exact A _ rfl
  simp only[ly];refine qP fun v15=>?_;simp only[ly];refine z_ (fun xw r u K A=>?_) (fun v16=>?_)
  ·obtain rfl:v15=_:=u 15 q_;obtain ⟨q1,q2,q3,e,hA⟩:=u 13 q_;obtain rfl:v13=_:=e;have m:s_ W5 xw:=r;obtain ⟨B1,j1,dh,rfl⟩:=hA.1.cap;obtain ⟨B2,dp,di,rfl⟩:=hA.2.1.cap;obtain ⟨B3,j3,dj,rfl⟩:=hA.2.2.cap;have P:=b9.step m;have ax:=LW.there P.lists (i:=t) bt (p:=0) (n:=3) O_;rw [Nat.add_zero] at ax;refine aS (ops:=#[]) rfl (nK rfl 119 (.tmp 37) (.tmp 35) rfl s (t*3) #[S_ B1 j1 dh,S_ B2 dp di,S_ B3 j3 dj] rfl rfl ax dD (rF) ?_);refine A undef _ ⟨P.putLists (L_ xw s (t*3) _) (P.lists.set bt ⟨_,_,_,rfl,hA⟩) A_,?_,?_,?_,?_,?_⟩ (r_.of_setCells _ _ _ _ (fun h=>h.2.2.2.1 rfl)) trivial
   ·exact (v_ s _ (t*3) xw X O_).trans (h_ a4.out m)
   ·exact (v_ s _ (t*3) xw (w+1) O_).trans (h_ bi.out m)
   ·exact (v_ s _ (t*3) xw (w+1+1) O_).trans (h_ ab.out m)
   ·exact (v_ s _ (t*3) xw (w) O_).trans (h_ ae.out m)
   ·exact aY (e_ Z.out m) O_ _ _
  simp only[ly];refine G_ ?_;intro wz hD hG;clear hG;go_wp2;go_meet
  case rel=>exact hD
 case rest=>
  clear M l0 l1 l2 b9 a4 ae bi ab Z ak an cp cd bx cj;clear x0 x1 x2 x3 x4 x5 x6 f0 f1 f2 f3 f4 f5 f6 f7 f8 o0 o1 o4 a7 N a6;obtain ⟨cx,cz,d0,cy,d2,d1⟩:=hcut;obtain ⟨P,ac,de,bd,bo,cm⟩:=h6_ cx cz d0 cy d2 d1;clear cx cz d0 cy d2 d1;obtain ⟨x0,x1,x2,x3,x4,x5,x6⟩:=T_ bo.out;obtain ⟨f0,f1,f2,f3,f4,f5,f6,f7,f8⟩:=iQ bd.out;have o0:=b_ ac 0;have o1:=b_ ac 1;have o4:=b_ ac 4;simp only[zl] at o0 o1 o4;rw [HU.ix] at f0;rw [GH.ten] at f5;have a7:=n_ bo;have N:=n_ bd;have a6:=n_ ac;have d9:=bl_ t gp 1 (HT.groups.step cm.out) GH.grp GH.gok ⟨O_,O_⟩ (ah wc O_)
  go_upto_region 6 with (go_at_call 200;(with_reducible refine CM d9 ?_);rintro e w7 ⟨gv,rfl,bq,a2⟩;obtain ⟨P9,n9,r9,rfl⟩:=bq.cap;have al:=H_ (P.step (a2));have ao:=H_ (h_ ac (a2));have ce:=H_ (h_ de (a2));have bz:=H_ (h_ bd (a2));have cq:=H_ (h_ bo (a2));have cn:=H_ (e_ cm (a2));have c2:=H_ bq;have ea:=a2.size;have o3:=b_ ao 3;have dr:=t_ ao 3;clear bq a2)
  have bg:=H_ (show (w7.setCell ⟨X,3,none⟩ (S_ P9 n9 r9)).heap[X]?=some (.cells (D_ (o_ gf) nf G (o_ q) nr J P3 n3 r3 P9 n9 r9 (o_ s) nl cl (o_ gk) nk ck Q R U) 30 (0,0)) from W_ ao _);have bj:=H_ ((iH w7 ⟨X,3,none⟩ (S_ P9 n9 r9) (w+1) (by show w.heap.size+1≠X;omega)).trans ce.out);have be:=H_ ((iH w7 ⟨X,3,none⟩ (S_ P9 n9 r9) (w+1+1) (by show w.heap.size+1+1≠X;omega)).trans bz.out);have av:=H_ ((iH w7 ⟨X,3,none⟩ (S_ P9 n9 r9) (w) (by show w.heap.size≠X;omega)).trans cq.out);have ar:=H_ (aT cn ⟨X,3,none⟩ (S_ P9 n9 r9) (by show w.heap.size<=X;omega));have ba:=H_ ((al.with_ al.zones c2 al.ptes).setCellX X 3 (S_ P9 n9 r9) nX bp.2.2);have d8:X+1<=(w7.setCell ⟨X,3,none⟩ (S_ P9 n9 r9)).heap.size:=by simp [World.setCell];omega
  generalize w7.setCell ⟨X,3,none⟩ (S_ P9 n9 r9)=W8 at ba bg av bj be ar d8;clear x0 x1 x2 x3 x4 x5 x6 f0 f1 f2 f3 f4 f5 f6 f7 f8 o0 o1 o4 o3 dr a7 N a6 d9 al ao cq ce bz cn c2;obtain ⟨x0,x1,x2,x3,x4,x5,x6⟩:=T_ av.out;have d5:=hv_ k zn ((i:Int)+1) (HT.zones.step ar.out) GH.zon GH.zin GH.zno GH.zok (ah W8 O_)
  go_upto_region 7 with (go_at_call 201;(with_reducible refine CM d5 ?_);rintro e w9 ⟨zv,rfl,bu,a3⟩;obtain ⟨B,D,E,rfl⟩:=bu.cap;have am:=H_ (ba.step (a3));have ap:=H_ (h_ bg (a3));have cg:=H_ (h_ bj (a3));have c0:=H_ (h_ be (a3));have cs:=H_ (h_ av (a3));have co:=H_ (e_ ar (a3));have c8:=H_ bu;have eb:=a3.size;have o2:=b_ ap 2;have dq:=t_ ap 2;clear bu a3)
  have F:=H_ (show (w9.setCell ⟨X,2,none⟩ (S_ B D E)).heap[X]?=some (.cells (D_ (o_ gf) nf G (o_ q) nr J B D E P9 n9 r9 (o_ s) nl cl (o_ gk) nk ck Q R U) 30 (0,0)) from W_ ap _);have ad:=H_ ((iH w9 ⟨X,2,none⟩ (S_ B D E) (w+1) (by show w.heap.size+1≠X;omega)).trans cg.out);have Y:=H_ ((iH w9 ⟨X,2,none⟩ (S_ B D E) (w+1+1) (by show w.heap.size+1+1≠X;omega)).trans c0.out);have a0:=H_ ((iH w9 ⟨X,2,none⟩ (S_ B D E) (w) (by show w.heap.size≠X;omega)).trans cs.out);have O:=H_ (aT co ⟨X,2,none⟩ (S_ B D E) (by show w.heap.size<=X;omega));have a9:=H_ ((am.with_ c8 am.groups am.ptes).setCellX X 2 (S_ B D E) nX bp.2.2);have ai:X+1<=(w9.setCell ⟨X,2,none⟩ (S_ B D E)).heap.size:=by simp [World.setCell];omega
  generalize w9.setCell ⟨X,2,none⟩ (S_ B D E)=I at a9 F a0 ad Y O ai;clear x0 x1 x2 x3 x4 x5 x6 o2 dq d5 am ap cs cg c0 co c8;obtain ⟨x0,x1,x2,x3,x4,x5,x6⟩:=T_ a0.out;obtain ⟨f0,f1,f2,f3,f4,f5,f6,f7,f8⟩:=iQ Y.out;have o0:=b_ F 0;have o1:=b_ F 1;have o4:=b_ F 4;simp only[zl] at o0 o1 o4;rw [HU.ix] at f0;rw [GH.ten] at f5;have a7:=n_ a0;have N:=n_ Y;have a6:=n_ F;obtain ⟨dg,dt,aj,ct,db,cv,d4,k1,k2,k3,k4,b7⟩:=FlA.cells HT.files HU.fl;obtain ⟨rfl,rfl⟩:bf=dg/\of=dt:=by injection cv with e;injection e with e1 e2;exact ⟨e1,e2⟩
  obtain ⟨-,-,z2,z3,z4,z5,-⟩:=zc (O.block _ d3) b7;have M:bf<I:=gX d3 O.size;have dc:=H_ k1;have b8:=fun w' (hb:s_ I w')=>bb_ db x.page v k1 k2 k3 (k4.step (e_ O hb)) (ah w' (eF ai hb.size));clear b7 cv d4 k1 k2 k3 k4
  go_cut [] (fun wx=>eS wx Sx (W) gf nf G q nr J (S_ B D E) (S_ P9 n9 r9) s nl cl gk nk ck (S_ Q R U) (⟨C.files.set j ⟨y.dev,y.slot,(bD y.c x.page v).1,y.size,y.blocks,y.ecnt,y.eerr,y.sseq,y.ssize,y.sblocks,y.which,y.seq⟩,C.frames,C.zones.set k ⟨zn.first,zn.size,zn.mn,zn.low,zn.high,dX zn.free ((i:Int)+1)⟩,(cU C.groups t gp 1).1,C.lists.set t (oS l ((i:Int)+1)),C.clocks,gU C.ptes ((i:Int)+1)⟩:Ck)/\bA wx X (D_ (o_ gf) nf G (o_ q) nr J B D E P9 n9 r9 (o_ s) nl cl (o_ gk) nk ck Q R U) 30/\wx.heap[w.heap.size+1]?=some (bM)/\wx.heap[w.heap.size+1+1]?=some (oF x)/\bA wx (w) (D_ (some ⟨bf,of,none⟩) C.files.length af (some ⟨bb,o,none⟩) C.frames.length aw A3 m3 c3 A4 m4 c4 A5 m5 c5 A6 m6 c6 A7 m7 c7) 30/\s_ w wx)
  case first=>
   refine aR (S:=TS Sx gf q s gk) 82 20 (inL [0,1,2,3,4,5,6,7,8,9,10,11,12,13,14,15,16,18,19]) (fun wx=>eS wx Sx (W) gf nf G q nr J (S_ B D E) (S_ P9 n9 r9) s nl cl gk nk ck (S_ Q R U) (⟨C.files.set j ⟨y.dev,y.slot,(bD y.c x.page v).1,y.size,y.blocks,y.ecnt,y.eerr,y.sseq,y.ssize,y.sblocks,y.which,y.seq⟩,C.frames,C.zones.set k ⟨zn.first,zn.size,zn.mn,zn.low,zn.high,dX zn.free ((i:Int)+1)⟩,(cU C.groups t gp 1).1,C.lists.set t (oS l ((i:Int)+1)),C.clocks,gU C.ptes ((i:Int)+1)⟩:Ck)/\bA wx X (D_ (o_ gf) nf G (o_ q) nr J B D E P9 n9 r9 (o_ s) nl cl (o_ gk) nk ck Q R U) 30/\wx.heap[w.heap.size+1]?=some (bM)/\wx.heap[w.heap.size+1+1]?=some (oF x)/\bA wx (w) (D_ (some ⟨bf,of,none⟩) C.files.length af (some ⟨bb,o,none⟩) C.frames.length aw A3 m3 c3 A4 m4 c4 A5 m5 c5 A6 m6 c6 A7 m7 c7) 30/\s_ w wx) [SK.eq (P_ X),SK.eq (S_ (some ⟨gf,0,none⟩) nf G),SK.eq (P_ (w+1+1)),SK.eq (I_ (j:Int)),SK.eq (P_ (w)),SK.eq (S_ (some ⟨bf,of,none⟩) C.files.length af),SK.eq (P_ (w+1+1)),SK.eq (I_ (j:Int)),SK.eq (.pointer (some ⟨bf,of+j*15,none⟩)),SK.eq (.pointer (some ⟨bf,of+j*15+2,none⟩)),SK.eq (.agg #[I_ aj,S_ ct (j_ aj y.c).kids.length db,I_ (j_ aj y.c).val,I_ (j_ aj y.c).marks]),SK.eq (.pointer (some ⟨w+1+1,1,none⟩)),SK.eq (I_ x.page),SK.eq (I_ v),SK.tr2 (TS Sx gf q s gk) (bD y.c x.page v).1 (bD y.c x.page v).2 (fun _ h=>h),SK.tr2 (TS Sx gf q s gk) (bD y.c x.page v).1 (bD y.c x.page v).2 (fun _ h=>h),SK.tr1 (TS Sx gf q s gk) (bD y.c x.page v).1 (fun _ h=>h),SK.eq (I_ (bD y.c x.page v).2),SK.eq (.pointer (some ⟨gf,j*15,none⟩)),SK.eq (.pointer (some ⟨gf,j*15+2,none⟩)),SK.any] q_ q_ rfl (fun _=>trivial) ?_
   refine qP fun v0=>?_;simp only[ly];refine c_ rfl rfl (fun xw r u K A=>?_) (fun v1=>?_)
   ·obtain rfl:v0=_:=u 0 q_;have m:s_ I xw:=r;have u0:=(m.cell (p:=⟨X,_,none⟩) a6).trans o0;go_simp;exact A _ _ r K_ rfl
   simp only[ly];refine qP fun v2=>?_;simp only[ly];refine c_ rfl rfl (fun xw r u K A=>?_) (fun v3=>?_)
   ·obtain rfl:v2=_:=u 2 q_;have m:s_ I xw:=r;have u0:=(m.cell (p:=⟨w+1+1,_,none⟩) N).trans f0;go_simp;exact A _ _ r K_ rfl
   simp only[ly];refine qP fun v4=>?_;simp only[ly];refine c_ rfl rfl (fun xw r u K A=>?_) (fun v5=>?_)
   ·obtain rfl:v4=_:=u 4 q_;have m:s_ I xw:=r;have u0:=(m.cell (p:=⟨w,_,none⟩) a7).trans x0;go_simp;exact A _ _ r K_ rfl
   simp only[ly];refine qP fun v6=>?_;simp only[ly];refine c_ rfl rfl (fun xw r u K A=>?_) (fun v7=>?_)
   ·obtain rfl:v6=_:=u 6 q_;have m:s_ I xw:=r;have u0:=(m.cell (p:=⟨w+1+1,_,none⟩) N).trans f0;go_simp;exact A _ _ r K_ rfl
   simp only[ly];refine qP fun v8=>qP fun v9=>?_;simp only[ly];refine c_ rfl rfl (fun xw r u K A=>?_) (fun v10=>?_)
   ·obtain rfl:v9=_:=u 9 q_;have m:s_ I xw:=r;have u0:=(m.cell (p:=⟨bf,_,none⟩) M).trans z2;have u1:=(m.cell (p:=⟨bf,_,none⟩) M).trans z3;have u2:=(m.cell (p:=⟨bf,_,none⟩) M).trans z4;have u3:=(m.cell (p:=⟨bf,_,none⟩) M).trans z5;go_simp;exact A _ _ r K_ rfl
   simp only[ly];refine qP fun v11=>?_;simp only[ly];refine c_ rfl rfl (fun xw r u K A=>?_) (fun v12=>?_)
   ·obtain rfl:v11=_:=u 11 q_;have m:s_ I xw:=r;have u0:=(m.cell (p:=⟨w+1+1,_,none⟩) N).trans f1;go_simp;exact A _ _ r K_ rfl
   simp only[ly];refine qP fun v13=>?_;simp only[ly];refine c_ rfl rfl (fun xw r u K A=>?_) (fun v14=>?_)
   ·obtain rfl:v10=_:=u 10 q_;obtain rfl:v12=_:=u 12 q_;obtain rfl:v13=_:=u 13 q_;have m:s_ I xw:=r;go_simp
    go_at_call 134
    refine (b8 xw m).mono ?_;rintro e w1 ⟨h1,A1,p1,rfl,t1,c1,n1,hb⟩;exact A _ _ (e_ m hb) (r_.of_below hb) ⟨h1,A1,p1,rfl,t1,c1,n1⟩
   simp only[ly];refine c_ rfl rfl (fun xw r u K A=>?_) (fun v15=>?_)
   ·obtain ⟨h1,A1,p1,e,t1,c1,n1⟩:=u 14 q_;obtain rfl:v14=_:=e;go_simp;exact A _ _ r K_ ⟨h1,A1,p1,rfl,t1,c1,n1⟩
   simp only[ly];refine c_ rfl rfl (fun xw r u K A=>?_) (fun v16=>?_)
   ·obtain ⟨h1,A1,p1,e,t1,c1,n1⟩:=u 15 q_;obtain rfl:v15=_:=e;go_simp;exact A _ _ r K_ ⟨h1,A1,p1,rfl,t1,c1,n1⟩
   simp only[ly];refine Z_ rfl (fun w=>r_.refl w) (fun xw u K A=>?_) (fun v17=>?_)
   ·obtain ⟨h1,A1,p1,e,t1,c1,n1⟩:=u 15 q_;obtain rfl:v15=_:=e;go_simp;exact A _ rfl
   simp only[ly];refine qP fun v18=>qP fun v19=>?_;simp only[ly];refine z_ (fun xw r u K A=>?_) (fun v20=>?_)
   ·obtain rfl:v19=_:=u 19 q_;obtain ⟨h1,A1,p1,e,t1,c1,n1⟩:=u 16 q_;obtain rfl:v16=_:=e;have m:s_ I xw:=r;have P:=a9.step m;have ax:=LW.there P.files (i:=j) d6 (p:=2) (n:=4) O_;refine aS (ops:=#[]) rfl (nK rfl 58 (.tmp 74) (.tmp 71) rfl gf (j*15+2) #[I_ (h1:Int),S_ A1 (j_ h1 (bD y.c x.page v).1).kids.length p1,I_ (j_ h1 (bD y.c x.page v).1).val,I_ (j_ h1 (bD y.c x.page v).1).marks] rfl rfl ax U_ (aL) ?_);refine A undef _ ⟨P.putFiles (L_ xw gf (j*15+2) _) (LW.tree P.files HU.fl (oU dc.out) t1 c1 n1) A_,?_,?_,?_,?_,?_⟩ (r_.of_setCells _ _ _ _ (fun h=>h.2.1 rfl)) trivial
    ·exact (v_ gf _ (j*15+2) xw X O_).trans (h_ F.out m)
    ·exact (v_ gf _ (j*15+2) xw (w+1) O_).trans (h_ ad.out m)
    ·exact (v_ gf _ (j*15+2) xw (w+1+1) O_).trans (h_ Y.out m)
    ·exact (v_ gf _ (j*15+2) xw (w) O_).trans (h_ a0.out m)
    ·exact aY (e_ O.out m) O_ _ _
   simp only[ly];refine G_ ?_;intro wz hD hG;clear hG;go_wp2;go_meet
   case rel=>exact hD
  case rest=>
   clear M z2 z3 z4 z5 b8 a9 F a0 ad Y O ai ba bg av bj be ar d8;clear x0 x1 x2 x3 x4 x5 x6 f0 f1 f2 f3 f4 f5 f6 f7 f8 o0 o1 o4 a7 N a6;obtain ⟨b1,b3,b4,b2,b6,b5⟩:=hcut;obtain ⟨ay,az,cb,dw,dx,ch⟩:=h6_ b1 b3 b4 b2 b6 b5;clear b1 b3 b4 b2 b6 b5;obtain ⟨o0,o1,o2,o3,o4,o5,o6⟩:=T_ az.out;have bk:=H_ (LW.there ay.frames br (p:=0) (n:=9) O_);rw [Nat.add_zero] at bk
   go_upto_region 9 with (first
    | (refine nK rfl 85 (.tmp 80) (.tmp 79) rfl q (i*9) (nO (-1) 0 ⟨#[]⟩ 0 0 0 0 0 0) rfl rfl bk pM (xI gV) ?_)
    | fail)
   have aa:=H_ (ay.frame br gV);rw [show gV.row=[I_ (-1),I_ 0,.string ⟨#[]⟩,I_ 0,I_ 0,I_ 0,I_ 0,I_ 0,I_ 0] from rfl] at aa;generalize hW9:wc.setCells q (i*9) _=dz at aa;have c9:=yL hW9 az;have b0:=yL hW9 cb;have ci:=sml hW9 ch;clear hW9;clear o0 o1 o2 o3 o4 o5 o6 bk;obtain ⟨x0,x1,x2,x3,x4,x5,x6⟩:=T_ c9.out
   go_wp2_with (refine Q_ rfl (.tmp 6) (.tmp 81) rfl rfl rfl rfl b0 rfl ?_)
   show bodyPost prog f156 _ _ _ _
   refine bodyPost_ret (jT rfl rfl (setRow_heap _ _ _ _ _ _ b0)) rfl ?_;refine ⟨gf,_,G,q,_,J,_,_,s,nl,cl,gk,nk,ck,_,rfl,?_,d_ ci.out O_ _⟩;exact (aa.setRow (w+1) _ (fun hz=>(s1 _ (bv _ hz).1).2.2 rfl) O_).weak O_ (fun z hz=>(s1 z (bv z hz).1).1) hS
end
section
def xZ (c:Int):Int:=if 0<=c/\c<=1000000 then -(c+1) else 0
def shE (c:Int):Int:=if 0<=c/\c<=1000000 then 0 else 2
def stA (s:Int):Int:=if s<0/\-1000001<=s then -s - 1 else 0
def stB (s:Int):Bool:=decide (s<0/\-1000001<=s)
def diA (c s:Int):Int:=if (0<=c/\c<=1000000)/\(stB s=true/\stA s<c) then c - stA s else 0
def diE (c s:Int):Int:=if 0<=c/\c<=1000000 then (if stB s=true/\stA s<c then 0 else 1) else 2
def acB (c s a:Int):Bool:=diE c s == 0&&decide (diA c s<=a)
theorem nG {l:IntKind} {a b c d:Int} (h:a=b) (h':c=d):Ending.returned (.tuple #[.int k a,.int l c]) = .returned (.tuple #[.int k b,.int l d]):=by rw [h,h']
theorem eU_ {a b:Int} {c d:Bool} (h:a=b) (h':c=d):Ending.returned (.tuple #[.int k a,.bool c]) = .returned (.tuple #[.int k b,.bool d]):=by rw [h,h']
def iP_ (a b:Int) (w:World) (e:Ending) (w':World):Prop:=e = .returned (.tuple #[I_ a,I_ b])/\w=w'
def jw_ (a:Int) (b:Bool) (w:World) (e:Ending) (w':World):Prop:=e = .returned (.tuple #[I_ a,.bool b])/\w=w'
def jA_ (b:Bool) (w:World) (e:Ending) (w':World):Prop:=e = .returned (.bool b)/\w=w'
theorem qD:C_ 218 #[I_ s] w (jw_ (stA s) (stB s) w):=by
 by_cases h:s<0/\-1000001<=s
 ·obtain ⟨h1,h2⟩:=h;go_enter func218,ntmps218;go_wp2
  go_ret2
  exact ⟨eU_ (by simp [stA,h1,h2]) (by simp [stB,h1,h2]),rfl⟩
 ·go_enter func218,ntmps218;go_wp2
  all_goals go_ret2
  all_goals exact ⟨eU_ (by simp [stA,h]) (by simp [stB,h]),rfl⟩
theorem c3_ (c:Int):C_ 206 #[I_ c] w (iP_ (xZ c) (shE c) w):=by
 by_cases h:0<=c/\c<=1000000
 ·obtain ⟨h1,h2⟩:=h;go_enter func206,ntmps206;go_wp2
  go_ret2
  exact ⟨nG (by simp [xZ,h1,h2]) (by simp [shE,h1,h2]),rfl⟩
 ·go_enter func206,ntmps206;go_wp2
  all_goals go_ret2
  all_goals exact ⟨nG (by simp [xZ,h]) (by simp [shE,h]),rfl⟩
theorem al_ {c:Int}:C_ 187 #[I_ c,I_ s] w (iP_ (diA c s) (diE c s) w):=by
 by_cases h:0<=c/\c<=1000000
 ·have b:0<=stA s/\stA s<=1000000:=by unfold stA;split <;> omega
  obtain ⟨h1,h2⟩:=h;obtain ⟨h3,d⟩:=b
  by_cases a:stB s=true
  ·by_cases hl:stA s<c
   ·go_enter func187,ntmps187
    go_wp2_with (go_at_call 218;refine (qD).mono ?_;rintro e w' ⟨rfl,rfl⟩)
    all_goals go_ret2
    all_goals exact ⟨nG (by simp [diA,h1,h2,a,hl]) (by simp [diE,h1,h2,a,hl]),rfl⟩
   ·go_enter func187,ntmps187
    go_wp2_with (go_at_call 218;refine (qD).mono ?_;rintro e w' ⟨rfl,rfl⟩)
    all_goals go_ret2
    all_goals exact ⟨nG (by simp [diA,h1,h2,a];omega) (by simp [diE,h1,h2,a];omega),rfl⟩
  ·simp only[Bool.not_eq_true] at a;go_enter func187,ntmps187
   go_wp2_with (go_at_call 218;refine (qD).mono ?_;rintro e w' ⟨rfl,rfl⟩)
   all_goals go_ret2
   all_goals exact ⟨nG (by simp [diA,a]) (by simp [diE,h1,h2,a]),rfl⟩
 ·have f:decide (0<=c/\c<=1000000)=false:=by simpa using h
  go_enter func187,ntmps187
  go_wp2_with (go_at_call 218;refine (qD).mono ?_;rintro e w' ⟨rfl,rfl⟩)
  all_goals go_ret2
  all_goals exact ⟨nG (by simp [diA,h]) (by simp [diE,h]),rfl⟩
theorem ak_ (c s a:Int) (w:World):C_ 133 #[I_ c,I_ s,I_ a] w (jA_ (acB c s a) w):=by
 go_enter func133,ntmps133
 go_wp2_with (go_at_call 187;refine (al_).mono ?_;rintro e w' ⟨rfl,rfl⟩)
 all_goals go_ret
 all_goals exact ⟨F_ (by simp_all [acB]),rfl⟩
end
section
def SK.int {S:Nat->Prop}:SK S:=⟨fun v _=>∃z:Int,v = I_ z,fun _ _ _ _ h=>h⟩
theorem hU_ {c:Int}:xZ c<=0:=by unfold xZ;split <;> omega
def EvP (C:Ck) (i j t k:Nat) (x:Fr) (y:Fl) (l:Lr) (gp:Gr) (zn:Zn) (C':Ck):Prop:=C'=C\/∃v z,v<=0/\C'={gI C i j t k x y l gp zn v with clocks:=C.clocks.set t z}
theorem LW.clk {g:Nat} {L:List Int} (h:LW Y_ w S g L) (hi:i<L.length) (z:Int):LW Y_ (w.setCell ⟨g,i,none⟩ (I_ z)) S g (L.set i z):=by
 have:=h.setOne (i:=i) (p:=0) (a:=L[i]) (a':=z) (v:= I_ z) (cY hi) O_ rfl (fun r hr=>by
  have hr:r=[I_ _]:=hr;subst hr
  rfl)
 rw [Nat.mul_one,Nat.add_zero] at this;exact this
theorem fW_ {k:Nat} (clk:Int) (h:x_ w S a b c d e f g C) (hl:kT C) (hu:fG C i x j y) (hg:bo_ C i t k x l gp zn) (hck:C.clocks[t]?=some clk) (hS:∀z,w.heap.size<=z->S z) :
  C_ 166 #[bK a b c d e f g,I_ ((i:Int)+1)] w (eK (EvP C i j t k x y l gp zn) S w):=by
 obtain ⟨S1,s1,s2,s3⟩:=iA hS;replace h:=h.weak s3;clear s3;have am:=fun w' (hb:s_ w w')=>jV i x (h.step hb) hu.fr hl.frames.2;rw [hu.used] at am;obtain ⟨A1,b0,rfl,q1,q2⟩:=h.files.form;obtain ⟨A2,b1,rfl,q3,q4⟩:=h.frames.form;obtain ⟨A3,m3,c3,A4,m4,c4,A5,m5,c5,A6,m6,c6,A7,m7,c7,rfl,rfl,rfl,rfl,rfl⟩:=x_.caps5 h;obtain ⟨bb,o,rfl,au,y0,y1,y2,y3,y4,y5,y6,y7,y8⟩:=FrA.cells h.frames hu.fr;obtain ⟨bf,of,kt,KB,kc,rfl,b2,k1,k2,k3,k4,b3⟩:=FlA.cells h.files hu.fl;have b4:=bI hu.fr;have b5:=bI hu.fl;have i2:(i:Int)<(C.frames.length:Int):=O_
 have b7:C.frames.length<=100:=hl.frames.2;have b6:C.files.length<=100:=hl.files.2;have j2:(j:Int)<(C.files.length:Int):=O_
 obtain ⟨H,HL,HU⟩:=eI h hl hu;clear h hl hu k1 k2 k3 k4;have GH:=H_ hg;have a2:=H_ hck;clear hg hck;go_enter func166,ntmps166
 go_upto_region 1 with fail
 generalize hW9:(w.alloc _).alloc _=W;obtain ⟨HX,HR,HW,HZ⟩:=dJ hW9;clear hW9;have ao:=HW.out;obtain ⟨x0,I,J,L,M,A,N⟩:=T_ HX.out
 go_upto_region 3 with (go_at_call 37;(with_reducible refine CM (am _ (by assumption)) ?_);rintro e w1 ⟨rfl,a7⟩;obtain ⟨ae,an,ad⟩:=bC HX HR HW a7;have az:=a7.size;clear a7)
 clear x0 I J L M A N ao;obtain ⟨x0,I,J,L,M,A,N⟩:=T_ ae.out;have aw:=kt9 (ad.block _ au) y0 y1 y2 y3 y4 y5 y6 y7 y8;clear y0 y1 y2 y3 y4 y5 y6 y7 y8;obtain ⟨y0,y1,y2,y3,y4,y5,y6,y7,y8⟩:=aw
 go_upto_region 4 with fail
 generalize hW9:w1.alloc _=W2;have HF:=nah hW9;have Z:=oZ hW9 ae;have a4:=oZ hW9 an;have a5:=lah hW9 ad;clear hW9;clear x0 I J L M A N y0 y1 y2 y3 y4 y5 y6 y7 y8;obtain ⟨x0,I,J,L,M,A,N⟩:=T_ Z.out;obtain ⟨f0,f1,f2,f3,f4,P,f6,f7,f8⟩:=iQ HF.out;have ay:w.heap.size<=w1.heap.size/\w.heap.size+1<w1.heap.size:=⟨O_,O_⟩;have E:=fun w'=>eb_ x w'
 cases hid:tX x with
 | false=>
  rw [hid] at E;clear hid
  go_wp2_with (first | (go_at_call 155;refine CM (E _) ?_;rintro e w3 ⟨rfl,D⟩;obtain ⟨s,B,n,q⟩:=dU Z HF a4 a5 D;clear D x0 I J L M A N f0 f1 f2 f3 f4 P f6 f7 f8;obtain ⟨x0,I,J,L,M,A,N⟩:=T_ s.out;obtain ⟨f0,f1,f2,f3,f4,P,f6,f7,f8⟩:=iQ B.out) | (refine Q_ rfl (.tmp 4) (.tmp 30) rfl rfl rfl rfl n.out rfl ?_))
  show bodyPost prog f166 _ _ _ _
  refine bodyPost_ret (aG rfl rfl rfl (setRow_heap _ _ _ _ _ _ n)) rfl ?_;exact ⟨C,_,_,_,_,_,_,_,_,.inl rfl,rfl,(H.step (d_ q.out O_ _)).weak (fun z _ hz=>(s1 z hz).1),d_ q.out O_ _⟩
 | true=>
  rw [hid] at E;clear hid
  by_cases a1:x.pg.dirty=0
  ·have d4:(x.pg.dirty != 0)=false:=by rw [a1];rfl
   clear a1
   go_upto_region 6 with (first | (go_at_call 155;refine CM (E _) ?_;rintro e w3 ⟨rfl,D⟩;obtain ⟨s,B,n,q⟩:=dU Z HF a4 a5 D;clear D x0 I J L M A N f0 f1 f2 f3 f4 P f6 f7 f8;obtain ⟨x0,I,J,L,M,A,N⟩:=T_ s.out;obtain ⟨f0,f1,f2,f3,f4,P,f6,f7,f8⟩:=iQ B.out) | fail)
   rw [GH.ten] at P;obtain ⟨U,aa,af,ek,_,_,a0,_,F⟩:=IL.cell H.clocks a2.out;replace F:=(g_ (q.block _ a0)).trans F;injection ek with eA6 em6 ec6
   rw [eA6,em6] at A;have a9:=bI a2;have b8:C.clocks.length<=100:=HL.clocks.2;clear eA6 em6 ec6
   go_upto_region 7 with (go_at_call 206;refine (c3_ clk).mono ?_;rintro e w9 ⟨rfl,rfl⟩)
   have ba:w.heap.size+1<w3.heap.size:=n_ n;clear x0 I J L M A N F;obtain ⟨x0,I,J,L,M,A,N⟩:=T_ s.out
   go_upto_region 8 with (go_at_call 156;(with_reducible refine CM (d4_ (xZ clk) (H.out.step q.out) HL.out HU.out GH.out (fun z hz=>s2 z (by omega))) ?_);rintro e w4 ⟨gf,nf,cf,gr,nr,cr,c',d',V,nl,cl,gk,nk,ck,g',rfl,eJ,v⟩;obtain ⟨P3,n3,r3,rfl⟩:=eJ.zones.cap;obtain ⟨P4,n4,r4,rfl⟩:=eJ.groups.cap;obtain ⟨P7,n7,r7,rfl⟩:=eJ.ptes.cap)
   have Q:=H_ (eJ.step (a_ (aP (w4) w4) (.cells ((oY gf nf cf gr nr cr (S_ P3 n3 r3) (S_ P4 n4 r4) V nl cl gk nk ck (S_ P7 n7 r7))) 30)));have bc:w.heap.size+1<w4.heap.size/\w1.heap.size<w4.heap.size/\gk<w4/\w.heap.size<w4.heap.size:=⟨n_ (h_ n v),n_ (h_ B v),eJ.lt,n_ (h_ s v)⟩;have ax:w3<=gf/\gf<gr/\gr<V/\V<gk:=⟨eJ.o1,eJ.o2,eJ.o3,eJ.o4⟩;have bd:=v.size;generalize hW9:w4.alloc (.cells ((oY gf nf cf gr nr cr (S_ P3 n3 r3) (S_ P4 n4 r4) V nl cl gk nk ck (S_ P7 n7 r7))) 30)=W5 at Q;have X:=nah hW9;have a6:=oZ hW9 (fC s v);have ab:=oZ hW9 (fC n v);have a3:=oZ hW9 (fC B v);have Y:=lah hW9 (jC q v);clear hW9;clear eJ v x0 I J L M A N f0 f1 f2 f3 f4 P f6 f7 f8;obtain ⟨x0,I,J,L,M,A,N⟩:=T_ a6.out;obtain ⟨f0,f1,f2,f3,f4,P,f6,f7,f8⟩:=iQ a3.out;rw [GH.ten] at P;have o5:=b_ X 5;simp only[zl] at o5;obtain ⟨U,aa,af,ek,_,_,a0,_,F⟩:=IL.cell H.clocks a2.out;replace F:=(g_ (Y.block _ a0)).trans F;injection ek with eA6 em6 ec6
   rw [eA6,em6] at A;clear eA6 em6 ec6;have al:=n_ a6;have a8:=n_ a3;have ak:=n_ X;have aj:U<W5:=gX a0 Y.size;have b9:t<nk/\nk<=1000:=⟨by rw [<-Q.ek];exact a9,by rw [<-Q.ek];show C.clocks.length<=1000;omega⟩
   go_cut [] (fun wx=>∃z:Int,eS wx S1 (w3) gf nf cf gr nr cr (S_ P3 n3 r3) (S_ P4 n4 r4) V nl cl gk nk ck (S_ P7 n7 r7) (⟨(gI C i j t k x y l gp zn (xZ clk)).files,(gI C i j t k x y l gp zn (xZ clk)).frames,(gI C i j t k x y l gp zn (xZ clk)).zones,(gI C i j t k x y l gp zn (xZ clk)).groups,(gI C i j t k x y l gp zn (xZ clk)).lists,C.clocks.set t z,(gI C i j t k x y l gp zn (xZ clk)).ptes⟩:Ck)/\bA wx (w4) ((oY gf nf cf gr nr cr (S_ P3 n3 r3) (S_ P4 n4 r4) V nl cl gk nk ck (S_ P7 n7 r7))) 30/\wx.heap[w.heap.size+1]?=some (bM)/\s_ w wx)
   case first=>
    refine aR (S:=TS S1 gf gr V gk) 59 13 (fun i=>decide (i<=12)) (fun wx=>∃z:Int,eS wx S1 (w3) gf nf cf gr nr cr (S_ P3 n3 r3) (S_ P4 n4 r4) V nl cl gk nk ck (S_ P7 n7 r7) (⟨(gI C i j t k x y l gp zn (xZ clk)).files,(gI C i j t k x y l gp zn (xZ clk)).frames,(gI C i j t k x y l gp zn (xZ clk)).zones,(gI C i j t k x y l gp zn (xZ clk)).groups,(gI C i j t k x y l gp zn (xZ clk)).lists,C.clocks.set t z,(gI C i j t k x y l gp zn (xZ clk)).ptes⟩:Ck)/\bA wx (w4) ((oY gf nf cf gr nr cr (S_ P3 n3 r3) (S_ P4 n4 r4) V nl cl gk nk ck (S_ P7 n7 r7))) 30/\wx.heap[w.heap.size+1]?=some (bM)/\s_ w wx) [SK.eq (.pointer (some ⟨w4,5,none⟩)),SK.eq (S_ (some ⟨gk,0,none⟩) nk ck),SK.eq (.pointer (some ⟨w1,5,none⟩)),SK.eq (I_ (t:Int)),SK.eq (.pointer (some ⟨w,5,none⟩)),SK.eq (S_ (some ⟨U,aa,none⟩) C.clocks.length c6),SK.eq (.pointer (some ⟨w1,5,none⟩)),SK.eq (I_ (t:Int)),SK.eq (.pointer (some ⟨U,aa+t,none⟩)),SK.eq (I_ clk),SK.int,SK.int,SK.eq (.pointer (some ⟨gk,t,none⟩)),SK.any] q_ q_ rfl (fun _=>trivial) ?_;refine qP fun v0=>?_;simp only[ly];refine c_ rfl rfl (fun xw r G K O=>?_) (fun v1=>?_)
    ·obtain rfl:v0=_:=G 0 q_;have m:s_ W5 xw:=r;have u0:=(m.cell (p:=⟨w4,_,none⟩) ak).trans o5;go_simp;exact O _ _ r K_ rfl
    simp only[ly];refine qP fun v2=>?_;simp only[ly];refine c_ rfl rfl (fun xw r G K O=>?_) (fun v3=>?_)
    ·obtain rfl:v2=_:=G 2 q_;have m:s_ W5 xw:=r;have u0:=(m.cell (p:=⟨w1,_,none⟩) a8).trans P;go_simp;exact O _ _ r K_ rfl
    simp only[ly];refine qP fun v4=>?_;simp only[ly];refine c_ rfl rfl (fun xw r G K O=>?_) (fun v5=>?_)
    ·obtain rfl:v4=_:=G 4 q_;have m:s_ W5 xw:=r;have u0:=(m.cell (p:=⟨w,_,none⟩) al).trans A;go_simp;exact O _ _ r K_ rfl
    simp only[ly];refine qP fun v6=>?_;simp only[ly];refine c_ rfl rfl (fun xw r G K O=>?_) (fun v7=>?_)
    ·obtain rfl:v6=_:=G 6 q_;have m:s_ W5 xw:=r;have u0:=(m.cell (p:=⟨w1,_,none⟩) a8).trans P;go_simp;exact O _ _ r K_ rfl
    simp only[ly];refine qP fun v8=>?_;simp only[ly];refine c_ rfl rfl (fun xw r G K O=>?_) (fun v9=>?_)
    ·obtain rfl:v8=_:=G 8 q_;have m:s_ W5 xw:=r;have u0:=(m.cell (p:=⟨U,_,none⟩) aj).trans F;go_simp;exact O _ _ r K_ rfl
    simp only[ly];refine c_ rfl rfl (fun xw r G K O=>?_) (fun v10=>?_)
    ·obtain rfl:v9=_:=G 9 q_;go_simp;exact O _ _ r K_ ⟨_,rfl⟩
    simp only[ly];refine c_ rfl rfl (fun xw r G K O=>?_) (fun v11=>?_)
    ·obtain ⟨be,aq⟩:∃z,v10 = I_ z:=G 10 q_;obtain rfl:v10=_:=aq;go_simp;exact O _ _ r K_ ⟨_,rfl⟩
    simp only[ly];refine qP fun v12=>?_;simp only[ly];refine z_ (fun xw r G K O=>?_) (fun v13=>?_)
    ·obtain rfl:v12=_:=G 12 q_;obtain ⟨zv,ez⟩:∃z,v11 = I_ z:=G 11 q_;obtain rfl:v11=_:=ez;have m:s_ W5 xw:=r;have R:=Q.step m;obtain ⟨⟨u,hu⟩,av⟩:=R.clocks.slot (i:=t) a9 (p:=0) O_;rw [Nat.mul_one,Nat.add_zero] at hu av;go_simp;refine O undef _ ⟨zv,R.putClocks (L_ xw gk t [I_ zv]) (R.clocks.clk a9 zv) (by rw [kL];rfl),?_,?_,?_⟩ (r_.of_setCell _ _ _ (fun h=>h.2.2.2.2 rfl)) trivial
     ·exact (iH xw ⟨gk,t,none⟩ _ (w4) (by show w4≠gk;omega)).trans (h_ X.out m)
     ·exact (iH xw ⟨gk,t,none⟩ _ (w+1) (by show w+1≠gk;omega)).trans (h_ ab.out m)
     ·exact aT (e_ Y m) ⟨gk,t,none⟩ _ (by show w<=gk;omega)
    simp only[ly];refine G_ ?_;intro wz hD hG;clear hG;go_wp2;go_meet
    case rel=>exact hD
   case rest=>
    clear x0 I J L M A N f0 f1 f2 f3 f4 P f6 f7 f8 o5 F al a8 ak aj Q X ab a6 a3 Y n s B q;obtain ⟨z,ag,ar,ah,ai⟩:=hcut;obtain ⟨R,ac,ap⟩:=eI ag ah ai;clear ag ah ai;obtain ⟨x0,I,J,L,M,A,N⟩:=T_ ar
    go_wp2_with (refine Q_ rfl (.tmp 4) (.tmp 58) rfl rfl rfl rfl ac rfl ?_)
    show bodyPost prog f166 _ _ _ _
    refine bodyPost_ret (aG rfl rfl rfl (setRow_heap _ _ _ _ _ _ ac)) rfl ?_;refine ⟨_,_,_,_,_,_,_,_,_,.inr ⟨xZ clk,z,hU_,rfl⟩,rfl,((R.setRow (w+1) (oY gf nf cf gr nr cr (S_ P3 n3 r3) (S_ P4 n4 r4) V nl cl gk nk ck (S_ P7 n7 r7)) (fun hz=>(s1 _ hz).2.2 rfl) O_).weak O_ (fun z hz=>(s1 z hz).1) hS).at_,d_ ap.out O_ _⟩
  ·have d4:(x.pg.dirty != 0)=true:=bne_iff_ne.2 a1;clear a1
   go_wp2_with (first | (go_at_call 155;refine CM (E _) ?_;rintro e w3 ⟨rfl,D⟩;obtain ⟨s,B,n,q⟩:=dU Z HF a4 a5 D;clear D x0 I J L M A N f0 f1 f2 f3 f4 P f6 f7 f8;obtain ⟨x0,I,J,L,M,A,N⟩:=T_ s.out;obtain ⟨f0,f1,f2,f3,f4,P,f6,f7,f8⟩:=iQ B.out) | (refine Q_ rfl (.tmp 4) (.tmp 30) rfl rfl rfl rfl n.out rfl ?_))
   show bodyPost prog f166 _ _ _ _
   refine bodyPost_ret (aG rfl rfl rfl (setRow_heap _ _ _ _ _ _ n)) rfl ?_;exact ⟨C,_,_,_,_,_,_,_,_,.inl rfl,rfl,(H.step (d_ q.out O_ _)).weak (fun z _ hz=>(s1 z hz).1),d_ q.out O_ _⟩
end
section
def iI_ (sz:Nat) (w:World) (en:Ending) (w':World):Prop:=∃p s:Int,en = .returned (.tuple #[I_ p,I_ s])/\(p=-1\/∃q:Nat,p=q/\q<8)/\0<=s/\s<=3/\((sz % 16=0->p=-1)/\(p=-1\/p*16<sz))/\s_ w w'
theorem e4_ (j sz:Nat) (y:Fl) (en:Int) (h:x_ w S a b c d e f g C) (hl:kT C) (hj:C.files[j]?=some y) (hsz:y.size=sz) (hs8:sz<=128) :
  C_ 89 #[bK a b c d e f g,I_ j,I_ en] w (iI_ sz w):=by
 have D:=bI hj;have n:=fun w' (hb:s_ w w')=>eV j (h.step hb) D;obtain ⟨A1,p,rfl,q1,q2⟩:=h.files.form;obtain ⟨K,m2,c2,rfl⟩:=h.frames.cap;obtain ⟨L,m3,R,M,m4,U,N,m5,V,O,m6,X,P,m7,Y,rfl,rfl,rfl,rfl,rfl⟩:=x_.caps5 h;obtain ⟨J,of,I,KB,kc,rfl,A,k1,k2,k3,k4,B⟩:=FlA.cells h.files hj;have a2:=bI hj;have a5:C.files.length<=100:=hl.files.2;have j2:(j:Int)<(C.files.length:Int):=O_
 have j0:(0:Int)<=(j:Int):=O_
 obtain ⟨H,HL,HJ⟩:=eI h hl hj;clear h hl hj k1 k2 k3 k4;have HS:=H_ hsz;obtain ⟨q,r,G,hr⟩:∃q r:Nat,sz=q*16+r/\r<16:=⟨sz / 16,sz % 16,O_,O_⟩;have e1:(sz:Int).tmod 16=(r:Int):=by rw [tm_ O_];omega
 have e2:(sz:Int).tdiv 16=(q:Int):=by rw [tv_ O_];omega
 have e3:(sz:Int) / 16=(q:Int):=O_
 have e4:(sz:Int) % 16=(r:Int):=O_
 have o:=H_ G;have a6:q<=8:=O_
 clear G hsz;have Q:=H_ (i_ w (.cells (D_ (some ⟨J,of,none⟩) C.files.length p K m2 c2 L m3 R M m4 U N m5 V O m6 X P m7 Y) 30));have m:=H_ (a_ (aP (w) w) (.cells (D_ (some ⟨J,of,none⟩) C.files.length p K m2 c2 L m3 R M m4 U N m5 V O m6 X P m7 Y) 30));go_enter func89,ntmps89
 go_upto_region 1 with fail
 generalize w.alloc (.cells (D_ (some ⟨J,of,none⟩) C.files.length p K m2 c2 L m3 R M m4 U N m5 V O m6 X P m7 Y) 30)=W at Q m;obtain ⟨x0,x1,x2,x3,x4,x5,x6⟩:=T_ Q.out;obtain ⟨z0,z1,z2,z3,z4,z5,z6,z7,z8,z9,za,zb,zc,zd,ze⟩:=zc (m.block _ A) B;rw [HS.out] at z6
 have l:=fun z=>n (ext W z) (e_ m (p_ W z));have xe:=R_ W;have a1:w.heap.size<W.heap.size:=n_ Q;have a0:J<W:=gX A m.size;clear B n
 by_cases h1:en<=(sz:Int)
 ·have d1:decide (en<=(sz:Int))=true:=dT h1;have k:True:=trivial;clear h1
  go_upto_region 1 with fail
  refine w_ q_ q_ ?_
  repeat (go_big_quiet_step ((first | (with_reducible exact E_ (l _)) | (with_reducible exact E_ (k _)))))
  refine wpQuiet_nil ?_;rintro w' ⟨z,rfl⟩;go_wp2
  go_ret2
  exact ⟨-1,0,rfl,.inl rfl,O_,O_,⟨fun _=>rfl,.inl rfl⟩,e_ m.out (p_ _ _)⟩
 ·have d1:decide (en<=(sz:Int))=false:=dF h1;clear h1
  by_cases h2:r=0
  ·subst h2;have k:True:=trivial
   go_upto_region 1 with fail
   refine w_ q_ q_ ?_
   repeat (go_big_quiet_step ((first | (with_reducible exact E_ (l _)) | (with_reducible exact E_ (k _)))))
   refine wpQuiet_nil ?_;rintro w' ⟨z,rfl⟩;go_wp2
   go_ret2
   exact ⟨-1,0,rfl,.inl rfl,O_,O_,⟨fun _=>rfl,.inl rfl⟩,e_ m.out (p_ _ _)⟩
  ·have d2:((r:Int) == 0)=false:=beq_eq_false_iff_ne.2 O_;have F:q<8:=by have:=o.out;omega
   have i:∀w',C_ 137 #[.agg #[I_ y.dev,I_ y.slot,I_ I,S_ KB (j_ I y.c).kids.length kc,I_ (j_ I y.c).val,I_ (j_ I y.c).marks,I_ (sz:Int),I_ y.blocks,I_ y.ecnt,I_ y.eerr,I_ y.sseq,I_ y.ssize,I_ y.sblocks,I_ y.which,I_ y.seq],I_ (q:Int)] w' (cG (jL y q) w'):=fun w'=>by
    have:=bF_ y I KB kc q F w';simp only[Fl.v,Fl.rowT,HS.out] at this;exact this
   cases h3:jL y q with
   | true=>
    rw [h3] at i;have k:=fun z=>i (ext W z);clear i h3
    go_upto_region 1 with fail
    refine w_ q_ q_ ?_
    repeat (go_big_quiet_step ((first | (with_reducible exact E_ (l _)) | (with_reducible exact E_ (k _)))))
    refine wpQuiet_nil ?_;rintro w' ⟨z,rfl⟩;go_wp2
    go_ret2
    exact ⟨-1,0,rfl,.inl rfl,O_,O_,⟨fun _=>rfl,.inl rfl⟩,e_ m.out (p_ _ _)⟩
   | false=>
    rw [h3] at i;have k:=fun z=>i (ext W z);clear i h3
    go_upto_region 1 with fail
    refine w_ q_ q_ ?_
    repeat (go_big_quiet_step ((first | (with_reducible exact E_ (l _)) | (with_reducible exact E_ (k _)))))
    refine wpQuiet_nil ?_;rintro w' ⟨z,rfl⟩;obtain ⟨x,Z,a3⟩:∃x:Nat,r / 8=x/\x<=1:=⟨r / 8,rfl,O_⟩;have e5:(r:Int).tdiv 8=(x:Int):=by rw [tv_ O_];omega
    have e6:(r:Int) / 8=(x:Int):=O_
    clear Z d1 d2
    go_upto_region 5 with fail
    go_loopw [8,9] (fun s8 s9 wx=>∃(u:Int) (kn:Nat),s8 = I_ u/\s9 = I_ kn/\kn<=2/\0<=u/\u<=3/\wx=ext W z) (fun _ s9 _=>2 - (intOf s9).toNat)
    case atStart=>exact ⟨0,x,rfl,rfl,O_,O_,O_,rfl⟩
    case round=>
     obtain ⟨u,kn,rfl,rfl,a4,s,t,rfl⟩:=hrel;obtain rfl | rfl | rfl:kn=0\/kn=1\/kn=2:=O_
     ·have E:=or3 (a:=u) (b:=1) ⟨s,t⟩ ⟨O_,O_⟩;clear e1 e2 e3 e4 e5 e6;go_wp2;go_roundw
      case rel=>exact ⟨_,1,rfl,rfl,O_,E.1,E.2,trivial⟩
      case measure=>simp [intOf]
     ·have E:=or3 (a:=u) (b:=2) ⟨s,t⟩ ⟨O_,O_⟩;clear e1 e2 e3 e4 e5 e6;go_wp2;go_roundw
      case rel=>exact ⟨_,2,rfl,rfl,O_,E.1,E.2,trivial⟩
      case measure=>simp [intOf]
     ·go_wp2
      go_ret2
      exact ⟨q,u,rfl,.inr ⟨q,rfl,F⟩,s,t,⟨fun h=>by have:=o.out;omega,.inr (by have:=o.out;omega)⟩,e_ m.out (p_ _ _)⟩
end
section
def wR (C:Ck) (j:Nat) (y:Fl):Prop:=∀p:Int,0<J_ y.c p->∃(i:Nat) (x:Fr),J_ y.c p=(i:Int)+1/\fG C i x j y/\x.page=p
def aB_ (P:Ck->Int->Prop) (S:Nat->Prop) (w:World) (en:Ending) (w':World):Prop:=∃C' err a b c d e f g,P C' err/\en = .returned (.tuple #[bK a b c d e f g,I_ err])/\x_ w' S a b c d e f g C'/\s_ w w'
def SoP (C:Ck) (j:Nat) (y:Fl) (C':Ck):Prop:=C'=C\/∃i x s,fG C i x j y/\x.page*16<y.size/\0<=s/\s<=3/\C'=cP C i j y ⟨x.file,x.page,aA x.pg s,x.tenant,x.holds,x.reading,x.writing⟩
theorem ao_(sz:Nat) (en:Int) (h:x_ w S a b c d e f g C) (hl:kT C) (hj:C.files[j]?=some y) (hsz:y.size=sz) (hs8:sz<=128) (hF:wR C j y) (hS:∀z,w.heap.size<=z->S z) :
  C_ 95 #[bK a b c d e f g,I_ j,I_ en] w (aB_ (fun C' err=>SoP C j y C'/\(sz % 16=0->C'=C/\err=0)) S w):=by
 obtain ⟨S1,s1,s2,s3⟩:=iA hS;replace h:=h.weak s3;clear s3;have ao:=fun w' (P:s_ w w')=>e4_ j sz y en (h.step P) hl hj hsz hs8;have L:=fun p w' (P:s_ w w')=>fV j y p (h.step P) hj;obtain ⟨A1,a2,rfl,q1,q2⟩:=h.files.form;obtain ⟨A2,m2,c2,rfl⟩:=h.frames.cap;obtain ⟨A3,m3,c3,A4,m4,c4,A5,m5,c5,A6,m6,c6,A7,m7,c7,rfl,rfl,rfl,rfl,rfl⟩:=x_.caps5 h;obtain ⟨bf,of,kt,KB,kc,rfl,av,k1,k2,k3,k4,al⟩:=FlA.cells h.files hj;have aw:=bI hj;have ax:C.files.length<=100:=hl.files.2;have j2:(j:Int)<(C.files.length:Int):=O_
 have j0:(0:Int)<=(j:Int):=O_
 obtain ⟨H,HL,HJ⟩:=eI h hl hj;clear h hl hj k1 k2 k3 k4;have ac:=H_ hF;have ae:=H_ hsz;clear hF hsz al;go_enter func95,ntmps95
 go_upto_region 1 with fail
 generalize hW9:(w.alloc _).alloc _=W;obtain ⟨HX,HR,HW,HZ⟩:=dJ hW9;clear hW9 HZ;obtain ⟨x0,B,D,E,F,G,I⟩:=T_ HX.out
 go_upto_region 2 with (go_at_call 89;(with_reducible refine CM (ao _ HW.out) ?_);rintro e w1 ⟨p,s,rfl,hp,a7,a8,k,a3⟩;obtain ⟨O,J,l⟩:=bC HX HR HW a3;clear a3)
 clear x0 B D E F G I;obtain ⟨x0,B,D,E,F,G,I⟩:=T_ O.out
 rcases hp with rfl | ⟨q,rfl,hq8⟩
 ·go_wp2_with (refine Q_ rfl (.tmp 6) (.tmp 22) rfl rfl rfl rfl J rfl ?_)
  show bodyPost prog f95 _ _ _ _
  refine bodyPost_ret (aG rfl rfl rfl (setRow_heap _ _ _ _ _ _ J)) rfl ?_;exact ⟨C,_,_,_,_,_,_,_,_,⟨.inl rfl,fun _=>⟨rfl,rfl⟩⟩,rfl,(H.step (d_ l.out O_ _)).weak (fun z _ A=>(s1 z A).1),d_ l.out O_ _⟩
 ·have q0:decide ((q:Int)<0)=false:=dF O_
  by_cases hv:J_ y.c q<=0
  ·have Q:∀w',s_ w w'->C_ 59 #[bK (S_ (some ⟨bf,of,none⟩) C.files.length a2) (S_ A2 m2 c2) (S_ A3 m3 c3) (S_ A4 m4 c4) (S_ A5 m5 c5) (S_ A6 m6 c6) (S_ A7 m7 c7),I_ j,I_ q] w' (fun e R=>e = .returned (.tuple #[I_ 0,.bool false])/\s_ w' R):=fun w' P=>by
    have:=L q w' P;unfold eL uT at this;rw [if_pos hv] at this;exact this
   clear L hv
   go_wp2_with (first | (go_at_call 59;refine CM (Q _ l) ?_;rintro e w2 ⟨rfl,r⟩;obtain ⟨K,m,n⟩:=bC O J l r;clear r x0 B D E F G I;obtain ⟨x0,B,D,E,F,G,I⟩:=T_ K.out) | (refine Q_ rfl (.tmp 6) (.tmp 32) rfl rfl rfl rfl m.out rfl ?_))
   show bodyPost prog f95 _ _ _ _
   refine bodyPost_ret (aG rfl rfl rfl (setRow_heap _ _ _ _ _ _ m)) rfl ?_;exact ⟨C,_,_,_,_,_,_,_,_,⟨.inl rfl,fun h=>absurd (k.1 h) O_⟩,rfl,(H.step (d_ n.out O_ _)).weak (fun z _ A=>(s1 z A).1),d_ n.out O_ _⟩
  ·obtain ⟨i,x,a6,hU,aa⟩:=ac.out q O_;have Q:∀w',s_ w w'->C_ 59 #[bK (S_ (some ⟨bf,of,none⟩) C.files.length a2) (S_ A2 m2 c2) (S_ A3 m3 c3) (S_ A4 m4 c4) (S_ A5 m5 c5) (S_ A6 m6 c6) (S_ A7 m7 c7),I_ j,I_ q] w' (fun e R=>e = .returned (.tuple #[I_ ((i:Int)+1),.bool true])/\s_ w' R):=fun w' P=>by
    have:=L q w' P;unfold eL uT at this;rw [if_neg hv,a6] at this;exact this
   have HU:=H_ hU;have aj:=H_ (show x.page*16<(sz:Int) by have:=k.2;rw [aa];omega);obtain ⟨aq,au,ea,q3,q4⟩:=H.frames.form;injection ea with ea1 ea2 ea3
   subst ea1 ea2 ea3;obtain ⟨bb,o,rfl,ak,y0,y1,y2,y3,y4,y5,y6,y7,y8⟩:=FrA.cells H.frames hU.fr;have am:=bI hU.fr;have i2:(i:Int)<(C.frames.length:Int):=O_
   have ay:C.frames.length<=100:=HL.frames.2;clear L hv a6 hU aa
   go_upto_region 7 with (go_at_call 59;refine CM (Q _ l) ?_;rintro e w2 ⟨rfl,r⟩;obtain ⟨K,m,n⟩:=bC O J l r;clear r x0 B D E F G I;obtain ⟨x0,B,D,E,F,G,I⟩:=T_ K.out)
   have ap:=kt9 (n.block _ ak) y0 y1 y2 y3 y4 y5 y6 y7 y8;clear y0 y1 y2 y3 y4 y5 y6 y7 y8;obtain ⟨y0,y1,y2,y3,y4,y5,y6,y7,y8⟩:=ap;have az:w.heap.size+1<w2.heap.size:=n_ m
   go_upto_region 8 with fail
   generalize hW9:w2.alloc _=W3;have U:=nah hW9;have a1:=oZ hW9 K;have M:=oZ hW9 m;have N:=lah hW9 n;clear hW9;clear x0 B D E F G I y0 y1 y2 y3 y4 y5 y6 y7 y8;obtain ⟨x0,B,D,E,F,G,I⟩:=T_ a1.out;obtain ⟨f0,f1,f2,f3,f4,f5,f6,f7,f8⟩:=iQ U.out
   cases d3:bits .andNot .i64 s x.pg.valid != 0 with
   | true=>
    go_wp2_with (refine Q_ rfl (.tmp 6) (.tmp 45) rfl rfl rfl rfl M rfl ?_)
    show bodyPost prog f95 _ _ _ _
    refine bodyPost_ret (aG rfl rfl rfl (setRow_heap _ _ _ _ _ _ M)) rfl ?_;exact ⟨C,_,_,_,_,_,_,_,_,⟨.inl rfl,fun h=>absurd (k.1 h) O_⟩,rfl,(H.step (d_ N.out O_ _)).weak (fun z _ A=>(s1 z A).1),d_ N.out O_ _⟩
   | false=>
    have an:=fun w'=>bg_ x.pg.data x.pg.valid x.pg.dirty s w' HU.ok.pg ⟨a7,a8⟩
    go_upto_region 11 with (first
     | (go_at_call 69;(with_reducible refine CM (an _) ?_);rintro e w5 ⟨rfl,a4⟩;obtain ⟨V,ah,ad,af⟩:=dU U a1 M N a4;clear a4;have a9:=iY V)
     | (refine nK rfl 83 (.tmp 53) (.tmp 51) rfl (w2) 2 #[.string (aA x.pg s).data,I_ (aA x.pg s).valid,I_ (aA x.pg s).dirty] rfl rfl a9 cK (eE) ?_)
     | fail)
    have X:=H_ (iS (u:= .string (aA x.pg s).data) (v:= I_ (aA x.pg s).valid) (z:= I_ (aA x.pg s).dirty) V);generalize hW9:w5.setCells (w2) 2 _=W8 at X;have ai:=yL hW9 ah;have Y:=yL hW9 ad;have a0:=sml hW9 af;clear hW9;clear x0 B D E F G I f0 f1 f2 f3 f4 f5 f6 f7 f8 a9 d3;obtain ⟨x0,B,D,E,F,G,I⟩:=T_ ai.out;obtain ⟨f0,f1,f2,f3,f4,f5,f6,f7,f8⟩:=iQ X.out;have ar:w.heap.size+1<W8.heap.size:=n_ Y
    go_wp2_with (first
     | (go_at_call 55;(with_reducible refine CM (fE i j (⟨x.file,x.page,aA x.pg s,x.tenant,x.holds,x.reading,x.writing⟩) y (H.out.step a0.out) HL.out am HU.out.fl HU.out.ix (fun z A=>s2 z (by omega))) ?_);rintro e w9 ⟨gf,nf,cf,gr,nr,cr,c',d',gl,nl,cl,gk,nk,ck,g',rfl,t,a5⟩;obtain ⟨P3,n3,r3,rfl⟩:=t.zones.cap;obtain ⟨P4,n4,r4,rfl⟩:=t.groups.cap;obtain ⟨P7,n7,r7,rfl⟩:=t.ptes.cap;obtain ⟨Z,ag⟩:=jN Y a0 a5;have ab:=H_ t;clear t a5)
     | (refine Q_ rfl (.tmp 6) (.tmp 57) rfl rfl rfl rfl Z rfl ?_))
    show bodyPost prog f95 _ _ _ _
    refine bodyPost_ret (aG rfl rfl rfl (setRow_heap _ _ _ _ _ _ Z)) rfl ?_;exact ⟨cP C i j y ⟨x.file,x.page,aA x.pg s,x.tenant,x.holds,x.reading,x.writing⟩,_,_,_,_,_,_,_,_,⟨.inr ⟨i,x,s,HU.out,by rw [ae.out];exact aj.out,a7,a8,rfl⟩,fun h=>absurd (k.1 h) O_⟩,rfl,((ab.setRow (w+1) (oY gf nf cf gr nr cr (S_ P3 n3 r3) (S_ P4 n4 r4) gl nl cl gk nk ck (S_ P7 n7 r7)) (fun A=>(s1 _ A).2.2 rfl) O_).weak O_ (fun z A=>(s1 z A).1) hS).at_,d_ ag.out O_ _⟩
end
section
theorem iW (off n:Nat):(aJ off n).length=(off+n+15) / 16 - off / 16:=sT _ _
theorem gP (off n k:Nat) (hk:k<(off+n+15) / 16 - off / 16):(aJ off n)[k]?=some (((off / 16+k:Nat):Nat):Int):=by
 unfold aJ yJ;rw [gP_,List.getElem?_range hk]
 rfl
theorem a0_ {p:Int} (h:p ∈ aJ off n):∃k,k<(off+n+15) / 16 - off / 16/\p=((off / 16+k:Nat):Int):=by
 unfold aJ yJ at h;obtain ⟨k,hk,rfl⟩:=List.mem_map.1 h;exact ⟨k,by simpa using hk,rfl⟩
theorem xQ {p:Nat} (h1:p*16<off+n) (h2:off<(p+1)*16):0<=(bO p off n).1/\0<=(bO p off n).2/\(bO p off n).1<=16/\(bO p off n).2<=16 - (bO p off n).1:=by
 unfold bO;refine ⟨?_,?_,?_,?_⟩ <;> (dsimp only;omega)
theorem pW {off n k:Nat} (hk:k<(off+n+15) / 16 - off / 16) (h2:off+n<=128):(off / 16+k)*16<off+n/\off<(off / 16+k+1)*16/\off / 16+k<8:=O_
def NdR:RR (Int × Int) 2:=RR.flat (fun x=>[I_ x.1,I_ x.2]) (fun a=>⟨rfl,fun u hu=>by simp at hu;rcases hu with rfl | rfl <;> rfl⟩)
theorem gc_:(prog.info? 209).map (fun i=>(i.zero,i.size,i.bytes))=some (some (.agg #[I_ 0,I_ 0]),2,16):=by kernel_rfl
theorem i7_:tA prog 145 209 2:=by
 obtain ⟨i,h1,h2,h3,h4⟩:=info_parts gc_;exact ⟨i,_,16,underlying145,h1,h2,h3,h4,rfl,O_,O_⟩
def lU (C:Ck) (j:Nat) (y:Fl) (off n:Nat) (wr:Bool) (p:Int):Prop:=∃(i:Nat) (x:Fr),J_ y.c p=(i:Int)+1/\fG C i x j y/\x.page=p/\mF x.pg.valid (bO p off n).1 (bO p off n).2 wr=0
def iJ_ (C:Ck) (j:Nat) (y:Fl) (off n:Nat) (wr:Bool) (w:World) (en:Ending) (w':World):Prop:=∃u K err,en = .returned (.tuple #[u,I_ err])/\LA NdR w' iF u K/\K.length<=100/\(err=0\/err=4)/\(err=0->K=[]->∀p ∈ aJ off n,lU C j y off n wr p)/\((∀p ∈ aJ off n,lU C j y off n wr p)->err=0/\K=[])/\s_ w w'
theorem fa_ (off n:Nat) (wr0:Bool) (h:x_ w S a b c d e f g C) (hl:kT C) (hj:C.files[j]?=some y) (hF:wR C j y) (h1:1<=n) (h2:off+n<=128) :
  C_ 94 #[bK a b c d e f g,I_ j,I_ off,I_ n,.bool wr0] w (iJ_ C j y off n wr0 w):=by
 have af:=bI hj;have ae:=fun w' (P:s_ w w')=>eV j (h.step P) af;have ad:=fun w'=>kA (off:Int) (n:Int) w' O_ O_ O_ O_;have aj:=fun w'=>sS off n iF w' h1 h2 (fun _ _=>trivial);have M:=fun p w' (P:s_ w w')=>fV j y p (h.step P) hj;have al:=fun (p:Nat) (hp:p<8) w'=>xR (p:Int) (off:Int) (n:Int) w' ⟨O_,O_⟩ ⟨O_,O_⟩ ⟨O_,O_⟩;obtain ⟨A1,t,rfl,q1,q2⟩:=h.files.form;obtain ⟨A2,m2,c2,rfl⟩:=h.frames.cap;obtain ⟨A3,m3,c3,A4,m4,c4,A5,m5,c5,A6,m6,c6,A7,m7,c7,rfl,rfl,rfl,rfl,rfl⟩:=x_.caps5 h;obtain ⟨bf,of,kt,KB,kc,rfl,bc,k1,k2,k3,k4,ax⟩:=FlA.cells h.files hj;have bg:=bI hj;have bh:C.files.length<=100:=hl.files.2;have j2:(j:Int)<(C.files.length:Int):=O_
 have j0:(0:Int)<=(j:Int):=O_
 obtain ⟨H,HL,HJ⟩:=eI h hl hj;clear h hl hj k1 k2 k3 k4;have aq:=H_ hF;have HX:=H_ (i_ w (.cells (D_ (some ⟨bf,of,none⟩) C.files.length t A2 m2 c2 A3 m3 c3 A4 m4 c4 A5 m5 c5 A6 m6 c6 A7 m7 c7) 30));have F:=H_ (a_ (aP (w) w) (.cells (D_ (some ⟨bf,of,none⟩) C.files.length t A2 m2 c2 A3 m3 c3 A4 m4 c4 A5 m5 c5 A6 m6 c6 A7 m7 c7) 30));clear hF ax;go_enter func94,ntmps94
 go_upto_region 1 with fail
 generalize w.alloc (.cells (D_ (some ⟨bf,of,none⟩) C.files.length t A2 m2 c2 A3 m3 c3 A4 m4 c4 A5 m5 c5 A6 m6 c6 A7 m7 c7) 30)=W at HX F;obtain ⟨x0,x1,x2,x3,x4,x5,x6⟩:=T_ HX.out
 go_upto_region 5 with (first
  | (go_at_call 92;refine CM (ae _ F) ?_;rintro e w1 ⟨rfl,ab⟩;obtain ⟨a7,a5⟩:=jN HX F ab;clear ab)
  | (go_at_call 93;refine CM (ad _) ?_;rintro e w2 ⟨rfl,rfl⟩)
  | (go_at_call 88;refine CM (aj _) ?_;rintro e w3 ⟨pv,rfl,an,ac⟩;obtain ⟨X,a6⟩:=jN a7 a5 ac;have J:=H_ (an.old);clear an ac)
  | fail)
 clear ae ad aj x0 x1 x2 x3 x4 x5 x6 HX F a7 a5;obtain ⟨B,hB⟩:=bL w3.heap.size;rw [<-hB] at J;have b7:w.heap.size<B:=by rw [hB];exact n_ X
 obtain ⟨u,D⟩:=bL ((off+n+15) / 16 - off / 16);have az:(aJ off n).length=u:=by rw [iW,D]
 have bd:u<=9:=O_
 obtain ⟨A8,a8,Q,_,_⟩:=J.form;rw [az] at Q;subst Q;have HB:=H_ hB;have a3:=H_ D;clear hB D;go_wp2
 go_loopw [12,14] (fun s12 s14 wx=>∃(k:Nat) (K:List (Int × Int)),s14 = I_ k/\k<=u/\K.length<=k/\LO NdR 209 wx B (fun _=>False) s12 K/\LA Y_ wx (fun z=>iF z/\z<B) (S_ A8 u a8) (aJ off n)/\(K=[]->∀(m:Nat) (p:Int),m<k->(aJ off n)[m]?=some p->lU C j y off n wr0 p)/\((∀p ∈ aJ off n,lU C j y off n wr0 p)->K=[])/\s_ w wx/\B<=wx.heap.size/\bA wx (w) (D_ (some ⟨bf,of,none⟩) C.files.length t A2 m2 c2 A3 m3 c3 A4 m4 c4 A5 m5 c5 A6 m6 c6 A7 m7 c7) 30) (fun _ s14 _=>100 - (intOf s14).toNat)
 case atStart=>exact ⟨0,[],rfl,O_,A_,LO.nil _ _ _ _ _,J.out,fun _ m p hm=>absurd hm O_,fun _=>rfl,a6.out,by rw [HB.out];exact bE _,X⟩
 case round=>
  clear J a6 X;obtain ⟨k,K,rfl,hk,b9,ho,hp,E,A,P,av,hX⟩:=hrel;have a2:=H_ A;clear A;obtain ⟨HO,HP,HG,F,HX⟩:=h5_ ho hp E P hX;have ba:=n_ hX;obtain ⟨x0,x1,x2,x3,x4,x5,x6⟩:=T_ hX;clear ho E P hX
  by_cases bj:k<u
  ·have s:=gP off n k (by have:=a3.out;omega);have ao:=pW (off:=off) (n:=n) (k:=k) (by have:=a3.out;omega) h2;obtain ⟨p,ai⟩:=bL (off / 16+k);rw [<-ai] at s ao;obtain ⟨r1,r2,r3⟩:=ao;have v:=H_ s;have ak:=xQ r1 r2;have I:=H_ ak;obtain ⟨b8,o8,b2,b1,_,_,aw,_,l0⟩:=IL.cell hp s;injection b1 with e81 e82 e83
   subst e81 e82 e83;have am:=al p r3;clear s ai hp ak r1 r2
   by_cases hv:J_ y.c p<=0
   ·have ar:=H_ hv;have N:∀z,C_ 59 #[bK (S_ (some ⟨bf,of,none⟩) C.files.length t) (S_ A2 m2 c2) (S_ A3 m3 c3) (S_ A4 m4 c4) (S_ A5 m5 c5) (S_ A6 m6 c6) (S_ A7 m7 c7),I_ j,I_ p] (ext wr z) (fun e a1=>e = .returned (.tuple #[I_ 0,.bool false])/\Below (ext wr z).heap.size (ext wr z) a1):=fun z=>by
     have:=M p (ext wr z) (e_ F (p_ wr z));unfold eL uT at this;rw [if_pos hv] at this;exact this
    have xe:=R_ wr;clear hv M
    go_upto_region 8 with fail
    refine w_ q_ q_ ?_
    repeat (go_big_quiet_step ((exact E_ (N _))))
    refine wpQuiet_nil ?_;rintro w' ⟨z,rfl⟩;go_wp2
    go_ret2
    exact ⟨_,[],4,rfl,LA.nil _ _ _,A_,.inr rfl,fun h=>absurd h cE,fun h=>by
     obtain ⟨i,x,g1,_⟩:=h p (gL v.out);have:=ar.out;omega,e_ F.out (p_ _ _)⟩
   ·obtain ⟨i,x,Z,hU,ap⟩:=aq.out p O_;have N:∀z,C_ 59 #[bK (S_ (some ⟨bf,of,none⟩) C.files.length t) (S_ A2 m2 c2) (S_ A3 m3 c3) (S_ A4 m4 c4) (S_ A5 m5 c5) (S_ A6 m6 c6) (S_ A7 m7 c7),I_ j,I_ p] (ext wr z) (fun e a1=>e = .returned (.tuple #[I_ ((i:Int)+1),.bool true])/\Below (ext wr z).heap.size (ext wr z) a1):=fun z=>by
     have:=M p (ext wr z) (e_ F (p_ wr z));unfold eL uT at this;rw [if_neg hv,Z] at this;exact this
    obtain ⟨a4,au,HU⟩:=eI Z ap hU;obtain ⟨b5,b6,ea,q3,q4⟩:=H.frames.form;injection ea with ea1 ea2 ea3
    subst ea1 ea2 ea3;obtain ⟨bb,o,rfl,Y,y0,y1,y2,y3,y4,y5,y6,y7,y8⟩:=FrA.cells H.frames hU.fr;have be:=bI hU.fr;have i2:(i:Int)<(C.frames.length:Int):=O_
    have bi:C.frames.length<=100:=HL.frames.2;have ag:=fun w'=>xO x.pg.data x.pg.valid x.pg.dirty (bO p off n).1 (bO p off n).2 wr0 w' hU.ok.pg I.out.1 I.out.2.1 I.out.2.2.1 I.out.2.2.2;have xe:=R_ wr;clear M hv Z ap hU y0 y1 y5 y6 y7 y8
    go_upto_region 8 with fail
    refine w_ q_ q_ ?_
    repeat (go_big_quiet_step ((exact E_ (N _))))
    refine wpQuiet_nil ?_;rintro w' ⟨z,rfl⟩;have r:=H_ (e_ F (p_ wr z));have L:=H_ (h_ HX (p_ wr z));have G:=H_ (HO.step (p_ wr z));have U:=H_ (HP.step (p_ wr z));have a9:B<=(ext wr z).heap.size:=eF av (p_ wr z).size;replace y2:=(g_ (r.block _ Y)).trans y2;replace y3:=(g_ (r.block _ Y)).trans y3;replace y4:=(g_ (r.block _ Y)).trans y4;replace l0:(ext wr z).cell? _=_:=(g_ ((p_ wr z).block _ aw)).trans l0;clear xe x0 x1 x2 x3 x4 x5 x6 N;generalize ext wr z=V at r L G U y2 y3 y4 l0 a9;obtain ⟨x0,x1,x2,x3,x4,x5,x6⟩:=T_ L.out
    cases hn0:mF x.pg.valid (bO p off n).1 (bO p off n).2 wr0 != 0 with
    | false=>
     have HN:=H_ hn0
     go_wp2_with (first
      | (go_at_call 151;refine CM (am _) ?_;rintro e w4 ⟨rfl,rfl⟩)
      | (go_at_call 152;refine CM (ag _) ?_;rintro e w5 ⟨rfl,l⟩))
     go_roundw
     case rel=>
      refine ⟨k+1,K,by go_num,O_,O_,G.out.step l,U.out.step l,fun hK m p' hm ah=>?_,a2.out,e_ r.out l,eF a9 l.size,h_ L.out l⟩
      by_cases ay:m<k
      ·exact HG hK m p' ay ah
      ·obtain rfl:m=k:=O_
       obtain rfl:p'=(p:Int):=bH (ah.symm.trans v.out);exact ⟨i,x,a4.out,HU.out,au.out,by simpa using HN.out⟩
     case measure=>exact bV
    | true=>
     have HN:=H_ hn0
     go_wp2_with (first
      | (go_at_call 151;refine CM (am _) ?_;rintro e w4 ⟨rfl,rfl⟩)
      | (go_at_call 152;refine CM (ag _) ?_;rintro e w5 ⟨rfl,l⟩)
      | (at_builtin;(refine M_ i7_ rfl (.tmp 78) (.tmp 82) rfl (fun _=>False) rfl ((G.step l).alloc _) (by have:=l.size;simp;omega) O_ #[I_ ((i:Int)+1),I_ (mF x.pg.valid (bO p off n).1 (bO p off n).2 wr0)] rfl (l_ _ _ _ rfl) ((i:Int)+1,mF x.pg.valid (bO p off n).1 (bO p off n).2 wr0) rfl ?_);intro v6 w6 a0 O b3))
     go_roundw
     case rel=>
      have R:=(G.step l).alloc (.cells #[I_ ((i:Int)+1),I_ (mF x.pg.valid (bO p off n).1 (bO p off n).2 wr0)] 209);have b4:=l.size;refine ⟨k+1,_,by go_num,O_,by simp;omega,a0,(((U.step l).alloc _).kept (r_.of_gb O (fun q e hz=>by have:=(R.own e).1;exact absurd hz.2 O_))),fun hK=>by simp at hK,fun aa=>absurd (aa p (gL v.out)) (fun ⟨i',x',g1,g2,g3,g4⟩=>by
       obtain rfl:i'=i:=by have:=a4.out;omega
       obtain rfl:x'=x:=bH (g2.fr.symm.trans HU.fr);have:=HN.out;rw [g4] at this
       cases this),(a_ (e_ r.out l) _).grown O (a_ (e_ r.out l) _).size (fun b P=>by have:=(R.own P).1;omega),?_,(O.block _ ?_ (fun e=>by have:=(R.own e.symm).1;omega)).trans (m_ (h_ L.out l) _)⟩
      ·have:=O.size;simp at this;omega
      ·simp;omega
     case measure=>exact bV
  ·obtain rfl:k=u:=O_
   go_wp2
   go_ret2
   refine ⟨_,K,0,rfl,HO.la (fun _ _ _=>trivial) (fun _ _=>trivial),O_,.inl rfl,fun _ hK p b0=>?_,fun h=>⟨rfl,a2.out h⟩,F.out⟩;obtain ⟨m,hm⟩:=List.getElem?_of_mem b0;exact HG hK m p (by have:=bI hm;omega) hm
end
section
theorem kI {l:List Int} {f x:Int}:x ∈ bU l f↔x ∈ l/\x≠f:=by simp [bU]
theorem fH.rem {a:Lr} (h:fH a) (f:Int):fH (oS a f):=by
 unfold oS
 split
 ·have b:bU a.act f ++ bU a.ina f=bU (a.act ++ a.ina) f:=by simp [bU,List.filter_append]
  refine ⟨fun x d=>?_,?_,fun x d=>?_,h.asc.sublist List.filter_sublist⟩
  ·rw [b] at d;exact h.rng x (kI.1 d).1
  ·show (bU a.act f ++ bU a.ina f).Nodup
   rw [b];exact h.dup.sublist List.filter_sublist
  ·have c:=kI.1 d
   show x ∈ bU a.act f ++ bU a.ina f
   rw [b];exact kI.2 ⟨h.sub x c.1,c.2⟩
 ·exact h
theorem fH.add {a:Lr} (h:fH a) (f:Int) (hf:1<=f/\f<=64) (ac:Bool):fH (oC a f ac):=by
 unfold oC
 split
 ·exact h
 ·rename_i hn
  have c:f ∉ a.act ++ a.ina:=by simpa [gK] using hn
  split
  ·refine ⟨fun x b=>?_,?_,fun x b=>List.mem_cons_of_mem _ (h.sub x b),h.asc⟩
   ·rcases List.mem_cons.1 b with rfl | b
    ·exact hf
    ·exact h.rng x b
   ·exact List.nodup_cons.2 ⟨c,h.dup⟩
  ·have d:(a.act ++ f :: a.ina).Perm (f :: (a.act ++ a.ina)):=List.perm_middle;refine ⟨fun x b=>?_,d.nodup_iff.2 (List.nodup_cons.2 ⟨c,h.dup⟩),fun x b=>d.mem_iff.2 (List.mem_cons_of_mem _ (h.sub x b)),h.asc⟩
   rcases List.mem_cons.1 (d.mem_iff.1 b) with rfl | b
   ·exact hf
   ·exact h.rng x b
theorem fH.touch {a:Lr} (h:fH a) (f:Int):fH (fA a f):=by
 unfold fA
 split
 ·rename_i hh
  have i:f ∈ a.act ++ a.ina:=by simpa [gK] using hh
  split
  ·split
   ·rename_i hr hi
    have c:f ∉ a.act:=fun g=>(List.nodup_append.1 h.dup).2.2 f g f hi rfl;have j:bU a.act f=a.act:=by
     unfold bU;exact List.filter_eq_self.2 fun x b=>bne_iff_ne.2 fun e=>c (e ▸ b)
    have d:∀x,x ∈ (f :: a.act) ++ bU a.ina f↔x ∈ a.act ++ a.ina:=fun x=>by
     simp only[List.cons_append,qL,List.mem_append,kI]
     constructor
     ·rintro (rfl | h | h)
      ·exact .inr hi
      ·exact .inl h
      ·exact .inr h.1
     ·rintro (h | h)
      ·exact .inr (.inl h)
      ·by_cases e:x=f
       ·exact .inl e
       ·exact .inr (.inr ⟨h,e⟩)
    refine ⟨fun x b=>h.rng x ((d x).1 b),?_,fun x b=>(d x).2 (h.sub x (kI.1 b).1),h.asc.sublist List.filter_sublist⟩
    show (f :: (a.act ++ bU a.ina f)).Nodup
    refine List.nodup_cons.2 ⟨fun b=>?_,?_⟩
    ·rcases List.mem_append.1 b with b | b
     ·exact c b
     ·exact (kI.1 b).2 rfl
    ·exact h.dup.sublist (List.Sublist.append (List.Sublist.refl _) List.filter_sublist)
   ·exact h
  ·rename_i hr
   exact ⟨h.rng,h.dup,fun x b=>by
    rcases mD.1 b with rfl | b
    ·exact i
    ·exact h.sub x b,tY h.asc hr⟩
 ·exact h
theorem gD.set (h:gD L) {i:Nat} {g:Gr} (hg:1<=g.limit/\g.limit<=64/\0<=g.protect/\g.protect<=g.limit/\0<=g.charge/\g.charge<=64):gD (L.set i g):=
 ⟨fun x hx=>by
  rcases List.mem_or_eq_of_mem_set hx with hx | rfl
  ·exact h.each x hx
  ·exact hg,by rw [kL];exact h.pos,by rw [kL];exact h.few⟩
theorem gD.charge (h:gD L) {g:Gr} (hi:L[i]?=some g):gD (cC L i g 1).1:=by
 have hg:=h.each g (gL hi);unfold cC
 split
 ·exact h
 ·refine h.set ⟨hg.1,hg.2.1,hg.2.2.1,hg.2.2.2.1,by show 0<=g.charge+1;omega,by show g.charge+1<=64;omega⟩
theorem gD.uncharge (h:gD L) {g:Gr} (hi:L[i]?=some g):gD (cU L i g 1).1:=by
 have hg:=h.each g (gL hi);unfold cU
 split
 ·exact h
 ·refine h.set ⟨hg.1,hg.2.1,hg.2.2.1,hg.2.2.2.1,by show 0<=g.charge - 1;omega,by show g.charge - 1<=64;omega⟩
theorem zA {g:Gr} {n:Int}:(cC L i g n).1.length=L.length:=by unfold cC;split <;> simp
theorem vH {g:Gr} {n:Int}:(cU L i g n).1.length=L.length:=by unfold cU;split <;> simp
end
section
variable {F G Z:Nat}
theorem bU_ (L:List Zn):sR L=(L.map (fun z=>z.size)).foldl (fun n s=>n+s) 1:=by unfold sR;rw [List.foldl_map]
theorem ab_ {L:List Zn} (hi:L[i]?=some z) (fr:List Int) (k:Nat):sR ((L.set i {z with free:=fr}).take k)=sR (L.take k):=by
 rw [bU_,bU_,List.map_take,List.map_take,List.map_set];have a:=bI hi;have:(L.map (fun z=>z.size)).set i z.size=L.map (fun z=>z.size):=by
  refine List.ext_getElem? fun q=>?_;rw [List.getElem?_set]
  split
  ·rename_i e
   subst e;rw [if_pos (by simpa using a),gP_,hi]
   rfl
  ·rfl
 rw [show ({z with free:=fr}:Zn).size=z.size from rfl,this]
theorem wD {L:List Zn} (hi:L[i]?=some z) (fr:List Int):sR (L.set i {z with free:=fr})=sR L:=by
 have:=ab_ hi fr L.length;rw [tL_ A_,tL_ (bE _)] at this;exact this
theorem cB.free {L:List Zn} (h:cB L) (hi:L[i]?=some z) {fr:List Int} (hr:∀x ∈ fr,z.first<=x/\x<z.first+z.size) (ha:fr.Pairwise (·<·)):cB (L.set i {z with free:=fr}):=by
 refine ⟨by rw [kL];exact h.ne,fun k u a=>?_⟩;rw [ab_ hi];rw [List.getElem?_set] at a
 split at a
 ·rename_i e
  subst e
  split at a
  ·injection a with a
   subst a;have:=h.each i z hi;exact ⟨this.fst,this.sz,this.wm,hr,ha⟩
  ·cases a
 ·exact h.each k u a
structure fu_ (y:Fl):Prop where
 size:∃sz:Nat,y.size=sz/\sz<=128
 slot:∃s:Nat,y.slot=s/\s<7
 err:qO y.ecnt y.eerr
 st:kW y.blocks/\y.which=0/\y.seq=0/\y.ssize=0/\y.sseq=0
structure cF (F G Z:Nat) (C:Ck):Prop where
 few:1<=F/\F<=3/\1<=G/\G<=2/\1<=Z/\Z<=2
 nf:C.files.length=F
 nr:0<C.frames.length/\C.frames.length<=64
 ng:C.groups.length=G
 nl:C.lists.length=G
 nk:C.clocks.length=G
 nz:C.zones.length=Z
 ten:∀(i:Nat) (x:Fr),C.frames[i]?=some x->x.tenant<G
 file:∀(j:Nat) (y:Fl),C.files[j]?=some y->fu_ y
 frame:∀(i:Nat) (x:Fr),C.frames[i]?=some x->x.file=-1\/∃(j:Nat) (y:Fl),fG C i x j y/\J_ y.c x.page=(i:Int)+1
 find:∀(j:Nat) (y:Fl) (p:Int),C.files[j]?=some y->0<J_ y.c p->∃(i:Nat) (x:Fr),J_ y.c p=(i:Int)+1/\C.frames[i]?=some x/\x.file=j/\x.page=p
 free:∀(k:Nat) (z:Zn),C.zones[k]?=some z->∀f ∈ z.free,∃(i:Nat) (x:Fr),f=(i:Int)+1/\C.frames[i]?=some x/\x.file=-1
 zok:cB C.zones
 zsum:sR C.zones=(C.frames.length:Int)+1
 gok:gD C.groups
 lok:∀(t:Nat) (l:Lr),C.lists[t]?=some l->fH l
 pok:dZ C.ptes
theorem cF.ok (h:cF F G Z C):kT C:=
 ⟨by have:=h.nf;have:=h.few;omega,by have:=h.nr;omega,by have:=h.ng;have:=h.few;omega,by have:=h.nl;have:=h.few;omega,by have:=h.nk;have:=h.few;omega⟩
theorem cF.used (h:cF F G Z C) (hx:C.frames[i]?=some x) (hu:x.file≠-1):∃(j:Nat) (y:Fl),fG C i x j y/\J_ y.c x.page=(i:Int)+1:=by
 rcases h.frame i x hx with h | h
 ·exact absurd h hu
 ·exact h
theorem cF.findOk (h:cF F G Z C) (hj:C.files[j]?=some y):wR C j y:=fun p c=>by
 obtain ⟨i,x,h1,h2,h3,b⟩:=h.find j y p hj c;obtain ⟨d,y',a,_⟩:=h.used h2 (by rw [h3];omega);obtain rfl:d=j:=by have:=a.ix;rw [h3] at this;omega
 obtain rfl:y'=y:=bH (a.fl.symm.trans hj);exact ⟨i,x,h1,a,b⟩
structure jY (L L':List Fr):Prop where
 len:L'.length=L.length
 up:∀(i:Nat) (x:Fr),L'[i]?=some x->∃x0,L[i]?=some x0/\x0.file=x.file/\x0.page=x.page/\x0.tenant=x.tenant/\(x.file≠-1->jE x)
structure jX (L L':List Fl):Prop where
 len:L'.length=L.length
 up:∀(j:Nat) (y:Fl),L'[j]?=some y->∃y0,L[j]?=some y0/\(∀p,0<J_ y.c p\/0<J_ y0.c p->J_ y.c p=J_ y0.c p)/\fu_ y
theorem jY.dn {L L':List Fr} (h:jY L L') {x0:Fr} (hx:L[i]?=some x0):∃x,L'[i]?=some x/\x.file=x0.file/\x.page=x0.page:=by
 have hl:=bI hx;obtain ⟨x1,h1,h2,h3,_,_⟩:=h.up i _ (cY (by rw [h.len];exact hl));obtain rfl:x1=x0:=bH (h1.symm.trans hx);exact ⟨_,cY _,h2.symm,h3.symm⟩
theorem jX.dn {L L':List Fl} (h:jX L L') {y0:Fl} (hy:L[j]?=some y0):∃y,L'[j]?=some y/\(∀p,0<J_ y.c p\/0<J_ y0.c p->J_ y.c p=J_ y0.c p):=by
 have hl:=bI hy;obtain ⟨y1,h1,h2,_⟩:=h.up j _ (cY (by rw [h.len];exact hl));obtain rfl:y1=y0:=bH (h1.symm.trans hy);exact ⟨_,cY _,h2⟩
theorem cF.rel (h:cF F G Z C) (hr:jY C.frames C'.frames) (hf:jX C.files C'.files) (hz:C'.zones=C.zones) (hg:C'.groups=C.groups) (hn:C'.lists.length=G) (hk:C'.clocks.length=G) (hl:∀(t:Nat) (l:Lr),C'.lists[t]?=some l->fH l) (hp:dZ C'.ptes):cF F G Z C' where
 few:=h.few
 nf:=hf.len.trans h.nf
 nr:=by rw [hr.len];exact h.nr
 ng:=by rw [hg];exact h.ng
 nl:=hn
 nk:=hk
 nz:=by rw [hz];exact h.nz
 ten i x hx:=by
  obtain ⟨x0,h1,_,_,a,_⟩:=hr.up i x hx;rw [<-a];exact h.ten i x0 h1
 file j y hy:=by obtain ⟨_,_,_,h3⟩:=hf.up j y hy;exact h3
 frame i x hx:=by
  obtain ⟨x0,h1,h2,h3,_,a⟩:=hr.up i x hx
  rcases h.frame i x0 h1 with c | ⟨j,y,hu,hv⟩
  ·exact .inl (h2 ▸ c)
  ·refine .inr ?_;obtain ⟨y',m,n⟩:=hf.dn hu.fl;refine ⟨j,y',⟨hx,m,by rw [<-h2];exact hu.ix,a (by rw [<-h2,hu.ix];omega)⟩,?_⟩;rw [n _ (.inr (by rw [<-h3,hv];omega)),<-h3];exact hv
 find j y p hy hv:=by
  obtain ⟨r,h1,h2,_⟩:=hf.up j y hy;have b:=h2 p (.inl hv);rw [b] at hv ⊢;obtain ⟨i,x0,h3,a,c,o⟩:=h.find j r p h1 hv;obtain ⟨x,d,g,q⟩:=hr.dn a;exact ⟨i,x,h3,d,g.trans c,q.trans o⟩
 free k z hz' f hf':=by
  rw [hz] at hz';obtain ⟨i,x0,h1,h2,h3⟩:=h.free k z hz' f hf';obtain ⟨x,d,g,_⟩:=hr.dn h2;exact ⟨i,x,h1,d,g.trans h3⟩
 zok:=by rw [hz];exact h.zok
 zsum:=by rw [hz,hr.len];exact h.zsum
 gok:=by rw [hg];exact h.gok
 lok:=hl
 pok:=hp
theorem jY.refl (h:cF F G Z C):jY C.frames C.frames:=⟨rfl,fun i x hx=>⟨x,hx,rfl,rfl,rfl,fun hn=>by obtain ⟨_,_,hu,_⟩:=h.used hx hn;exact hu.ok⟩⟩
theorem jX.refl (h:cF F G Z C):jX C.files C.files:=⟨rfl,fun j y hy=>⟨y,hy,fun _ _=>rfl,h.file j y hy⟩⟩
theorem jY.set (h:cF F G Z C) {i:Nat} {x x':Fr} (hx:C.frames[i]?=some x) (h1:x'.file=x.file) (h2:x'.page=x.page) (h3:x'.tenant=x.tenant) (hk:jE x'):jY C.frames (C.frames.set i x'):=
 ⟨A_,fun k u a=>by
  rw [List.getElem?_set] at a
  split at a
  ·rename_i e
   subst e
   split at a
   ·injection a with a
    subst a;exact ⟨x,hx,h1.symm,h2.symm,h3.symm,fun _=>hk⟩
   ·cases a
  ·exact (jY.refl h).up k u a⟩
theorem jX.set (h:cF F G Z C) {y y':Fl} (hy:C.files[j]?=some y) (h1:∀p,0<J_ y'.c p\/0<J_ y.c p->J_ y'.c p=J_ y.c p) (hk:fu_ y'):jX C.files (C.files.set j y'):=
 ⟨A_,fun k u a=>by
  rw [List.getElem?_set] at a
  split at a
  ·rename_i e
   subst e
   split at a
   ·injection a with a
    subst a;exact ⟨y,hy,h1,hk⟩
   ·cases a
  ·exact (jX.refl h).up k u a⟩
theorem fW {c:Cn} {p:Int} (h:0<J_ c p):kF p=true/\0<(c p.toNat).1:=by
 unfold J_ at h
 split at h
 ·exact ⟨by assumption,h⟩
 ·omega
theorem cF.put (h:cF F G Z C) {x x':Fr} {y y':Fl} (hu:fG C i x j y) (h1:jE x') (h2:x'.file=x.file) (h3:x'.page=x.page) (ht:x'.tenant=x.tenant) (h4:y'.c=y.c) (h5:fu_ y') (ps:List Pt) (hp:dZ ps):cF F G Z {cP C i j y' x' with ptes:=ps}:=by
 obtain ⟨f,b,a,hv⟩:=h.used hu.fr (by rw [hu.ix];omega);obtain rfl:f=j:=by have:=a.ix;rw [hu.ix] at this;omega
 obtain rfl:b=y:=bH (a.fl.symm.trans hu.fl);obtain ⟨d,hc⟩:=fW (c:=b.c) (p:=x.page) (by rw [hv];omega);refine h.rel (jY.set h hu.fr h2 h3 ht h1) ?_ rfl rfl h.nl h.nk h.lok hp;exact jX.set h hu.fl (fun p _=>by
  show J_ (jO y'.c x'.page _ _) p=_
  rw [h4,h3,dK d hc]) ⟨h5.size,h5.slot,h5.err,h5.st⟩
theorem cF.putQ (h:cF F G Z C) (hu:fG C i x j y) (hq:dk_ C i j x y C'):cF F G Z C':=by
 rcases hq with rfl | ⟨x',y',h1,_,h2,h3,h4,h5,h6,h8,h7,h9,h10,h11,h12,h13,rfl⟩
 ·exact h
 ·have a:=h.file j y hu.fl;exact h.put hu h1 h2 h3 h4 h5 ⟨by rw [h6];exact a.size,by rw [h8];exact a.slot,h7,h9 a.st.1,h10.trans a.st.2.1,h11.trans a.st.2.2.1,h12.trans a.st.2.2.2.1,h13.trans a.st.2.2.2.2⟩ C.ptes h.pok
theorem cF.putP (h:cF F G Z C) (hu:fG C i x j y) (hq:wT C i j x y C'):cF F G Z C':=h.putQ hu (hq.q (h.file j y hu.fl).err)
theorem cF.putB (h:cF F G Z C) (hu:fG C i x j y) (hq:fw_ C i j x y C'):cF F G Z C':=by
 rcases hq with rfl | ⟨x',h1,_,h2,h3,h4,rfl⟩
 ·exact h
 ·exact h.put hu h1 h2 h3 h4 rfl (h.file j y hu.fl) _ (h.pok.shut _)
theorem cF.acc (h:cF F G Z C) {t i:Nat} (hl:C.lists[t]?=some l):cF F G Z (wV C t l i):=by
 refine h.rel (jY.refl h) (jX.refl h) rfl rfl (by show (C.lists.set _ _).length=G;rw [kL];exact h.nl) h.nk (fun k u a=>?_) h.pok
 show fH u
 have a:(C.lists.set t (fA l ((i:Int)+1)))[k]?=some u:=a;rw [List.getElem?_set] at a
 split at a
 ·split at a
  ·injection a with a
   subst a;exact (h.lok t l hl).touch _
  ·cases a
 ·exact h.lok k u a
end
end Go.Proofs.YtehfhnbpnaiogaaGreatDoor
