/-
  Lemmas and contracts for the laws of this seat, part 8; several texts joined by a program.
-/
import Derived.Test.YtehfhnbpnaiogaaGreatDoorE07
import Derived.Test.YtehfhnbpnaiogaaGreatDoorE00
namespace Go.Proofs.YtehfhnbpnaiogaaGreatDoor
set_option linter.unusedVariables false
set_option linter.unusedSimpArgs false
set_option maxRecDepth 100000
set_option maxHeartbeats 16000000
open Go.RowKit Go.Proofs.Tryz IntKind
variable {C C':Ck} {L:List Fl} {S:Nat->Prop} {a c d x0 x1 x2 x3 x4 x5 x6:Value} {e:Nat->Int} {err s:Int} {fn:Func} {g i j k p:Nat} {tmps:Array Value} {w:World} {y:Fl}
section
theorem J_ (w:World) (g o:Nat) (vs:List Value):w.grownBy (w.setCells g o vs) (some g):=by
 obtain ⟨h1,h2,h3,h4⟩:=eV g vs o w;exact ⟨h1,h2,h3,O_,fun k _ hk=>u_ g vs o w k fun e=>hk (by rw [e])⟩
theorem es_ {w5 w6:World} {r:Nat} (h5:q_ w w5) (h6:w5.grownBy w6 (some g)) (hr:w<=r) {cs:Array Value}:w.grownBy (w6.setRow r cs) (some g):=by
 have a:=gE w6 r cs;refine ⟨(a.os.trans h6.os).trans h5.os,(a.tape.trans h6.tape).trans h5.tape,(a.output.trans h6.output).trans h5.output,by have:=h5.size;have:=h6.size;have:=a.size;omega,fun k c b=>?_⟩;rw [a.block k (by have:=h5.size;have:=h6.size;omega) (by simp;omega),h6.block k (by have:=h5.size;omega) b,h5.block k c]
def jo_ (v:Value) (g:Nat) (S:Nat->Prop) (L:List Fl) (w:World) (en:Ending) (w':World):Prop:=en = .returned v/\LW jG w' S g L/\w.grownBy w' (some g)
theorem LW.weak {α:Type} {R:RR α k} {S S':Nat->Prop} {L:List α} (h:LW R w S g L) (hg:¬S' g) (hS:∀b,b<w.heap.size->S b->S' b):LW R w S' g L:=by
 obtain ⟨_,rows,h1,h2⟩:=h;exact ⟨hg,rows,h1,h2.imp fun a r h=>R.wk _ _ _ _ _ hS h⟩
def yZ (q:Bool) (c:Cn) (p m:Int):Cn:=if q then (dJ c p m).1 else (aV c p m).1
theorem c7_ {c:Cn} (h:aX c) (q:Bool) {p m:Int}:aX (yZ q c p m):=by
 unfold yZ
 cases q
 ·exact jP h p m
 ·exact mG h p m
structure MkS (w:World) (S1:Nat->Prop) (oX oF':Obj) (C':Cn) (h1:Nat) (A1:Option Addr) (cap1:Nat) (W:World):Prop where
 x:W.heap[w.heap.size]?=some oX
 r:W.heap[w.heap.size+1]?=some (cG)
 f:W.heap[w.heap.size+1+1]?=some oF'
 t:W.heap[w.heap.size+1+1+1]?=some (.cells #[I_ (h1:Int),S_ A1 (f_ h1 C').kids.length cap1,I_ (f_ h1 C').val,I_ (f_ h1 C').marks] 58 (0,0))
 b:q_ w W
 lf:aX C'
 tr:X_ h1 C'
 cl:(f_ h1 C').kids.length<=cap1
 nk:NK W S1 A1 (f_ h1 C').kids
theorem MkS.put {S1:Nat->Prop} {oX oF':Obj} {C0 C':Cn} {h0 h1:Nat} {A0 A1:Option Addr} {cap0 cap1:Nat} {W W1:World} (h:MkS w S1 oX oF' C0 h0 A0 cap0 W) (hb:q_ W W1) (lf:aX C') (tr:X_ h1 C') (cl:(f_ h1 C').kids.length<=cap1) (nk:NK W1 S1 A1 (f_ h1 C').kids) (hs:¬S1 (w+1+1+1)) :
  MkS w S1 oX oF' C' h1 A1 cap1 (W1.setRow (w+1+1+1) #[I_ (h1:Int),S_ A1 (f_ h1 C').kids.length cap1,I_ (f_ h1 C').val,I_ (f_ h1 C').marks]):=
 ⟨(setRow_other _ _ _ _ O_).trans (i_ h.x hb),(setRow_other _ _ _ _ O_).trans (i_ h.r hb),(setRow_other _ _ _ _ O_).trans (i_ h.f hb),setRow_heap _ _ _ _ _ _ (i_ h.t hb),j_ (d_ h.b hb) O_ _,lf,tr,cl,
  nk.kept (by simp [World.setRow]) (fun z a _=>setRow_other W1 _ z _ (fun e=>hs (e ▸ a)))⟩
theorem f8_ {Fs:List Fr} (i j:Nat) (x:Fr) (y:Fl)(cap:Nat) {b:Value} {P3 P4 P5 P6 P7:Option Addr} {n3 r3 n4' r4 n5' r5 n6' r6 n7' r7:Nat} {S':Nat->Prop} (h:LW jG w S g L) (hb:LA rM w S' b Fs) (hx:Fs[i]?=some x) (hj:L[j]?=some y) (hxf:x.file=j)
  (hl:L.length<=100) (hl2:Fs.length<=100) (hcap:L.length<=cap) (hS:∀z,w.heap.size<=z->S z) :
  C_ 124 #[cI (S_ (some ⟨g,0,none⟩) L.length cap) b (S_ P3 n3 r3) (S_ P4 n4' r4) (S_ P5 n5' r5) (S_ P6 n6' r6) (S_ P7 n7' r7),I_ ((i:Int)+1)] w (jo_ (cI (S_ (some ⟨g,0,none⟩) L.length cap) b (S_ P3 n3 r3) (S_ P4 n4' r4) (S_ P5 n5' r5) (S_ P6 n6' r6) (S_ P7 n7' r7)) g S (eW L j y x) w):=by
 have a3:¬S g:=h.1;have ab:=h.lt;obtain ⟨E,M⟩:=aZ (fun z=>S z/\z≠w.heap.size+1/\z≠w.heap.size+1+1+1);have s1:∀z,E z->S z/\z≠w.heap.size+1/\z≠w.heap.size+1+1+1:=fun z N=>by rw [M] at N;exact N
 have s2:∀z,w.heap.size+1+1+1<z->E z:=fun z N=>by rw [M];exact ⟨hS z O_,O_,O_⟩
 replace h:LW jG w E g L:=h.weak (fun N=>a3 (s1 g N).1) (fun z N h=>by rw [M];exact ⟨h,O_,O_⟩);clear M;obtain ⟨A,c2,rfl,q1,q2⟩:=hb.form;obtain ⟨u,o1,rfl,d,y0,y1,y2,y3,y4,y5,y6,y7,y8⟩:=FrA.cells hb hx;obtain ⟨r,⟨t,B,ct,k1,k2,k3,k4,rfl⟩,hc⟩:=h.at_ hj;have z2:w.cell? ⟨g,j*15+2,none⟩=some (I_ t):=hc 2 _ rfl;have z3:=hc 3 _ rfl;have z4:w.cell? ⟨g,j*15+4,none⟩=some (I_ (f_ t y.c).val):=hc 4 _ rfl;have z5:w.cell? ⟨g,j*15+5,none⟩=some (I_ (f_ t y.c).marks):=hc 5 _ rfl;have af:=bK hx;have ac:=bK hj;have i2:(i:Int)<(Fs.length:Int):=O_
 have j2:(j:Int)<(L.length:Int):=O_
 obtain ⟨fi,k,⟨F,J,D⟩,I,G,H,C⟩:=x;have hxf:fi=(j:Int):=hxf;subst hxf;have HZ:(((w.alloc (.cells (E_ (o_ g) L.length cap (some ⟨u,o1,none⟩) Fs.length c2 P3 n3 r3 P4 n4' r4 P5 n5' r5 P6 n6' r6 P7 n7' r7) 30 (0,0))).alloc (cG)).alloc (.cells (pC (j:Int) k F J D I G H C) 85 (0,0))).heap.size=w.heap.size+1+1+1:=z_
 have HW:=H_ (b_ (b_ (b_ (aI (w) w) (.cells (E_ (o_ g) L.length cap (some ⟨u,o1,none⟩) Fs.length c2 P3 n3 r3 P4 n4' r4 P5 n5' r5 P6 n6' r6 P7 n7' r7) 30 (0,0))) (cG)) (.cells (pC (j:Int) k F J D I G H C) 85 (0,0)));have HX:=H_ (m_ (m_ (g_ w (.cells (E_ (o_ g) L.length cap (some ⟨u,o1,none⟩) Fs.length c2 P3 n3 r3 P4 n4' r4 P5 n5' r5 P6 n6' r6 P7 n7' r7) 30 (0,0))) (cG)) (.cells (pC (j:Int) k F J D I G H C) 85 (0,0)));have HR:=H_ (m_ (l_ (w.alloc (.cells (E_ (o_ g) L.length cap (some ⟨u,o1,none⟩) Fs.length c2 P3 n3 r3 P4 n4' r4 P5 n5' r5 P6 n6' r6 P7 n7' r7) 30 (0,0))) (cG) (w+1) z_) (.cells (pC (j:Int) k F J D I G H C) 85 (0,0)));have HF:=H_ (l_ ((w.alloc (.cells (E_ (o_ g) L.length cap (some ⟨u,o1,none⟩) Fs.length c2 P3 n3 r3 P4 n4' r4 P5 n5' r5 P6 n6' r6 P7 n7' r7) 30 (0,0))).alloc (cG)) (.cells (pC (j:Int) k F J D I G H C) 85 (0,0)) (w+1+1) z_);go_enter func124,ntmps124
 go_upto_region 2 with fail
 generalize ((w.alloc _).alloc _).alloc (.cells (pC (j:Int) k F J D I G H C) 85 (0,0))=W at HX HR HF HW HZ;have ae:=kt4 (HW.block _ ab) z2 z3 z4 z5;clear z2 z3 z4 z5;obtain ⟨z2,z3,z4,z5⟩:=ae;clear y0 y1 y2 y3 y4 y5 y6 y7 y8;obtain ⟨x0,x1,x2,x3,x4,x5,x6⟩:=aF HX.out;have f0:=xV HF
 go_upto_region 3 with fail
 have a:=H_ (show MkS w E (.cells (E_ (o_ g) L.length cap (some ⟨u,o1,none⟩) Fs.length c2 P3 n3 r3 P4 n4' r4 P5 n5' r5 P6 n6' r6 P7 n7' r7) 30 (0,0)) (.cells (pC (j:Int) k F J D I G H C) 85 (0,0)) y.c t B ct (W.alloc (.cells #[I_ (t:Int),S_ B (f_ t y.c).kids.length ct,I_ (f_ t y.c).val,I_ (f_ t y.c).marks] 58)) from
  ⟨m_ HX _,m_ HR _,m_ HF _,l_ W (.cells #[I_ (t:Int),S_ B (f_ t y.c).kids.length ct,I_ (f_ t y.c).val,I_ (f_ t y.c).marks] 58) (w+1+1+1) HZ,b_ HW _,k1,k2,k3,k4.step (b_ HW _)⟩)
 generalize W.alloc (.cells #[I_ (t:Int),S_ B (f_ t y.c).kids.length ct,I_ (f_ t y.c).val,I_ (f_ t y.c).marks] 58)=W2 at a;clear x0 x1 x2 x3 x4 x5 x6 f0 z2 z3 z4 z5 HX HR HF HW HZ k1 k2 k3 k4 hc;have g4:=a_ a.f 4;simp only[zl] at g4
 go_upto_if 23 with fail
 obtain ⟨a0,X⟩:=aZ ((D != 0));rw [<-X];have a6:=H_ X;clear g4 X;obtain ⟨wc,ad⟩:=aZ W2;subst ad
 go_cut [] (fun wx=>∃h1 A1 q,MkS w E (.cells (E_ (o_ g) L.length cap (some ⟨u,o1,none⟩) Fs.length c2 P3 n3 r3 P4 n4' r4 P5 n5' r5 P6 n6' r6 P7 n7' r7) 30 (0,0)) (.cells (pC (j:Int) k F J D I G H C) 85 (0,0)) (yZ a0 y.c k 1) h1 A1 q wx)
 case first=>
  cases a0 with
  | true=>
   obtain ⟨u0,u1,u2,u3⟩:=iH a.t;have Q:=a_ a.f 1;simp only[zl] at Q;have V:=p_ a.t;have o:=cr_ k 1 a.lf a.tr a.cl a.nk (fun z Z=>s2 z O_)
   go_wp2_with (first
    | (go_at_call 179;(with_reducible refine CM o ?_);rintro e w1 ⟨h2,A2,v,rfl,t1,c1,n1,d⟩;have m:=H_ (i_ a.t d))
    | (refine cV rfl 58 (.tmp 6) (.tmp 29) rfl rfl (w+1+1+1) _ rfl rfl 58 _ m L_ rfl (aD) ?_)
    | fail)
   go_meet
   case rel=>exact ⟨_,_,_,a.put d (mG a.lf k 1) t1 c1 n1 (fun h=>(s1 _ h).2.2 rfl)⟩
  | false=>
   obtain ⟨u0,u1,u2,u3⟩:=iH a.t;have Q:=a_ a.f 1;simp only[zl] at Q;have V:=p_ a.t;have o:=wX k 1 a.lf a.tr a.cl a.nk (fun z Z=>s2 z O_)
   go_wp2_with (first
    | (go_at_call 180;(with_reducible refine CM o ?_);rintro e w1 ⟨h2,A2,v,rfl,t1,c1,n1,d⟩;have m:=H_ (i_ a.t d))
    | (refine cV rfl 58 (.tmp 6) (.tmp 36) rfl rfl (w+1+1+1) _ rfl rfl 58 _ m L_ rfl (aD) ?_)
    | fail)
   go_meet
   case rel=>exact ⟨_,_,_,a.put d (jP a.lf k 1) t1 c1 n1 (fun h=>(s1 _ h).2.2 rfl)⟩
 case rest=>
  clear a;obtain ⟨h1,A1,q,hm⟩:=hcut;have a:=H_ hm;clear hm;obtain ⟨C3,R⟩:=aZ (yZ a0 y.c k 1);rw [<-R] at a;have a4:=H_ R;clear R;have g8:=a_ a.f 8;simp only[zl] at g8
  go_upto_if 40 with fail
  obtain ⟨a1,Y⟩:=aZ ((C != 0));rw [<-Y];have a7:=H_ Y;clear g8 Y
  go_cut [] (fun wx=>∃h1 A1 q,MkS w E (.cells (E_ (o_ g) L.length cap (some ⟨u,o1,none⟩) Fs.length c2 P3 n3 r3 P4 n4' r4 P5 n5' r5 P6 n6' r6 P7 n7' r7) 30 (0,0)) (.cells (pC (j:Int) k F J D I G H C) 85 (0,0)) (yZ a1 C3 k 2) h1 A1 q wx)
  case first=>
   cases a1 with
   | true=>
    obtain ⟨u0,u1,u2,u3⟩:=iH a.t;have Q:=a_ a.f 1;simp only[zl] at Q;have V:=p_ a.t;have o:=cr_ k 2 a.lf a.tr a.cl a.nk (fun z Z=>s2 z O_)
    go_wp2_with (first
     | (go_at_call 179;(with_reducible refine CM o ?_);rintro e w1 ⟨h2,A2,v,rfl,t1,c1,n1,d⟩;have m:=H_ (i_ a.t d))
     | (refine cV rfl 58 (.tmp 6) (.tmp 46) rfl rfl (w+1+1+1) _ rfl rfl 58 _ m L_ rfl (aD) ?_)
     | fail)
    go_meet
    case rel=>exact ⟨_,_,_,a.put d (mG a.lf k 2) t1 c1 n1 (fun h=>(s1 _ h).2.2 rfl)⟩
   | false=>
    obtain ⟨u0,u1,u2,u3⟩:=iH a.t;have Q:=a_ a.f 1;simp only[zl] at Q;have V:=p_ a.t;have o:=wX k 2 a.lf a.tr a.cl a.nk (fun z Z=>s2 z O_)
    go_wp2_with (first
     | (go_at_call 180;(with_reducible refine CM o ?_);rintro e w1 ⟨h2,A2,v,rfl,t1,c1,n1,d⟩;have m:=H_ (i_ a.t d))
     | (refine cV rfl 58 (.tmp 6) (.tmp 53) rfl rfl (w+1+1+1) _ rfl rfl 58 _ m L_ rfl (aD) ?_)
     | fail)
    go_meet
    case rel=>exact ⟨_,_,_,a.put d (jP a.lf k 2) t1 c1 n1 (fun h=>(s1 _ h).2.2 rfl)⟩
  case rest=>
   clear a;obtain ⟨l,O,dU,hm⟩:=hcut;have a:=H_ hm;clear hm;obtain ⟨s,U⟩:=aZ (yZ a1 C3 k 2);rw [<-U] at a;have a5:=H_ U;clear U;obtain ⟨W5,aa⟩:=aZ wc;subst aa;have H5:=H_ (h.step a.b);have a8:=H_ (LW.there H5.out ac (p:=2) (n:=4) O_);have g0:=xV a.f;obtain ⟨u0,u1,u2,u3⟩:=iH a.t;obtain ⟨x0,x1,x2,x3,x4,x5,x6⟩:=aF a.x
   go_upto_region 10 with (first
    | (refine pF rfl 58 (.tmp 61) (.tmp 59) rfl g (j*15+2) #[I_ (l:Int),S_ O (f_ l s).kids.length dU,I_ (f_ l s).val,I_ (f_ l s).marks] rfl rfl a8 L_ (aD) ?_)
    | fail)
   have LT:=H_ (LW.tree (L:=L) (h':=l) (A':=O) (cap':=dU) H5 hj a.lf a.tr a.cl a.nk);have P:=H_ ((u_ g (kK l O dU s) (j*15+2) W5 (w) O_).trans a.x);have K:=H_ ((u_ g (kK l O dU s) (j*15+2) W5 (w+1) O_).trans a.r);rw [show kK l O dU s=[I_ (l:Int),S_ O (f_ l s).kids.length dU,I_ (f_ l s).val,I_ (f_ l s).marks] from rfl] at LT P K;have a2:=H_ (J_ W5 g (j*15+2) [I_ (l:Int),S_ O (f_ l s).kids.length dU,I_ (f_ l s).val,I_ (f_ l s).marks]);generalize W5.setCells g (j*15+2) _=W6 at LT P K a2;clear x0 x1 x2 x3 x4 x5 x6;obtain ⟨x0,x1,x2,x3,x4,x5,x6⟩:=aF P.out
   go_wp2_with (refine aJ rfl (.tmp 4) (.tmp 62) rfl rfl rfl rfl K rfl ?_)
   show bodyPost prog f124 _ _ _ _
   refine bodyPost_ret (mB rfl rfl (setRow_heap _ _ _ _ _ _ K)) rfl ?_;have a9:=LW.kept (w':=W6.setRow (w+1) ((E_ (o_ g) L.length cap (some ⟨u,o1,none⟩) Fs.length c2 P3 n3 r3 P4 n4' r4 P5 n5' r5 P6 n6' r6 P7 n7' r7))) LT.out ⟨by simp [World.setRow],fun z N _=>setRow_other W6 (w+1) z ((E_ (o_ g) L.length cap (some ⟨u,o1,none⟩) Fs.length c2 P3 n3 r3 P4 n4' r4 P5 n5' r5 P6 n6' r6 P7 n7' r7)) (s1 z N).2.1⟩ (setRow_other W6 (w+1) g ((E_ (o_ g) L.length cap (some ⟨u,o1,none⟩) Fs.length c2 P3 n3 r3 P4 n4' r4 P5 n5' r5 P6 n6' r6 P7 n7' r7)) O_);refine ⟨rfl,?_,es_ a.b a2.out O_⟩;have e:eW L j y ⟨(j:Int),k,⟨F,J,D⟩,I,G,H,C⟩=L.set j {y with c:=s}:=by
    rw [a5.out,a4.out,a6.out,a7.out];simp only[eW,aT,yZ]
   rw [e];exact LW.weak a9 a3 (fun z _ h=>(s1 z h).1)
end
section
def TS (S:Nat->Prop) (gf gr gl gk:Nat):Nat->Prop:=fun z=>S z/\z≠gf/\z≠gr/\z≠gl/\z≠gk
abbrev cpV (gf nf cf gr nr cr:Nat) (c d:Value) (gl nl cl gk nk ck:Nat) (g:Value):Value:=
 cI (S_ (some ⟨gf,0,none⟩) nf cf) (S_ (some ⟨gr,0,none⟩) nr cr) c d (S_ (some ⟨gl,0,none⟩) nl cl) (S_ (some ⟨gk,0,none⟩) nk ck) g
structure eP (w:World) (S:Nat->Prop) (B gf nf cf gr nr cr:Nat) (c d:Value) (gl nl cl gk nk ck:Nat) (g:Value) (C:Ck):Prop where
 files:LW jG w (TS S gf gr gl gk) gf C.files
 frames:LW rM w (TS S gf gr gl gk) gr C.frames
 zones:LA pE w (TS S gf gr gl gk) c C.zones
 groups:LA qN w (TS S gf gr gl gk) d C.groups
 lists:LW sJ w (TS S gf gr gl gk) gl C.lists
 clocks:LW M_ w (TS S gf gr gl gk) gk C.clocks
 ptes:LA sA w (TS S gf gr gl gk) g C.ptes
 ef:C.files.length=nf
 er:C.frames.length=nr
 el:C.lists.length=nl
 ek:C.clocks.length=nk
 lf:nf<=cf
 lr:nr<=cr
 ll:nl<=cl
 lk:nk<=ck
 mf:cf<=maxLen
 mr:cr<=maxLen
 ml:cl<=maxLen
 mq:ck<=maxLen
 o1:B<=gf
 o2:gf<gr
 o3:gr<gl
 o4:gl<gk
 sf:S gf
 sr:S gr
 sl:S gl
 sk:S gk
section
variable {w w':World} {S:Nat->Prop} {B gf nf cf gr nr cr:Nat} {c d:Value} {gl nl cl gk nk ck:Nat} {g:Value} {C:Ck}
theorem eP.lt (h:eP w S B gf nf cf gr nr cr c d gl nl cl gk nk ck g C):gk<w:=h.clocks.lt
theorem eP.at_ (h:eP w S B gf nf cf gr nr cr c d gl nl cl gk nk ck g C):x_ w S (S_ (some ⟨gf,0,none⟩) nf cf) (S_ (some ⟨gr,0,none⟩) nr cr) c d (S_ (some ⟨gl,0,none⟩) nl cl) (S_ (some ⟨gk,0,none⟩) nk ck) g C:=by
 have o1:=h.o1;have o2:=h.o2;have o3:=h.o3;have o4:=h.o4;refine ⟨?_,?_,h.zones.weak fun z _ a=>a.1,h.groups.weak fun z _ a=>a.1,?_,?_,h.ptes.weak fun z _ a=>a.1⟩
 ·have:=h.files.la (S':=S) (cap:=cf) h.sf (fun z _ a=>a.1) (by rw [h.ef];exact h.lf) h.mf;rw [h.ef] at this;exact this
 ·have:=h.frames.la (S':=S) (cap:=cr) h.sr (fun z _ a=>a.1) (by rw [h.er];exact h.lr) h.mr;rw [h.er] at this;exact this
 ·have:=h.lists.la (S':=S) (cap:=cl) h.sl (fun z _ a=>a.1) (by rw [h.el];exact h.ll) h.ml;rw [h.el] at this;exact this
 ·have:=h.clocks.la (S':=S) (cap:=ck) h.sk (fun z _ a=>a.1) (by rw [h.ek];exact h.lk) h.mq;rw [h.ek] at this;exact this
theorem eP.kept (h:eP w S B gf nf cf gr nr cr c d gl nl cl gk nk ck g C) (hk:r_ (TS S gf gr gl gk) w w') (h1:w'.heap[gf]?=w.heap[gf]?) (h2:w'.heap[gr]?=w.heap[gr]?) (h3:w'.heap[gl]?=w.heap[gl]?) (h4:w'.heap[gk]?=w.heap[gk]?):eP w' S B gf nf cf gr nr cr c d gl nl cl gk nk ck g C:=
 ⟨h.files.kept hk h1,h.frames.kept hk h2,h.zones.kept hk,h.groups.kept hk,h.lists.kept hk h3,h.clocks.kept hk h4,h.ptes.kept hk,h.ef,h.er,h.el,h.ek,h.lf,h.lr,h.ll,h.lk,h.mf,h.mr,h.ml,h.mq,h.o1,h.o2,h.o3,h.o4,h.sf,h.sr,h.sl,h.sk⟩
theorem eP.step (h:eP w S B gf nf cf gr nr cr c d gl nl cl gk nk ck g C) (hb:q_ w w'):eP w' S B gf nf cf gr nr cr c d gl nl cl gk nk ck g C:=by
 have o2:=h.o2;have o3:=h.o3;have o4:=h.o4;have hl:=h.lt;exact h.kept (r_.of_below hb) (hb.block _ O_) (hb.block _ O_) (hb.block _ O_) (hb.block _ O_)
theorem eP.weak {S':Nat->Prop} {B':Nat} (h:eP w S B gf nf cf gr nr cr c d gl nl cl gk nk ck g C) (hB:B'<=B) (hS:∀z,S z->S' z) (hS':∀z,B'<=z->S' z):eP w S' B' gf nf cf gr nr cr c d gl nl cl gk nk ck g C:=by
 have up:∀z,z<w.heap.size->TS S gf gr gl gk z->TS S' gf gr gl gk z:=fun z _ a=>⟨hS z a.1,a.2⟩;have n1:¬TS S' gf gr gl gk gf:=fun h=>h.2.1 rfl;have n2:¬TS S' gf gr gl gk gr:=fun h=>h.2.2.1 rfl;have n3:¬TS S' gf gr gl gk gl:=fun h=>h.2.2.2.1 rfl;have b:¬TS S' gf gr gl gk gk:=fun h=>h.2.2.2.2 rfl;have o1:=h.o1;exact ⟨h.files.weak n1 up,h.frames.weak n2 up,h.zones.weak up,h.groups.weak up,h.lists.weak n3 up,h.clocks.weak b up,h.ptes.weak up,h.ef,h.er,h.el,h.ek,h.lf,h.lr,h.ll,h.lk,h.mf,h.mr,h.ml,h.mq,O_,h.o2,h.o3,h.o4,hS _ h.sf,hS _ h.sr,hS _ h.sl,hS _ h.sk⟩
theorem eP.fresh (h:eP w S B gf nf cf gr nr cr c d gl nl cl gk nk ck g C) (hS:∀z,w.heap.size<=z->S z) (z:Nat) (hz:w.heap.size<=z):TS S gf gr gl gk z:=by
 have o1:=h.o1;have o2:=h.o2;have o3:=h.o3;have o4:=h.o4;have hl:=h.lt;exact ⟨hS z hz,O_,O_,O_,O_⟩
theorem eP.but (h:eP w S B gf nf cf gr nr cr c d gl nl cl gk nk ck g C) (X:Nat) (hX:w.heap.size<=X):eP w (fun z=>S z/\z≠X) B gf nf cf gr nr cr c d gl nl cl gk nk ck g C:=by
 have up:∀z,z<w.heap.size->TS S gf gr gl gk z->TS (fun z=>S z/\z≠X) gf gr gl gk z:=fun z hl a=>⟨⟨a.1,O_⟩,a.2⟩;have n1:¬TS (fun z=>S z/\z≠X) gf gr gl gk gf:=fun h=>h.2.1 rfl;have n2:¬TS (fun z=>S z/\z≠X) gf gr gl gk gr:=fun h=>h.2.2.1 rfl;have n3:¬TS (fun z=>S z/\z≠X) gf gr gl gk gl:=fun h=>h.2.2.2.1 rfl;have b:¬TS (fun z=>S z/\z≠X) gf gr gl gk gk:=fun h=>h.2.2.2.2 rfl;have o2:=h.o2;have o3:=h.o3;have o4:=h.o4;have hl:=h.lt;exact ⟨h.files.weak n1 up,h.frames.weak n2 up,h.zones.weak up,h.groups.weak up,h.lists.weak n3 up,h.clocks.weak b up,h.ptes.weak up,h.ef,h.er,h.el,h.ek,h.lf,h.lr,h.ll,h.lk,h.mf,h.mr,h.ml,h.mq,h.o1,h.o2,h.o3,h.o4,⟨h.sf,O_⟩,⟨h.sr,O_⟩,⟨h.sl,O_⟩,⟨h.sk,O_⟩⟩
theorem eP.setRow (h:eP w S B gf nf cf gr nr cr c d gl nl cl gk nk ck g C) (X:Nat) (cs:Array Value) (hX:¬S X) (hB:X<B):eP (w.setRow X cs) S B gf nf cf gr nr cr c d gl nl cl gk nk ck g C:=by
 have o1:=h.o1;have o2:=h.o2;have o3:=h.o3;have o4:=h.o4;exact h.kept (r_.of_setRow w X cs fun a=>hX a.1) (setRow_other w X gf cs O_) (setRow_other w X gr cs O_) (setRow_other w X gl cs O_) (setRow_other w X gk cs O_)
theorem eP.setCell (h:eP w S B gf nf cf gr nr cr c d gl nl cl gk nk ck g C) (X p:Nat) (v:Value) (hX:¬S X) (hB:X<B):eP (w.setCell ⟨X,p,none⟩ v) S B gf nf cf gr nr cr c d gl nl cl gk nk ck g C:=by
 have o1:=h.o1;have o2:=h.o2;have o3:=h.o3;have o4:=h.o4;have a:∀z,z≠X->(w.setCell ⟨X,p,none⟩ v).heap[z]?=w.heap[z]?:=fun z b=>jO w ⟨X,p,none⟩ v z b;exact h.kept (r_.of_setCell w ⟨X,p,none⟩ v fun b=>hX b.1) (a _ O_) (a _ O_) (a _ O_) (a _ O_)
theorem eP.setCellX (h:eP w S B gf nf cf gr nr cr c d gl nl cl gk nk ck g C) (X p:Nat) (v:Value) (hX:¬S X) (hB:gk<X):eP (w.setCell ⟨X,p,none⟩ v) S B gf nf cf gr nr cr c d gl nl cl gk nk ck g C:=by
 have o1:=h.o1;have o2:=h.o2;have o3:=h.o3;have o4:=h.o4;have a:∀z,z≠X->(w.setCell ⟨X,p,none⟩ v).heap[z]?=w.heap[z]?:=fun z b=>jO w ⟨X,p,none⟩ v z b;exact h.kept (r_.of_setCell w ⟨X,p,none⟩ v fun b=>hX b.1) (a _ O_) (a _ O_) (a _ O_) (a _ O_)
theorem eP.putFiles {fs:List Fl} (h:eP w S B gf nf cf gr nr cr c d gl nl cl gk nk ck g C) (hg:w.grownBy w' (some gf)) (hf:LW jG w' (TS S gf gr gl gk) gf fs) (hn:fs.length=C.files.length):eP w' S B gf nf cf gr nr cr c d gl nl cl gk nk ck g {C with files:=fs}:=by
 have o2:=h.o2;have o3:=h.o3;have o4:=h.o4;have hl:=h.lt;have a:r_ (TS S gf gr gl gk) w w':=r_.of_gb hg fun k e a=>by cases e;exact a.2.1 rfl
 exact ⟨hf,h.frames.kept a (hg.block _ O_ (by simp;omega)),h.zones.kept a,h.groups.kept a,h.lists.kept a (hg.block _ O_ (by simp;omega)),h.clocks.kept a (hg.block _ O_ (by simp;omega)),h.ptes.kept a,hn.trans h.ef,h.er,h.el,h.ek,h.lf,h.lr,h.ll,h.lk,h.mf,h.mr,h.ml,h.mq,h.o1,h.o2,h.o3,h.o4,h.sf,h.sr,h.sl,h.sk⟩
theorem eP.putFrames {rs:List Fr} (h:eP w S B gf nf cf gr nr cr c d gl nl cl gk nk ck g C) (hg:w.grownBy w' (some gr)) (hf:LW rM w' (TS S gf gr gl gk) gr rs) (hn:rs.length=C.frames.length):eP w' S B gf nf cf gr nr cr c d gl nl cl gk nk ck g {C with frames:=rs}:=by
 have o2:=h.o2;have o3:=h.o3;have o4:=h.o4;have hl:=h.lt;have a:r_ (TS S gf gr gl gk) w w':=r_.of_gb hg fun k e a=>by cases e;exact a.2.2.1 rfl
 exact ⟨h.files.kept a (hg.block _ O_ (by simp;omega)),hf,h.zones.kept a,h.groups.kept a,h.lists.kept a (hg.block _ O_ (by simp;omega)),h.clocks.kept a (hg.block _ O_ (by simp;omega)),h.ptes.kept a,h.ef,hn.trans h.er,h.el,h.ek,h.lf,h.lr,h.ll,h.lk,h.mf,h.mr,h.ml,h.mq,h.o1,h.o2,h.o3,h.o4,h.sf,h.sr,h.sl,h.sk⟩
theorem eP.putLists {ls:List Lr} (h:eP w S B gf nf cf gr nr cr c d gl nl cl gk nk ck g C) (hg:w.grownBy w' (some gl)) (hf:LW sJ w' (TS S gf gr gl gk) gl ls) (hn:ls.length=C.lists.length):eP w' S B gf nf cf gr nr cr c d gl nl cl gk nk ck g {C with lists:=ls}:=by
 have o2:=h.o2;have o3:=h.o3;have o4:=h.o4;have hl:=h.lt;have a:r_ (TS S gf gr gl gk) w w':=r_.of_gb hg fun k e a=>by cases e;exact a.2.2.2.1 rfl
 exact ⟨h.files.kept a (hg.block _ O_ (by simp;omega)),h.frames.kept a (hg.block _ O_ (by simp;omega)),h.zones.kept a,h.groups.kept a,hf,h.clocks.kept a (hg.block _ O_ (by simp;omega)),h.ptes.kept a,h.ef,h.er,hn.trans h.el,h.ek,h.lf,h.lr,h.ll,h.lk,h.mf,h.mr,h.ml,h.mq,h.o1,h.o2,h.o3,h.o4,h.sf,h.sr,h.sl,h.sk⟩
theorem eP.putClocks {ks:List Int} (h:eP w S B gf nf cf gr nr cr c d gl nl cl gk nk ck g C) (hg:w.grownBy w' (some gk)) (hf:LW M_ w' (TS S gf gr gl gk) gk ks) (hn:ks.length=C.clocks.length):eP w' S B gf nf cf gr nr cr c d gl nl cl gk nk ck g {C with clocks:=ks}:=by
 have o2:=h.o2;have o3:=h.o3;have o4:=h.o4;have hl:=h.lt;have a:r_ (TS S gf gr gl gk) w w':=r_.of_gb hg fun k e a=>by cases e;exact a.2.2.2.2 rfl
 exact ⟨h.files.kept a (hg.block _ O_ (by simp;omega)),h.frames.kept a (hg.block _ O_ (by simp;omega)),h.zones.kept a,h.groups.kept a,h.lists.kept a (hg.block _ O_ (by simp;omega)),hf,h.ptes.kept a,h.ef,h.er,h.el,hn.trans h.ek,h.lf,h.lr,h.ll,h.lk,h.mf,h.mr,h.ml,h.mq,h.o1,h.o2,h.o3,h.o4,h.sf,h.sr,h.sl,h.sk⟩
theorem eP.frame (h:eP w S B gf nf cf gr nr cr c d gl nl cl gk nk ck g C) (hi:i<C.frames.length) (x:Fr):eP (w.setCells gr (i*9) x.row) S B gf nf cf gr nr cr c d gl nl cl gk nk ck g {C with frames:=C.frames.set i x}:=
 h.putFrames (J_ w gr (i*9) x.row) (h.frames.frame hi x) z_
theorem eP.with_ {c' d' g':Value} {zs:List Zn} {gs:List Gr} {ps:List Pt} (h:eP w S B gf nf cf gr nr cr c d gl nl cl gk nk ck g C) (hz:LA pE w (TS S gf gr gl gk) c' zs) (hg:LA qN w (TS S gf gr gl gk) d' gs) (hp:LA sA w (TS S gf gr gl gk) g' ps):eP w S B gf nf cf gr nr cr c' d' gl nl cl gk nk ck g' {C with zones:=zs,groups:=gs,ptes:=ps}:=
 ⟨h.files,h.frames,hz,hg,h.lists,h.clocks,hp,h.ef,h.er,h.el,h.ek,h.lf,h.lr,h.ll,h.lk,h.mf,h.mr,h.ml,h.mq,h.o1,h.o2,h.o3,h.o4,h.sf,h.sr,h.sl,h.sk⟩
end
structure qK (C:Ck):Prop where
 files:0<C.files.length/\C.files.length<=100
 frames:0<C.frames.length/\C.frames.length<=100
 groups:0<C.groups.length/\C.groups.length<=100
 lists:0<C.lists.length/\C.lists.length<=100
 clocks:0<C.clocks.length/\C.clocks.length<=100
def xL (C:Ck) (S:Nat->Prop) (w:World) (en:Ending) (w':World):Prop:=∃gf nf cf gr nr cr c d gl nl cl gk nk ck g,en = .returned (cpV gf nf cf gr nr cr c d gl nl cl gk nk ck g)/\eP w' S (w) gf nf cf gr nr cr c d gl nl cl gk nk ck g C/\q_ w w'
theorem kX (C:Ck) (a b c d e f g:Value) (S:Nat->Prop) (w:World) (h:x_ w S a b c d e f g C) (hl:qK C) (hS:∀z,w.heap.size<=z->S z):C_ 21 #[cI a b c d e f g] w (xL C S w):=by
 refine (if_ h ⟨hl.files.2,hl.frames.2,hl.groups.2,hl.lists.2,hl.clocks.2⟩).mono ?_;rintro J w' ⟨a',b',B,I,f',n1,n2,n3,G,rfl,hc,k⟩;have i:=h.zones.oldB k;have F:=h.ptes.oldB k;obtain ⟨gf,y,rfl,c1,c2,O,l⟩:=hc.files.lw hl.files.1;obtain ⟨gr,A,rfl,r,s,P,p⟩:=hc.frames.lw hl.frames.1;obtain ⟨j,cl,rfl,t,u,Q,o⟩:=hc.lists.lw hl.lists.1;obtain ⟨gk,ck,rfl,v,x,R,n⟩:=hc.clocks.lw hl.clocks.1;have V:gf<n1:=hc.lt1 gf rfl;have W:gr<n2:=hc.lt2 gr rfl;have X:j<G:=hc.lt4 j rfl;have K:=hc.le1;have L:=hc.le2;have M:=hc.le3;have N:=hc.le4;have up:∀z,S z/\z<w.heap.size->TS S gf gr j gk z:=fun z i=>⟨i.1,O_,O_,O_,O_⟩;refine ⟨gf,C.files.length,y,gr,C.frames.length,A,c,B,j,C.lists.length,cl,gk,C.clocks.length,ck,g,rfl,?_,k⟩;refine ⟨l.weak (fun h=>h.2.1 rfl) fun z _ i=>up z i.1,p.weak (fun h=>h.2.2.1 rfl) fun z _ i=>up z i.1,i.weak fun z _ i=>up z i,?_,o.weak (fun h=>h.2.2.2.1 rfl) fun z _ i=>up z i.1,n.weak (fun h=>h.2.2.2.2 rfl) fun z _ i=>up z i.1,F.weak fun z _ i=>up z i,rfl,rfl,rfl,rfl,c1,r,t,v,c2,s,u,x,O_,O_,O_,O_,hS _ O_,hS _ O_,hS _ O_,hS _ O_⟩;obtain ⟨q,H,rfl,D,E,U,m⟩:=hc.groups.lw hl.groups.1;have Y:q<n3:=hc.lt3 q rfl;exact m.la ⟨hS _ O_,O_,O_,O_,O_⟩ (fun z _ i=>up z i.1) D E
end
section
theorem lA:(prog.info? 85).map (·.size)=some 9:=by kernel_rfl
abbrev frV (x:Fr):Value:= .agg (fG x.file x)
theorem yB (x:Fr):(fG x.file x).all (·.oneCell')=true:=by simp [Value.oneCell']
def eY (C:Ck) (i j:Nat) (y:Fl) (x:Fr):Ck:={C with frames:=C.frames.set i x,files:=eW C.files j y x}
theorem nE (i j:Nat) (x:Fr) (y:Fl) {b e f g:Value} (h:x_ w S a b c d e f g C) (hl:qK C) (hi:i<C.frames.length) (hj:C.files[j]?=some y) (hxf:x.file=j) (hS:∀z,w.heap.size<=z->S z) :
  C_ 55 #[cI a b c d e f g,I_ ((i:Int)+1),frV x] w (xL (eY C i j y x) S w):=by
 obtain ⟨G,q⟩:=aZ (fun z=>S z/\z≠w.heap.size/\z≠w.heap.size+1/\z≠w.heap.size+1+1);have s1:∀z,G z->S z/\z≠w.heap.size/\z≠w.heap.size+1/\z≠w.heap.size+1+1:=fun z o=>by rw [q] at o;exact o
 have s2:∀z,w.heap.size+1+1<z->G z:=fun z o=>by rw [q];exact ⟨hS z O_,O_,O_,O_⟩
 replace h:x_ w G a b c d e f g C:=h.weak (fun z o h=>by rw [q];exact ⟨h,O_,O_,O_⟩);clear q;obtain ⟨u,N,c1,v,O,c2,A,P,I,B,Q,J,D,R,K,E,U,L,F,V,M,rfl,rfl,rfl,rfl,rfl,rfl,rfl⟩:=x_.caps h;obtain ⟨H,HL,HJ,ad⟩:=sP h hl hj hxf;have i2:(i:Int)<(C.frames.length:Int):=O_
 have ae:C.frames.length<=100:=hl.frames.2;clear h hl hj hxf;have HX:=H_ (m_ (m_ (g_ w (.cells (E_ u N c1 v O c2 A P I B Q J D R K E U L F V M) 30)) (oF x)) (cG));have HF:=H_ (m_ (l_ (w.alloc (.cells (E_ u N c1 v O c2 A P I B Q J D R K E U L F V M) 30)) (oF x) (w+1) z_) (cG));have HR:=H_ (l_ ((w.alloc (.cells (E_ u N c1 v O c2 A P I B Q J D R K E U L F V M) 30)).alloc (oF x)) (cG) (w+1+1) z_);have HW:=H_ (b_ (b_ (b_ (aI (w) w) (.cells (E_ u N c1 v O c2 A P I B Q J D R K E U L F V M) 30)) (oF x)) (cG));have HZ:(((w.alloc (.cells (E_ u N c1 v O c2 A P I B Q J D R K E U L F V M) 30)).alloc (oF x)).alloc (cG)).heap.size=w.heap.size+1+1+1:=z_
 go_enter func55,ntmps55
 go_upto_region 1 with fail
 generalize ((w.alloc (.cells (E_ u N c1 v O c2 A P I B Q J D R K E U L F V M) 30)).alloc (oF x)).alloc (cG)=W at HX HR HF HW HZ;obtain ⟨x0,x1,x2,x3,x4,x5,x6⟩:=aF HX.out
 go_upto_region 2 with (first
  | (go_at_call 21;(with_reducible refine CM (kX C _ _ _ _ _ _ _ G _ (H.out.step HW.out) HL.out (fun z o=>s2 z (by omega))) ?_);rintro e w1 ⟨gf,nf,cf,gr,nr,cr,c',d',gl,nl,cl,gk,nk,ck,g',rfl,m,a2⟩;obtain ⟨P3,n3,r3,rfl⟩:=m.zones.cap;obtain ⟨P4,n4,r4,rfl⟩:=m.groups.cap;obtain ⟨P7,n7,r7,rfl⟩:=m.ptes.cap;have ef:=m.ef;subst ef;have er:=m.er;subst er;obtain ⟨Z,a8,a6,aa⟩:=iC HX HR HF HW a2;have a4:=H_ m;clear m a2)
  | (refine aJ rfl (.tmp 3) (.tmp 8) rfl rfl rfl rfl Z rfl ?_)
  | fail)
 have l:=H_ (a4.setRow (w) (E_ (o_ gf) C.files.length cf (o_ gr) C.frames.length cr P3 n3 r3 P4 n4 r4 (o_ gl) nl cl (o_ gk) nk ck P7 n7 r7) (fun o=>(s1 _ o).2.1 rfl) O_);generalize hW9:w1.setRow (w) (E_ (o_ gf) C.files.length cf (o_ gr) C.frames.length cr P3 n3 r3 P4 n4 r4 (o_ gl) nl cl (o_ gk) nk ck P7 n7 r7)=W2 at l;have a0:=srs hW9 Z;have a7:=srx hW9 a6;have a9:=srx hW9 a8;have ab:=srl hW9 aa;clear hW9
 clear x0 x1 x2 x3 x4 x5 x6;obtain ⟨x0,x1,x2,x3,x4,x5,x6⟩:=aF a0.out;obtain ⟨f0,f1,f2,f3,f4,f5,f6,f7,f8⟩:=sE a7.out;have Y:=H_ (LW.there l.frames hi (p:=0) (n:=9) O_);rw [Nat.add_zero] at Y
 go_upto_region 3 with (first
  | (refine pF rfl 85 (.tmp 14) (.tmp 13) rfl gr (i*9) (fG x.file x) rfl rfl Y lA (yB x) ?_)
  | fail)
 have k:=H_ (l.frame hi x);have a1:=H_ ((u_ gr [I_ x.file,I_ x.page,.string x.pg.data,I_ x.pg.valid,I_ x.pg.dirty,I_ x.tenant,I_ x.holds,I_ x.reading,I_ x.writing] (i*9) W2 (w) (by have:=l.o2;have:=l.o1;omega)).trans a0.out);have s:=H_ ((u_ gr [I_ x.file,I_ x.page,.string x.pg.data,I_ x.pg.valid,I_ x.pg.dirty,I_ x.tenant,I_ x.holds,I_ x.reading,I_ x.writing] (i*9) W2 (w+1+1) (by have:=l.o2;have:=l.o1;omega)).trans a9.out);have t:=H_ (aS ab (by have:=l.o2;have:=l.o1;omega:w<=gr) (i*9) [I_ x.file,I_ x.page,.string x.pg.data,I_ x.pg.valid,I_ x.pg.dirty,I_ x.tenant,I_ x.holds,I_ x.reading,I_ x.writing]);rw [show x.row=[I_ x.file,I_ x.page,.string x.pg.data,I_ x.pg.valid,I_ x.pg.dirty,I_ x.tenant,I_ x.holds,I_ x.reading,I_ x.writing] from rfl] at k;generalize W2.setCells gr (i*9) _=W3 at k a1 s t;clear x0 x1 x2 x3 x4 x5 x6 f0 f1 f2 f3 f4 f5 f6 f7 f8;obtain ⟨x0,x1,x2,x3,x4,x5,x6⟩:=aF a1.out
 go_wp2_with (first
  | (go_at_call 124;(with_reducible refine CM (f8_ i j x y cf k.out.files k.out.at_.frames (nU hi) HJ.out ad.out HL.out.files.2 (by rw [lL];exact ae) k.out.lf (k.out.fresh (fun z o=>s2 z (by have:=k.out.lt;have:=k.out.o1;have:=k.out.o2;have:=k.out.o3;have:=k.out.o4;omega)))) ?_);rintro e w4 ⟨rfl,a3,r⟩;have a5:=H_ (k.putFiles r a3 (oR _ _ _ _));have X:=H_ ((r.block _ (p_ s) (by have:=k.o1;simp;omega)).trans s.out);have ac:=H_ (t.grown r t.size (fun b hb=>by have:=k.o1;cases hb;omega));clear a3 r)
  | (refine aJ rfl (.tmp 6) (.tmp 17) rfl rfl rfl rfl X rfl ?_))
 show bodyPost prog f55 _ _ _ _
 refine bodyPost_ret (mB rfl rfl (setRow_heap _ _ _ _ _ _ X)) rfl ?_;refine ⟨gf,_,cf,gr,_,cr,_,_,gl,nl,cl,gk,nk,ck,_,rfl,?_,j_ ac.out O_ _⟩;exact (a5.setRow (w+1+1) (E_ (o_ gf) C.files.length cf (o_ gr) C.frames.length cr P3 n3 r3 P4 n4 r4 (o_ gl) nl cl (o_ gk) nk ck P7 n7 r7) (fun o=>(s1 _ o).2.2.2 rfl) O_).weak O_ (fun z o=>(s1 z o).1) hS
end
section
def SK.lr2 (T:Nat->Prop) (a:Lr) (err:Int) {S:Nat->Prop} (hT:∀z,T z->S z):SK S:=⟨fun v w=>∃v1 v2 v3,v = .tuple #[.agg #[v1,v2,v3],I_ err]/\sI w T v1 v2 v3 a,fun v w w' hk ⟨v1,v2,v3,e,h⟩=>⟨v1,v2,v3,e,h.kept ⟨hk.1,fun z hz=>hk.2 z (hT z hz)⟩⟩⟩
def SK.lr (T:Nat->Prop) (a:Lr) {S:Nat->Prop} (hT:∀z,T z->S z):SK S:=⟨fun v w=>∃v1 v2 v3,v = .agg #[v1,v2,v3]/\sI w T v1 v2 v3 a,fun v w w' hk ⟨v1,v2,v3,e,h⟩=>⟨v1,v2,v3,e,h.kept ⟨hk.1,fun z hz=>hk.2 z (hT z hz)⟩⟩⟩
theorem LW.lr_at {L:List Lr} (h:LW sJ w S g L) {x:Lr} (hi:L[i]?=some x):∃A1 n1 c1 A2 n2 c2 A3 n3 c3,sI w S (S_ A1 n1 c1) (S_ A2 n2 c2) (S_ A3 n3 c3) x/\w.cell? ⟨g,i*3,none⟩=some (S_ A1 n1 c1)/\w.cell? ⟨g,i*3+1,none⟩=some (S_ A2 n2 c2)/\w.cell? ⟨g,i*3+2,none⟩=some (S_ A3 n3 c3):=by
 obtain ⟨r,b,hc⟩:=h.at_ hi;obtain ⟨v1,v2,v3,rfl,a⟩:=b;obtain ⟨A1,n1,c1,rfl⟩:=a.1.cap;obtain ⟨A2,n2,c2,rfl⟩:=a.2.1.cap;obtain ⟨A3,n3,c3,rfl⟩:=a.2.2.cap;exact ⟨A1,n1,c1,A2,n2,c2,A3,n3,c3,a,hc 0 _ rfl,hc 1 _ rfl,hc 2 _ rfl⟩
def zJ (C:Ck) (t:Nat) (l:Lr) (i:Nat):Ck:={C with lists:=C.lists.set t (dP l ((i:Int)+1))}
theorem dQ_ (i t:Nat) (fr:Fr) {l:Lr} {b e f g:Value} (h:x_ w S a b c d e f g C) (hl:qK C) (hx:C.frames[i]?=some fr) (hft:fr.tenant=t) (hlt:C.lists[t]?=some l) (ok:eQ l) (hi64:i<64) (hS:∀z,w.heap.size<=z->S z) :
  C_ 154 #[cI a b c d e f g,I_ ((i:Int)+1)] w (xL (zJ C t l i) S w):=by
 obtain ⟨A,s1,s2,s3⟩:=oB hS;replace h:=h.weak s3;clear s3;obtain ⟨A1,m1,c1,A2,m2,c2,A3,m3,c3,A4,m4,c4,A5,m5,c5,A6,m6,c6,A7,m7,c7,rfl,rfl,rfl,rfl,rfl,rfl,rfl⟩:=x_.caps h;have ah:=bK hx;have a8:=bK hlt;have i2:(i:Int)<(C.frames.length:Int):=O_
 have t2:(t:Int)<(C.lists.length:Int):=O_
 have ai:C.frames.length<=100:=hl.frames.2;have aj:C.lists.length<=100:=hl.lists.2;obtain ⟨H,HL,ac,aa,ab,OK⟩:=h6_ h hl hlt hx hft ok;clear h hl hlt hx hft ok;go_enter func154,ntmps154
 go_upto_region 1 with fail
 generalize hW9:(w.alloc _).alloc _=W;obtain ⟨HX,HR,HW,HZ⟩:=fV hW9;clear hW9;obtain ⟨x0,x1,x2,x3,X,x5,x6⟩:=aF HX.out
 go_upto_region 2 with (first
  | (go_at_call 21;(with_reducible refine CM (kX C _ _ _ _ _ _ _ A _ (H.out.step HW.out) HL.out (fun z J=>s2 z (by omega))) ?_);rintro e w1 ⟨gf,nf,B,gr,nr,D,c',d',k,nl,cl,gk,nk,ck,g',rfl,u,a5⟩;obtain ⟨E,n3,Q,rfl⟩:=u.zones.cap;obtain ⟨F,L,R,rfl⟩:=u.groups.cap;obtain ⟨G,M,U,rfl⟩:=u.ptes.cap;have el:=u.el;subst el;have er:=u.er;subst er;obtain ⟨a1,ad,ae⟩:=bN HX HR HW a5;have a9:=H_ u;clear u a5)
  | (refine aJ rfl (.tmp 2) (.tmp 7) rfl rfl rfl rfl a1 rfl ?_)
  | fail)
 have m:=H_ (a9.setRow (w) (E_ (o_ gf) nf B (o_ gr) C.frames.length D E n3 Q F L R (o_ k) C.lists.length cl (o_ gk) nk ck G M U) (fun J=>(s1 _ J).2.1 rfl) O_);generalize hW9:w1.setRow (w) (E_ (o_ gf) nf B (o_ gr) C.frames.length D E n3 Q F L R (o_ k) C.lists.length cl (o_ gk) nk ck G M U)=V at m;have x:=srs hW9 a1;have Y:=srx hW9 ad;have a0:=srl hW9 ae;clear hW9;clear x0 x1 x2 x3 X x5 x6;obtain ⟨x0,x1,x2,x3,X,x5,x6⟩:=aF x.out;have y5:V.cell? ⟨gr,i*9+5,none⟩=some (I_ (t:Int)):=by rw [<-ab.out];exact LW.frame_at m.frames aa 5 _ rfl
 go_upto_region 3 with fail
 clear y5;obtain ⟨E1,k1,e1,E2,k2,e2,E3,k3,e3,v,l0,l1,l2⟩:=LW.lr_at m.lists ac.out;have HA:=H_ v;clear v;have I:=p_ x;have y:=m.lists.lt
 go_cut [] (fun wx=>eP wx A (W) gf nf B gr C.frames.length D (S_ E n3 Q) (S_ F L R) k C.lists.length cl gk nk ck (S_ G M U) (zJ C t l i)/\aW wx (w) (E_ (o_ gf) nf B (o_ gr) C.frames.length D E n3 Q F L R (o_ k) C.lists.length cl (o_ gk) nk ck G M U) 30/\wx.heap[w.heap.size+1]?=some (cG)/\q_ w wx)
 case first=>
  refine bG (S:=TS A gf gr k gk) 30 14 (inL [0,1,2,3,4,5,6,7,8,9,10,11,13]) (fun wx=>eP wx A (W) gf nf B gr C.frames.length D (S_ E n3 Q) (S_ F L R) k C.lists.length cl gk nk ck (S_ G M U) (zJ C t l i)/\aW wx (w) (E_ (o_ gf) nf B (o_ gr) C.frames.length D E n3 Q F L R (o_ k) C.lists.length cl (o_ gk) nk ck G M U) 30/\wx.heap[w.heap.size+1]?=some (cG)/\q_ w wx) [SK.eq (.pointer (some ⟨w,4,none⟩)),SK.eq (S_ (some ⟨k,0,none⟩) C.lists.length cl),SK.eq (I_ (t:Int)),SK.eq (.pointer (some ⟨w,4,none⟩)),SK.eq (S_ (some ⟨k,0,none⟩) C.lists.length cl),SK.eq (I_ (t:Int)),SK.eq (.pointer (some ⟨k,t*3,none⟩)),SK.eq (.agg #[S_ E1 k1 e1,S_ E2 k2 e2,S_ E3 k3 e3]),SK.eq (I_ ((i:Int)+1)),SK.lr2 (TS A gf gr k gk) (dP l ((i:Int)+1)) (if eU l ((i:Int)+1)=true then 0 else 4) (fun _ h=>h),SK.lr2 (TS A gf gr k gk) (dP l ((i:Int)+1)) (if eU l ((i:Int)+1)=true then 0 else 4) (fun _ h=>h),SK.lr (TS A gf gr k gk) (dP l ((i:Int)+1)) (fun _ h=>h),SK.eq (I_ (if eU l ((i:Int)+1)=true then 0 else 4)),SK.eq (.pointer (some ⟨k,t*3,none⟩)),SK.any] s_ s_ rfl (fun _=>trivial) ?_;refine qP fun v0=>?_;simp only[ly];refine k_ rfl rfl (fun xw r q K s=>?_) (fun v1=>?_)
  ·obtain rfl:v0=_:=q 0 s_;have j:q_ V xw:=r;have u0:=(j.cell (p:=⟨w,_,none⟩) I).trans X;go_simp;exact s _ _ r K_ rfl
  simp only[ly];refine qP fun v2=>qP fun v3=>?_;simp only[ly];refine k_ rfl rfl (fun xw r q K s=>?_) (fun v4=>?_)
  ·obtain rfl:v3=_:=q 3 s_;have j:q_ V xw:=r;have u0:=(j.cell (p:=⟨w,_,none⟩) I).trans X;go_simp;exact s _ _ r K_ rfl
  simp only[ly];refine qP fun v5=>qP fun v6=>?_;simp only[ly];refine k_ rfl rfl (fun xw r q K s=>?_) (fun v7=>?_)
  ·obtain rfl:v6=_:=q 6 s_;have j:q_ V xw:=r;have u0:=(j.cell (p:=⟨k,_,none⟩) y).trans l0;have u1:=(j.cell (p:=⟨k,_,none⟩) y).trans l1;have u2:=(j.cell (p:=⟨k,_,none⟩) y).trans l2;go_simp;exact s _ _ r K_ rfl
  simp only[ly];refine qP fun v8=>?_;simp only[ly];refine k_ rfl rfl (fun xw r q K s=>?_) (fun v9=>?_)
  ·obtain rfl:v7=_:=q 7 s_;obtain rfl:v8=_:=q 8 s_;have j:q_ V xw:=r;go_simp
   go_at_call 197
   refine (hd_ ((i:Int)+1) (HA.step j) OK.out ⟨O_,O_⟩ (m.step j |>.fresh (fun z J=>s2 z (by have:=m.lt;have:=j.size;have:=m.o1;have:=m.o2;have:=m.o3;have:=m.o4;omega)))).mono ?_;rintro e w1 ⟨N,O,P,rfl,v,hb⟩;exact s _ _ (d_ j hb) (r_.of_below hb) ⟨N,O,P,rfl,v⟩
  simp only[ly];refine k_ rfl rfl (fun xw r q K s=>?_) (fun v10=>?_)
  ·obtain ⟨N,O,P,e,v⟩:=q 9 s_;obtain rfl:v9=_:=e;go_simp;exact s _ _ r K_ ⟨N,O,P,rfl,v⟩
  simp only[ly];refine k_ rfl rfl (fun xw r q K s=>?_) (fun v11=>?_)
  ·obtain ⟨N,O,P,e,v⟩:=q 10 s_;obtain rfl:v10=_:=e;go_simp;exact s _ _ r K_ ⟨N,O,P,rfl,v⟩
  simp only[ly];refine cD rfl (fun w=>r_.refl w) (fun xw q K s=>?_) (fun v12=>?_)
  ·obtain ⟨N,O,P,e,v⟩:=q 10 s_;obtain rfl:v10=_:=e;go_simp;exact s _ rfl
  simp only[ly];refine qP fun v13=>?_;simp only[ly];refine aL (fun xw r q K s=>?_) (fun v14=>?_)
  ·obtain rfl:v13=_:=q 13 s_;obtain ⟨N,O,P,e,v⟩:=q 11 s_;obtain rfl:v11=_:=e;have j:q_ V xw:=r;obtain ⟨B1,j1,f1,rfl⟩:=v.1.cap;obtain ⟨B2,j2,f2,rfl⟩:=v.2.1.cap;obtain ⟨B3,j3,f3,rfl⟩:=v.2.2.cap;have o:=m.step j;have a7:=LW.there o.lists a8 (p:=0) (n:=3) O_;rw [Nat.add_zero] at a7;have a6:k≠w/\k≠w+1:=by have:=o.o1;have:=o.o2;have:=o.o3;omega
   refine aO (ops:=#[]) rfl (pF rfl 119 (.tmp 28) (.tmp 26) rfl k (t*3) #[S_ B1 j1 f1,S_ B2 j2 f2,S_ B3 j3 f3] rfl rfl a7 cY (rF) ?_);refine s undef _ ⟨o.putLists (J_ xw k (t*3) _) (o.lists.set a8 ⟨_,_,_,rfl,v⟩) z_,?_,?_,?_⟩ (r_.of_setCells _ _ _ _ (fun h=>h.2.2.2.1 rfl)) trivial
   ·exact (u_ k _ (t*3) xw (w) a6.1.symm).trans (i_ x j)
   ·exact (u_ k _ (t*3) xw (w+1) a6.2.symm).trans (i_ Y j)
   ·exact aS (d_ a0 j) (by have:=o.o1;have:=o.o2;have:=o.o3;omega) _ _
  simp only[ly];refine aY ?_;intro wz hD hG;clear hG;go_wp2;go_meet
  case rel=>exact hD
 case rest=>
  clear x0 x1 x2 x3 X x5 x6 l0 l1 l2 I y x Y a0;obtain ⟨a2,ag,a3,a4⟩:=hcut;obtain ⟨o,Z,af⟩:=eT a2 a3 a4;clear a2 a3 a4;obtain ⟨x0,x1,x2,x3,X,x5,x6⟩:=aF ag
  go_wp2_with (refine aJ rfl (.tmp 4) (.tmp 29) rfl rfl rfl rfl Z rfl ?_)
  show bodyPost prog f154 _ _ _ _
  refine bodyPost_ret (mB rfl rfl (setRow_heap _ _ _ _ _ _ Z)) rfl ?_;refine ⟨gf,_,B,gr,_,D,_,_,k,_,cl,gk,nk,ck,_,rfl,?_,j_ af.out O_ _⟩;exact (o.setRow (w+1) (E_ (o_ gf) nf B (o_ gr) C.frames.length D E n3 Q F L R (o_ k) C.lists.length cl (o_ gk) nk ck G M U) (fun J=>(s1 _ J).2.2 rfl) O_).weak O_ (fun z J=>(s1 z J).1) hS
end
section
def a2_ (P:Ck->Prop) (S:Nat->Prop) (w:World) (en:Ending) (w':World):Prop:=∃C' err a b c d e f g,P C'/\en = .returned (.tuple #[cI a b c d e f g,I_ err])/\x_ w' S a b c d e f g C'/\q_ w w'
theorem bQ {p q:Tmp} (h:fn.results=#[.cell p 30,.tmp q]) {t:TypeId} {fr:Nat × Nat} {u:Value}
  (hp:tmps.getD p undef = P_ g) (hq:tmps.getD q undef=u) (hg:w.heap[g]?=some (.cells #[x0,x1,x2,x3,x4,x5,x6] t fr)):(results fn tmps).run prog w = .ok (.tuple #[cI x0 x1 x2 x3 x4 x5 x6,u]) w:=
 dm_ h tmps t fr u hp hq hg underlying30 rfl fI
structure fE (x:Fr):Prop where
 page:0<=x.page/\x.page<8
 tenant:0<=x.tenant/\x.tenant<2
 pg:jC x.pg
 holds:0<=x.holds/\x.holds<=255
 reading:0<=x.reading/\x.reading<=3
 writing:0<=x.writing/\x.writing<=3
structure dE (C:Ck) (i:Nat) (x:Fr) (j:Nat) (y:Fl):Prop where
 fr:C.frames[i]?=some x
 fl:C.files[j]?=some y
 ix:x.file=j
 ok:fE x
theorem dE.used {x:Fr} (h:dE C i x j y):aS_ x=true:=by
 show (x.file != -1)=true
 rw [h.ix];exact bne_iff_ne.2 O_
def DwF (x:Fr):Prop:=x.pg.dirty≠0\/x.writing≠0
def tH (e:Nat->Int) (C:Ck):Prop:=∀(i:Nat) (x:Fr) (j:Nat),C.frames[i]?=some x->x.file=(j:Int)->DwF x->x.page*16<e j
def Szs (e:Nat->Int) (C:Ck):Prop:=∀(j:Nat) (y:Fl),C.files[j]?=some y->y.size=e j
def nJ (C C':Ck):Prop:=∀(j:Nat) (y':Fl),C'.files[j]?=some y'->∃y,C.files[j]?=some y/\y'.size=y.size
def Dw (C:Ck):Prop:=∃e,tH e C/\Szs e C
theorem tH.same (h:tH e C) (hf:C'.frames=C.frames):tH e C':=fun i x j hx=>h i x j (by rw [<-hf];exact hx)
theorem tH.set {i:Nat} {x':Fr} (h:tH e C) (hf:C'.frames=C.frames.set i x') (hx:∀j:Nat,x'.file=(j:Int)->DwF x'->x'.page*16<e j):tH e C':=fun k x j hk hj hd=>by
 rw [hf,List.getElem?_set] at hk
 split at hk
 ·split at hk
  ·injection hk with hk
   subst hk;exact hx j hj hd
  ·cases hk
 ·exact h k x j hk hj hd
theorem tH.le {e':Nat->Int} (h:tH e C) (he:∀j,e j<=e' j):tH e' C:=fun i x j a b c=>Int.lt_of_lt_of_le (h i x j a b c) (he j)
theorem tH.put {x x':Fr} (h:tH e C) (hi:C.frames[i]?=some x) (hf:C'.frames=C.frames.set i x') (h1:x'.file=x.file) (h2:x'.page=x.page) (hd:DwF x'->DwF x):tH e C':=
 h.set hf fun j hj hw=>by rw [h2];exact h i x j hi (h1 ▸ hj) (hd hw)
theorem nJ.refl (C:Ck):nJ C C:=fun _ y h=>⟨y,h,rfl⟩
theorem nJ.trans {C2:Ck} (h:nJ C C') (h2:nJ C' C2):nJ C C2:=fun j y hy=>by
 obtain ⟨y1,a,b⟩:=h2 j y hy;obtain ⟨y0,c,d⟩:=h j y1 a;exact ⟨y0,c,b.trans d⟩
theorem nJ.same (h:C'.files=C.files):nJ C C':=fun j y hy=>⟨y,by rw [<-h];exact hy,rfl⟩
theorem nJ.set {y y':Fl} (hj:C.files[j]?=some y) (hf:C'.files=C.files.set j y') (hs:y'.size=y.size):nJ C C':=fun k u hu=>by
 rw [hf,List.getElem?_set] at hu
 split at hu
 ·rename_i e
  subst e
  split at hu
  ·injection hu with hu
   subst hu;exact ⟨y,hj,hs⟩
  ·cases hu
 ·exact ⟨u,hu,rfl⟩
theorem Szs.of (h:Szs e C) (hf:nJ C C'):Szs e C':=fun j y hy=>by
 obtain ⟨y0,a,b⟩:=hf j y hy;exact b.trans (h j y0 a)
theorem Dw.of (h:Dw C) (hd:∀e,tH e C->tH e C') (hf:nJ C C'):Dw C':=by
 obtain ⟨e,h1,h2⟩:=h;exact ⟨e,hd e h1,h2.of hf⟩
theorem Dw.resize {y':Fl} (hs:Szs e C) (hj:C.files[j]?=some y) (hf:C'.files=C.files.set j y') (hd:tH (fun k=>if k=j then y'.size else e k) C'):Dw C':=by
 refine ⟨_,hd,fun k u a=>?_⟩;rw [hf,List.getElem?_set] at a
 split at a
 ·rename_i e
  subst e
  split at a
  ·injection a with a
   subst a;rw [if_pos rfl]
  ·cases a
 ·rename_i e
  rw [if_neg (fun q=>e q.symm)];exact hs k u a
def hU_ (C:Ck) (i j:Nat) (x:Fr) (y:Fl) (C':Ck):Prop:=C'=C\/∃x',fE x'/\(DwF x'->DwF x)/\x'.file=x.file/\x'.page=x.page/\x'.tenant=x.tenant/\C'=eY C i j y x'
end
section
theorem or3 {a b:Int} (ha:0<=a/\a<=3) (hb:0<=b/\b<=3):0<=bits .or .i64 a b/\bits .or .i64 a b<=3:=by
 obtain rfl | rfl | rfl | rfl:a=0\/a=1\/a=2\/a=3:=O_
 all_goals (obtain rfl | rfl | rfl | rfl:b=0\/b=1\/b=2\/b=3:=by omega) <;> decide
def RbP (C:Ck) (i j:Nat) (x:Fr) (y:Fl) (n:Int) (C':Ck):Prop:=C'=C\/bits .and .i64 n (bits .or .i64 x.pg.valid x.reading)=0/\C'=eY C i j y ⟨x.file,x.page,x.pg,x.tenant,x.holds,bits .or .i64 x.reading n,x.writing⟩
theorem aI_ {x:Fr} (n:Int) {b e f g:Value} (h:x_ w S a b c d e f g C) (hl:qK C) (hu:dE C i x j y) (hn:1<=n/\n<=3) (hS:∀z,w.heap.size<=z->S z) :
  C_ 90 #[cI a b c d e f g,I_ ((i:Int)+1),I_ n] w (a2_ (RbP C i j x y n) S w):=by
 obtain ⟨S1,s1,s2,s3⟩:=oB hS;replace h:=h.weak s3;clear s3;have L:=fun w' (hb:q_ w w')=>yR i x (h.step hb) hu.fr hl.frames.2;rw [hu.used] at L;obtain ⟨A1,ac,rfl,q1,q2⟩:=h.files.form;obtain ⟨A2,ad,rfl,q3,q4⟩:=h.frames.form;obtain ⟨A3,m3,c3,A4,m4,c4,A5,m5,c5,A6,m6,c6,A7,m7,c7,rfl,rfl,rfl,rfl,rfl⟩:=x_.caps5 h;obtain ⟨bb,o,rfl,a2,M,N,y2,O,P,Q,R,U,V⟩:=FrA.cells h.frames hu.fr;obtain ⟨bf,of,kt,KB,kc,rfl,ae,k1,k2,k3,k4,af⟩:=FlA.cells h.files hu.fl;have a4:=bK hu.fr;have ag:=bK hu.fl;have i2:(i:Int)<(C.frames.length:Int):=O_
 have ai:C.frames.length<=100:=hl.frames.2;have ah:C.files.length<=100:=hl.files.2;have j2:(j:Int)<(C.files.length:Int):=O_
 obtain ⟨H,HL,HU⟩:=eT h hl hu;clear h hl hu k1 k2 k3 k4;obtain ⟨n1,n2⟩:=hn;have d1:decide (n<1)=false:=dF O_;have d2:decide (3<n)=false:=dF O_;go_enter func90,ntmps90
 go_upto_region 1 with fail
 generalize hW9:(w.alloc _).alloc _=W;obtain ⟨HX,HR,HW,HZ⟩:=fV hW9;clear hW9;have a0:=HW.out;obtain ⟨x0,r,s,t,u,v,A⟩:=aF HX.out
 go_upto_region 3 with (go_at_call 37;(with_reducible refine CM (L _ (by assumption)) ?_);rintro e w1 ⟨rfl,m⟩;obtain ⟨I,Z,F⟩:=bN HX HR HW m;have aa:=m.size;clear m)
 clear x0 r s t u v A a0;obtain ⟨x0,r,s,t,u,v,A⟩:=aF I.out;have a5:=kt9 (F.block _ a2) M N y2 O P Q R U V;clear M N y2 O P Q R U V;obtain ⟨M,N,y2,O,P,Q,R,U,V⟩:=a5
 go_upto_region 4 with fail
 generalize hW9:w1.alloc _=W2;have Y:=nah hW9;have J:=bah hW9 I;have k:=bah hW9 Z;have l:=lah hW9 F;clear hW9;clear x0 r s t u v A M N y2 O P Q R U V;obtain ⟨x0,r,s,t,u,v,A⟩:=aF J.out;obtain ⟨f0,f1,f2,f3,f4,f5,f6,f7,f8⟩:=sE Y.out;have a8:w.heap.size<=w1.heap.size/\w.heap.size+1<w1.heap.size:=⟨O_,O_⟩
 cases d3:bits .and .i64 n (bits .or .i64 x.pg.valid x.reading) != 0 with
 | true=>
  go_wp2_with (refine aJ rfl (.tmp 6) (.tmp 37) rfl rfl rfl rfl k rfl ?_)
  show bodyPost prog f90 _ _ _ _
  refine bodyPost_ret (bQ rfl rfl rfl (setRow_heap _ _ _ _ _ _ k)) rfl ?_;exact ⟨C,_,_,_,_,_,_,_,_,.inl rfl,rfl,(H.step (j_ l.out O_ _)).weak (fun z _ q=>(s1 z q).1),j_ l.out O_ _⟩
 | false=>
  have D3:=H_ (show bits .and .i64 n (bits .or .i64 x.pg.valid x.reading)=0 by simpa using d3);have a3:=t_ Y 7
  go_upto_region 7 with fail
  generalize hW9:W2.setCell _ _=W3;have B:=scs hW9 Y;have K:=scx hW9 J;have D:=scx hW9 k;have G:=scl hW9 l;clear hW9;clear x0 r s t u v A f0 f1 f2 f3 f4 f5 f6 f7 f8;clear a3 d3;obtain ⟨x0,r,s,t,u,v,A⟩:=aF K.out;obtain ⟨f0,f1,f2,f3,f4,f5,f6,f7,f8⟩:=sE B.out;have ab:w.heap.size+1<W3.heap.size:=p_ D
  go_wp2_with (first
   | (go_at_call 55;(with_reducible refine CM (nE i j (⟨x.file,x.page,x.pg,x.tenant,x.holds,bits .or .i64 x.reading n,x.writing⟩) y (H.out.step G.out) HL.out a4 HU.out.fl HU.out.ix (fun z q=>s2 z (by omega))) ?_);rintro e w4 ⟨gf,nf,cf,gr,nr,cr,c',d',gl,nl,cl,gk,nk,ck,g',rfl,nM,p⟩;obtain ⟨P3,n3,r3,rfl⟩:=nM.zones.cap;obtain ⟨P4,n4,r4,rfl⟩:=nM.groups.cap;obtain ⟨P7,n7,r7,rfl⟩:=nM.ptes.cap;obtain ⟨E,a7,a9,a1⟩:=iC D B K G p;have X:=H_ nM;have a6:=H_ p;clear nM p)
   | (refine aJ rfl (.tmp 6) (.tmp 46) rfl rfl rfl rfl E rfl ?_))
  show bodyPost prog f90 _ _ _ _
  refine bodyPost_ret (bQ rfl rfl rfl (setRow_heap _ _ _ _ _ _ E)) rfl ?_;refine ⟨eY C i j y (⟨x.file,x.page,x.pg,x.tenant,x.holds,bits .or .i64 x.reading n,x.writing⟩),_,_,_,_,_,_,_,_,?_,rfl,((X.setRow (w+1) (R7_ gf nf cf gr nr cr (S_ P3 n3 r3) (S_ P4 n4 r4) gl nl cl gk nk ck (S_ P7 n7 r7)) (fun q=>(s1 _ q).2.2 rfl) O_).weak O_ (fun z q=>(s1 z q).1) hS).at_,j_ a1.out O_ _⟩;exact .inr ⟨D3,rfl⟩
end
section
def jN (b:Int):Prop:=0<=b/\b<=255
theorem bq_ (n:Nat) (h:n<=255):(BitVec.ofInt 64 (n:Int)).toNat=n:=by
 rw [BitVec.toNat_ofInt];omega
theorem fG_ {n:Nat} (h:n<=255):i64.wrap (n:Int)=n:=fA O_
theorem hL_ (hp:p<8):2 ^ p<=128:=by
 have:=Nat.pow_le_pow_right (n:=2) O_ (show p<=7 by omega);exact this
theorem iJ_ (hp:p<8):wrap64 (2 ^ p)=((2 ^ p:Nat):Int):=by
 have:=hL_ hp;rw [show ((2:Int) ^ p)=((2 ^ p:Nat):Int) by simp];generalize 2 ^ p=q at this;unfold wrap64;omega
theorem jN.or {b:Int} (h:jN b) (hp:p<8):jN (bits .or .i64 b (wrap64 (2 ^ p))):=by
 have a:=hL_ hp;rw [iJ_ hp];obtain ⟨n,rfl⟩:=sG h.1;have d:=h.2;generalize 2 ^ p=q at a
 show jN (i64.wrap ((BitVec.ofInt 64 (n:Int) ||| BitVec.ofInt 64 (q:Int)).toNat:Int))
 rw [BitVec.toNat_or,bq_ n O_,bq_ q O_];have c:=Nat.or_lt_two_pow (n:=8) (x:=n) (y:=q) O_ O_;rw [fG_ O_];exact ⟨O_,O_⟩
theorem jN.andNot {b:Int} (h:jN b) (c:Int):jN (bits .andNot .i64 b c):=by
 obtain ⟨n,rfl⟩:=sG h.1;have d:=h.2
 show jN (i64.wrap ((BitVec.ofInt 64 (n:Int) &&& ~~~BitVec.ofInt 64 c).toNat:Int))
 rw [BitVec.toNat_and,bq_ n O_];have a:=Nat.and_le_left (n:=n) (m:=(~~~BitVec.ofInt 64 c).toNat);rw [fG_ O_];exact ⟨O_,O_⟩
def hV_ (C:Ck) (i j:Nat) (x:Fr) (y:Fl) (C':Ck):Prop:=C'=C\/∃x' y',fE x'/\(DwF x'->DwF x)/\x'.file=x.file/\x'.page=x.page/\x'.tenant=x.tenant/\y'.c=y.c/\y'.size=y.size/\y'.slot=y.slot/\xH y'.ecnt y'.eerr/\(jN y.blocks->jN y'.blocks)/\y'.which=y.which/\y'.seq=y.seq/\y'.ssize=y.ssize/\y'.sseq=y.sseq/\C'=eY C i j y' x'
theorem hU_.q {x:Fr} (h:hU_ C i j x y C') (he:xH y.ecnt y.eerr):hV_ C i j x y C':=by
 rcases h with h | ⟨x',h1,hd,h2,h3,h4,h5⟩
 ·exact .inl h
 ·exact .inr ⟨x',y,h1,hd,h2,h3,h4,rfl,rfl,rfl,he,id,rfl,rfl,rfl,rfl,h5⟩
theorem pM {b:Nat} {a0 a1 a2 a3 a4 a5 a6 a7 a8 u v z:Value} {t:TypeId} {fr:Nat × Nat} (h:w.heap[b]?=some (.cells #[a0,a1,a2,a3,a4,a5,a6,a7,a8] t fr)):(w.setCells b 2 [u,v,z]).heap[b]?=some (.cells #[a0,a1,u,v,z,a5,a6,a7,a8] t fr):=by
 simp only[World.setCells];exact R_ (R_ (R_ h _) _) _
theorem qD {b:Nat} {a0 a1 a2 a3 a4 a5 a6 a7 a8:Value} {t:TypeId} (h:w.heap[b]?=some (.cells #[a0,a1,a2,a3,a4,a5,a6,a7,a8] t (0,0))):w.there b 2 3:=fun j hj=>by
 rw [a_ h,t_ h];obtain rfl | rfl | rfl:j=0\/j=1\/j=2:=O_
 all_goals exact ⟨rfl,rfl⟩
theorem mQ {p:Pg} (h:jC p) (hs:0<=s/\s<=3):jC (aK p s):=by
 obtain ⟨d,v,y⟩:=p;obtain ⟨h1,h2,h3,a⟩:=h
 dsimp only at h1 h2 h3 a
 refine ⟨h1,h2,?_,?_⟩
 all_goals
  show _
  simp only[aK];obtain rfl | rfl | rfl | rfl:v=0\/v=1\/v=2\/v=3:=O_
  all_goals (obtain rfl | rfl | rfl | rfl:y=0\/y=1\/y=2\/y=3:=by omega)
  all_goals (obtain rfl | rfl | rfl | rfl:s=0\/s=1\/s=2\/s=3:=by omega)
  all_goals first
   | decide
   | exact absurd a bX
theorem g0_ {c e:Int} (h:xH c e) (he:err≠0):xH (kF c e err).1 (kF c e err).2.1:=by
 obtain ⟨h1,h2,h3⟩:=h;unfold kF
 by_cases hc:c=1000000
 ·rw [if_pos hc];exact ⟨h1,h2,h3⟩
 ·rw [if_neg hc];exact ⟨by show 0<=c+1;omega,by show c+1<=1000000;omega,⟨fun h=>absurd (show c+1=0 from h) O_,fun h=>absurd (show err=0 from h) he⟩⟩
theorem LW.fl_at (h:LW jG w S g L) (hj:L[j]?=some y):w.cell? ⟨g,j*15+7,none⟩=some (I_ y.blocks)/\w.cell? ⟨g,j*15+8,none⟩=some (I_ y.ecnt)/\w.cell? ⟨g,j*15+9,none⟩=some (I_ y.eerr)/\w.cell? ⟨g,j*15+6,none⟩=some (I_ y.size):=by
 obtain ⟨r,⟨h',A,cap,_,_,_,_,rfl⟩,hc⟩:=h.at_ hj;exact ⟨hc 7 _ rfl,hc 8 _ rfl,hc 9 _ rfl,hc 6 _ rfl⟩
theorem LW.blocks (h:LW jG w S g L) (hj:L[j]?=some y) (v:Int):LW jG (w.setCell ⟨g,j*15+7,none⟩ (I_ v)) S g (L.set j {y with blocks:=v}):=
 h.setOne hj O_ rfl fun r ⟨h',A,cap,k1,k2,k3,k4,e⟩=>by subst e;exact ⟨h',A,cap,k1,k2,k3,k4,rfl⟩
theorem LW.errs (h:LW jG w S g L) (hj:L[j]?=some y) (c e:Int):LW jG (w.setCells g (j*15+8) [I_ c,I_ e]) S g (L.set j {y with ecnt:=c,eerr:=e}):=
 h.setPart hj (by show 8+2<=15;omega) (fun u hu=>by simp at hu;rcases hu with rfl | rfl <;> rfl) fun r ⟨h',A,cap,k1,k2,k3,k4,e⟩=>by subst e;exact ⟨h',A,cap,k1,k2,k3,k4,rfl⟩
def gC (P:Ck->Int->Prop) (S:Nat->Prop) (w:World) (en:Ending) (w':World):Prop:=∃C' err a b c d e f g,P C' err/\en = .returned (.tuple #[cI a b c d e f g,I_ err])/\x_ w' S a b c d e f g C'/\q_ w w'
def d0_ (x:Fr) (y:Fl):Fl:=⟨y.dev,y.slot,y.c,y.size,bits .or .i64 y.blocks (wrap64 (2 ^ x.page.toNat)),y.ecnt,y.eerr,y.sseq,y.ssize,y.sblocks,y.which,y.seq⟩
def nI (C:Ck) (i j:Nat) (x:Fr) (y:Fl) (n:Int) (C':Ck) (err:Int):Prop:=
 if x.writing=0 then C'=C/\err=4 else if n=0 then C'=eY C i j (d0_ x y) ⟨x.file,x.page,x.pg,x.tenant,x.holds,x.reading,0⟩/\err=0 else C'=eY C i j ⟨y.dev,y.slot,y.c,y.size,y.blocks,(kF y.ecnt y.eerr n).1,(kF y.ecnt y.eerr n).2.1,y.sseq,y.ssize,y.sblocks,y.which,y.seq⟩ ⟨x.file,x.page,aK x.pg x.writing,x.tenant,x.holds,x.reading,0⟩/\err=0
theorem nI.q {x:Fr} {n:Int} (hP:nI C i j x y n C' err) (hu:dE C i x j y) (her:xH y.ecnt y.eerr):hV_ C i j x y C':=by
 unfold nI at hP
 split at hP
 ·exact .inl hP.1
 rename_i hw0
 split at hP
 ·exact .inr ⟨⟨x.file,x.page,x.pg,x.tenant,x.holds,x.reading,0⟩,d0_ x y,⟨hu.ok.page,hu.ok.tenant,hu.ok.pg,hu.ok.holds,hu.ok.reading,⟨by show (0:Int)<=0;omega,by show (0:Int)<=3;omega⟩⟩,fun _=> .inr hw0,rfl,rfl,rfl,rfl,rfl,rfl,her,fun a=>a.or (by have:=hu.ok.page;omega),rfl,rfl,rfl,rfl,hP.1⟩
 ·rename_i hn
  exact .inr ⟨⟨x.file,x.page,aK x.pg x.writing,x.tenant,x.holds,x.reading,0⟩,⟨y.dev,y.slot,y.c,y.size,y.blocks,(kF y.ecnt y.eerr n).1,(kF y.ecnt y.eerr n).2.1,y.sseq,y.ssize,y.sblocks,y.which,y.seq⟩,⟨hu.ok.page,hu.ok.tenant,mQ hu.ok.pg hu.ok.writing,hu.ok.holds,hu.ok.reading,⟨by show (0:Int)<=0;omega,by show (0:Int)<=3;omega⟩⟩,fun _=> .inr hw0,rfl,rfl,rfl,rfl,rfl,rfl,g0_ her hn,id,rfl,rfl,rfl,rfl,hP.1⟩
end
section
theorem ac_ {p:Pg} (h:jC p) (hs:0<=s/\s<=3) {t:ByteArray}:jC (fM p s t):=by
 obtain ⟨d,v,y⟩:=p;obtain ⟨h1,h2,h3,a⟩:=h
 dsimp only at h1 h2 h3 a
 refine ⟨?_,?_,h3,?_⟩
 ·show (fN d t v s 16).toArray.size=16
  rw [List.size_toArray,cT]
 ·exact or3 h2 hs
 ·show bits .andNot .i64 y (bits .or .i64 v s)=0
  obtain rfl | rfl | rfl | rfl:v=0\/v=1\/v=2\/v=3:=O_
  all_goals (obtain rfl | rfl | rfl | rfl:y=0\/y=1\/y=2\/y=3:=by omega)
  all_goals (obtain rfl | rfl | rfl | rfl:s=0\/s=1\/s=2\/s=3:=by omega)
  all_goals first
   | decide
   | exact absurd a bX
def kQ (e:Int) (t:ByteArray) (k:Nat):List UInt8:=(List.range 16).map (fun q=>if q<k/\e<=(q:Int) then 0 else t.data.toList.getD q 0)
theorem qI (e:Int) (t:ByteArray) (k:Nat):(kQ e t k).length=16:=by unfold kQ;simp
theorem tB {e:Int} {t:ByteArray} {q:Nat} (h:q<16):(kQ e t k)[q]?=some (if q<k/\e<=(q:Int) then 0 else t.data.toList.getD q 0):=by
 unfold kQ;rw [gP_,List.getElem?_range h];rfl
theorem dz_ {e:Int} {t:ByteArray} (ht:t.size=16):kQ e t 0=t.data.toList:=by
 apply List.ext_getElem?;intro i;have hl:t.data.toList.length=16:=by simpa using ht
 by_cases h:i<16
 ·rw [tB h,if_neg O_,List.getD_eq_getElem?_getD,cU O_];rfl
 ·rw [xX (by rw [qI];omega),xX O_]
theorem fH_ {e:Int} {t:ByteArray} (h:k<16) (he:e<=(k:Int)):(kQ e t k).set k 0=kQ e t (k+1):=by
 apply List.ext_getElem?;intro i;rw [List.getElem?_set,qI]
 by_cases c:i<16
 ·rw [tB c,tB c]
  by_cases b:k=i
  ·subst b;rw [if_pos rfl,if_pos h,if_pos ⟨O_,he⟩]
  ·rw [if_neg b]
   congr 1
   by_cases a:i<k/\e<=(i:Int)
   ·rw [if_pos a,if_pos ⟨O_,a.2⟩]
   ·rw [if_neg a,if_neg (fun q=>a ⟨O_,q.2⟩)]
 ·rw [if_neg O_,xX (by rw [qI];omega),xX (by rw [qI];omega)]
theorem dy_ {e:Int} {t:ByteArray} (he:¬e<=(k:Int)):kQ e t k=kQ e t (k+1):=by
 unfold kQ;refine List.map_congr_left fun q _=>?_
 by_cases a:q<k/\e<=(q:Int)
 ·rw [if_pos a,if_pos ⟨O_,a.2⟩]
 ·rw [if_neg a,if_neg (fun h=>a ⟨by by_cases b:q=k;(subst b;exact absurd h.2 he);omega,h.2⟩)]
def ReP (C:Ck) (i j:Nat) (x:Fr) (y:Fl) (t:ByteArray) (ok:Bool) (C':Ck):Prop:=C'=C/\x.reading=0\/∃pg,(ok=false/\pg=x.pg\/ok=true/\pg=fM x.pg x.reading ⟨(kQ (y.size - x.page*16) t 16).toArray⟩)/\C'=eY C i j y ⟨x.file,x.page,pg,x.tenant,x.holds,0,x.writing⟩
theorem dk_ {x:Fr} (t:ByteArray) (ok:Bool) {b e f g:Value} (h:x_ w S a b c d e f g C) (hl:qK C) (hu:dE C i x j y) (ht:t.size=16) (hS:∀z,w.heap.size<=z->S z) :
  C_ 91 #[cI a b c d e f g,I_ ((i:Int)+1),.string t,.bool ok] w (a2_ (ReP C i j x y t ok) S w):=by
 obtain ⟨S1,s1,s2,s3⟩:=oB hS;replace h:=h.weak s3;clear s3;have ao:=fun w' (hb:q_ w w')=>yR i x (h.step hb) hu.fr hl.frames.2;rw [hu.used] at ao;obtain ⟨A1,b2,rfl,q1,q2⟩:=h.files.form;obtain ⟨A2,b3,rfl,q3,q4⟩:=h.frames.form;obtain ⟨A3,m3,c3,A4,m4,c4,A5,m5,c5,A6,m6,c6,A7,m7,c7,rfl,rfl,rfl,rfl,rfl⟩:=x_.caps5 h;obtain ⟨bb,o,rfl,b7,y0,y1,y2,y3,y4,y5,y6,y7,y8⟩:=FrA.cells h.frames hu.fr;obtain ⟨bf,of,kt,KB,kc,rfl,b6,k1,k2,k3,k4,b9⟩:=FlA.cells h.files hu.fl;have am:=bK hu.fr;have bi:=bK hu.fl;have i2:(i:Int)<(C.frames.length:Int):=O_
 have bl:C.frames.length<=100:=hl.frames.2;have bk:C.files.length<=100:=hl.files.2;have j2:(j:Int)<(C.files.length:Int):=O_
 obtain ⟨H,HL,X⟩:=eT h hl hu;clear h hl hu k1 k2 k3 k4;go_enter func91,ntmps91
 go_upto_region 1 with fail
 generalize hW9:(w.alloc _).alloc _=W;obtain ⟨HX,HR,HW,HZ⟩:=fV hW9;clear hW9;have a7:=HW.out;obtain ⟨x0,J,K,M,N,O,Q⟩:=aF HX.out
 go_upto_region 3 with (go_at_call 37;(with_reducible refine CM (ao _ (by assumption)) ?_);rintro e w1 ⟨rfl,ac⟩;obtain ⟨af,ar,ae⟩:=bN HX HR HW ac;have be:=ac.size;clear ac)
 clear x0 J K M N O Q a7;obtain ⟨x0,J,K,M,N,O,Q⟩:=aF af.out;have bc:=kt9 (ae.block _ b7) y0 y1 y2 y3 y4 y5 y6 y7 y8;clear y0 y1 y2 y3 y4 y5 y6 y7 y8;obtain ⟨y0,y1,y2,y3,y4,y5,y6,y7,y8⟩:=bc
 go_upto_region 4 with fail
 generalize hW9:w1.alloc _=W2;have R:=nah hW9;have aa:=bah hW9 af;have n:=bah hW9 ar;have D:=lah hW9 ae;clear hW9;clear x0 J K M N O Q y0 y1 y2 y3 y4 y5 y6 y7 y8;obtain ⟨x0,J,K,M,N,O,Q⟩:=aF aa.out;obtain ⟨Y,Z,f2,f3,f4,f5,f6,f7,f8⟩:=sE R.out;have bd:w.heap.size<=w1.heap.size/\w.heap.size+1<w1.heap.size:=⟨O_,O_⟩
 by_cases G:x.reading=0
 ·have d3:(x.reading == 0)=true:=by simp [G]
  have a7:=H_ G;clear G
  go_wp2_with (refine aJ rfl (.tmp 8) (.tmp 27) rfl rfl rfl rfl n rfl ?_)
  show bodyPost prog f91 _ _ _ _
  refine bodyPost_ret (bQ rfl rfl rfl (setRow_heap _ _ _ _ _ _ n)) rfl ?_;exact ⟨C,_,_,_,_,_,_,_,_,.inl ⟨rfl,a7.out⟩,rfl,(H.step (j_ D.out O_ _)).weak (fun z _ I=>(s1 z I).1),j_ D.out O_ _⟩
 ·have d3:(x.reading == 0)=false:=by simp [G]
  clear G;have a0:=t_ R 7
  cases ok with
  | false=>
   go_upto_region 17 with fail
   generalize hW9:W2.setCell _ _=W3;have m:=scs hW9 R;have F:=scx hW9 aa;have q:=scx hW9 n;have E:=scl hW9 D;clear hW9;clear x0 J K M N O Q Y Z f2 f3 f4 f5 f6 f7 f8;clear a0 d3;obtain ⟨x0,J,K,M,N,O,Q⟩:=aF F.out;obtain ⟨Y,Z,f2,f3,f4,f5,f6,f7,f8⟩:=sE m.out;have b1:w.heap.size+1<W3.heap.size:=p_ q
   go_wp2_with (first
    | (go_at_call 55;(with_reducible refine CM (nE i j (⟨x.file,x.page,x.pg,x.tenant,x.holds,0,x.writing⟩) y (H.out.step E.out) HL.out am X.out.fl X.out.ix (fun z I=>s2 z (by omega))) ?_);rintro e w4 ⟨gf,nf,cf,gr,nr,cr,c',d',gl,nl,cl,gk,nk,ck,g',rfl,nM,l⟩;obtain ⟨P3,n3,r3,rfl⟩:=nM.zones.cap;obtain ⟨P4,n4,r4,rfl⟩:=nM.groups.cap;obtain ⟨P7,n7,r7,rfl⟩:=nM.ptes.cap;obtain ⟨A,aq,ay,a8⟩:=iC q m F E l;have a2:=H_ nM;have ap:=H_ l;clear nM l)
    | (refine aJ rfl (.tmp 8) (.tmp 72) rfl rfl rfl rfl A rfl ?_))
   show bodyPost prog f91 _ _ _ _
   refine bodyPost_ret (bQ rfl rfl rfl (setRow_heap _ _ _ _ _ _ A)) rfl ?_;refine ⟨eY C i j y (⟨x.file,x.page,x.pg,x.tenant,x.holds,0,x.writing⟩),_,_,_,_,_,_,_,_,?_,rfl,((a2.setRow (w+1) (R7_ gf nf cf gr nr cr (S_ P3 n3 r3) (S_ P4 n4 r4) gl nl cl gk nk ck (S_ P7 n7 r7)) (fun I=>(s1 _ I).2.2 rfl) O_).weak O_ (fun z I=>(s1 z I).1) hS).at_,j_ a8.out O_ _⟩;exact .inr ⟨_,.inl ⟨rfl,rfl⟩,rfl⟩
  | true=>
   have HT:=H_ ht;have d4:((t.size:Int) != 16)=false:=by simp;omega
   have ak:=fun w=>Lib.run_convert_string_bytes (P:=prog) w 9 77 5 t underlying9 underlying77 underlying5;clear ht a0
   go_upto_region 10 with fail
   have HV:=H_ (zP W2 t);have aj:=rO W2 5 t;obtain ⟨ab,a6,a3,a9⟩:=iC aa n R D aj;have hB:=D.size;have b4:=p_ n;have b5:=p_ R;have bg:t.size<=16:=by have:=HT.out;omega
   have bh:16<=t.size:=by have:=HT.out;omega
   clear aj ak x0 J K M N O Q Y Z f2 f3 f4 f5 f6 f7 f8;generalize Lib.bytesWorld W2 5 t=V at HV ab a6 a3 a9;generalize grownCap W2 t.size 0 5=cp;obtain ⟨B,ag⟩:=aZ W2.heap.size;rw [<-ag] at HV hB b4 b5 ⊢;clear ag;obtain ⟨p,hp⟩:∃p:Nat,x.page=p:=⟨x.page.toNat,by have:=X.ok.page;omega⟩;have bo:p<8:=by have:=X.ok.page;omega
   have HP:=H_ hp;clear hp d3 d4;go_wp2
   go_loopw [12] (fun s wx=>∃(k:Nat) (L:List UInt8),s = I_ k/\k<=16/\L.length=16/\L=kQ (y.size - (p:Int)*16) t k/\LW U8R wx (fun _=>False) B L/\q_ w wx/\aW wx (w) (E_ (some ⟨bf,of,none⟩) C.files.length b2 (some ⟨bb,o,none⟩) C.frames.length b3 A3 m3 c3 A4 m4 c4 A5 m5 c5 A6 m6 c6 A7 m7 c7) 30/\wx.heap[w.heap.size+1]?=some (cG)/\wx.heap[w1.heap.size]?=some (oF x)) (fun s _=>16 - (intOf s).toNat)
   case atStart=>exact ⟨0,_,rfl,O_,by simp [HT.out],(dz_ HT.out).symm,HV.out,a9.out,ab.out,a6.out,a3.out⟩
   case round=>
    clear HV a9 ab a6 a3;obtain ⟨k,L,rfl,hk,hL,ah,hw,hb,hX,hR,hF⟩:=hrel;have a5:=H_ ah;clear ah;obtain ⟨HV,HW,HX,HR,R,a4⟩:=h6_ hw hb hX hR hF hL;obtain ⟨x0,J,K,M,N,O,Q⟩:=aF hX;obtain ⟨Y,Z,f2,f3,f4,f5,f6,f7,f8⟩:=sE hF;rw [X.ix] at Y;rw [HP.out] at Z;have z6:wr.cell? ⟨bf,of+j*15+6,none⟩=some (I_ y.size):=(c_ (HW.block _ b6)).trans (b9 6 _ rfl);clear hX hR hF
    by_cases bm:k<16
    ·have bj:k<t.size:=O_
     have fz:=(hw.slot (i:=k) (p:=0) O_ O_).2;obtain ⟨c0,b8⟩:=(hw.slot (i:=k) (p:=0) O_ O_).1;rw [Nat.mul_one,Nat.add_zero] at fz b8;clear hw hb hL;have bp:i64.wrap ((p:Int)*16)=(p:Int)*16:=IntWalk.i64_in _ O_;have bq:i64.wrap ((p:Int)*16+(k:Int))=(p:Int)*16+(k:Int):=IntWalk.i64_in _ O_
     by_cases al:y.size<=(p:Int)*16+(k:Int)
     ·have g1:decide (y.size<=(p:Int)*16+(k:Int))=true:=dT al
      go_upto_region 13 with fail
      go_quiet (fail);go_wp2;go_roundw
      case rel=>
       have hw:=HV.step (below_drewN B_ nq);have hs:=hw.setOne (i:=k) (p:=0) (a:=L[k]'(by have:=a4.out;omega)) (a':=0) (v:= .int .u8 0) (cU _) O_ rfl (fun r hr=>by
        have hr:r=[.int .u8 _]:=hr;subst hr
        rfl)
       rw [Nat.mul_one,Nat.add_zero] at hs;have bn:B≠w.heap.size/\B≠w.heap.size+1/\B≠w1.heap.size:=O_
       exact ⟨k+1,L.set k 0,by go_num,O_,by simp [a4.out],by rw [a5.out];exact fH_ O_ O_,hs,bA (below_drewN HW.out _) ⟨B,k,none⟩ _ (by show w.heap.size<=B;omega),aM HX.out _ _ (by show w.heap.size≠B;omega),aM HR.out _ _ (by show w.heap.size+1≠B;omega),aM R.out _ _ (by show w1.heap.size≠B;omega)⟩
      case measure=>exact bH
     ·have g1:decide (y.size<=(p:Int)*16+(k:Int))=false:=dF al
      go_upto_region 13 with fail
      go_quiet (fail);go_wp2;go_roundw
      case rel=>exact ⟨k+1,L,by go_num,O_,a4.out,a5.out.trans (dy_ O_),HV.out.step (below_drewN B_ nq),below_drewN HW.out _,HX.out,HR.out,R.out⟩
      case measure=>exact bH
    ·obtain rfl:k=16:=O_
     have ak:(convert 77 9 (S_ (some ⟨B,0,none⟩) t.size cp)).run prog wr = .ok (.string ⟨L.toArray⟩) wr:=by
      have:=kW L B cp wr (fun j hj=>by
       obtain ⟨r,hr,hc⟩:=hw.at_ (cU hj);have hr:r=[.int .u8 _]:=hr;subst hr;have:=hc 0 _ rfl;rw [Nat.mul_one,Nat.add_zero] at this;exact this)
      rw [hL] at this;rw [HT.out];exact this
     have a1:(⟨L.toArray⟩:ByteArray).size=16:=by simpa [ByteArray.size] using hL
     have ba:=fun w'=>in_ x.pg.data x.pg.valid x.pg.dirty x.reading ⟨L.toArray⟩ w' X.ok.pg X.ok.reading a1;clear hw hb hL z6 a1
     go_upto_region 16 with (first
      | (go_at_call 150;(with_reducible refine CM (ba _) ?_);rintro e w5 ⟨rfl,ai⟩;obtain ⟨ad,az,au,aw⟩:=iC R HX HR HW ai;clear ai;have an:=qD ad)
      | (refine pF rfl 83 (.tmp 67) (.tmp 65) rfl (w1) 2 #[.string (fM x.pg x.reading ⟨L.toArray⟩).data,I_ (fM x.pg x.reading ⟨L.toArray⟩).valid,I_ (fM x.pg x.reading ⟨L.toArray⟩).dirty] rfl rfl an dB (eX) ?_)
      | fail)
     have U:=H_ (pM (u:= .string (fM x.pg x.reading ⟨L.toArray⟩).data) (v:= I_ (fM x.pg x.reading ⟨L.toArray⟩).valid) (z:= I_ (fM x.pg x.reading ⟨L.toArray⟩).dirty) ad);generalize hW9:w5.setCells (w1) 2 _=W8 at U;have b0:=smx hW9 az;have av:=smx hW9 au;have ax:=sml hW9 aw;clear hW9;clear x0 J K M N O Q Y Z f2 f3 f4 f5 f6 f7 f8;clear an;have a0:=t_ U 7;obtain ⟨Y,Z,f2,f3,f4,f5,f6,f7,f8⟩:=sE U.out
     go_upto_region 17 with fail
     generalize hW9:W8.setCell _ _=W3;have m:=scs hW9 U;have F:=scx hW9 b0;have q:=scx hW9 av;have E:=scl hW9 ax;clear hW9;clear Y Z f2 f3 f4 f5 f6 f7 f8 a0;obtain ⟨x0,J,K,M,N,O,Q⟩:=aF F.out;obtain ⟨Y,Z,f2,f3,f4,f5,f6,f7,f8⟩:=sE m.out;have b1:w.heap.size+1<W3.heap.size:=p_ q
     go_wp2_with (first
      | (go_at_call 55;(with_reducible refine CM (nE i j (⟨x.file,x.page,fM x.pg x.reading ⟨L.toArray⟩,x.tenant,x.holds,0,x.writing⟩) y (H.out.step E.out) HL.out am X.out.fl X.out.ix (fun z I=>s2 z (by omega))) ?_);rintro e w4 ⟨gf,nf,cf,gr,nr,cr,c',d',gl,nl,cl,gk,nk,ck,g',rfl,nM,l⟩;obtain ⟨P3,n3,r3,rfl⟩:=nM.zones.cap;obtain ⟨P4,n4,r4,rfl⟩:=nM.groups.cap;obtain ⟨P7,n7,r7,rfl⟩:=nM.ptes.cap;obtain ⟨A,aq,ay,a8⟩:=iC q m F E l;have a2:=H_ nM;have ap:=H_ l;clear nM l)
      | (refine aJ rfl (.tmp 8) (.tmp 72) rfl rfl rfl rfl A rfl ?_))
     show bodyPost prog f91 _ _ _ _
     refine bodyPost_ret (bQ rfl rfl rfl (setRow_heap _ _ _ _ _ _ A)) rfl ?_;refine ⟨eY C i j y (⟨x.file,x.page,fM x.pg x.reading ⟨L.toArray⟩,x.tenant,x.holds,0,x.writing⟩),_,_,_,_,_,_,_,_,?_,rfl,((a2.setRow (w+1) (R7_ gf nf cf gr nr cr (S_ P3 n3 r3) (S_ P4 n4 r4) gl nl cl gk nk ck (S_ P7 n7 r7)) (fun I=>(s1 _ I).2.2 rfl) O_).weak O_ (fun z I=>(s1 z I).1) hS).at_,j_ a8.out O_ _⟩;exact .inr ⟨_,.inr ⟨rfl,by rw [HP.out,<-a5.out]⟩,rfl⟩
end
section
def dR (s:Int):Int × Int:=if s=1 then (0,1) else if s=2 then (1,1) else (0,2)
theorem bT:(prog.info? 37).map (·.size)=some 10:=by kernel_rfl
theorem dX {a0 a1 a2 a3 a4 a5:Int} {d:ByteArray} {b c:Bool} {t:Int}:(bJ a0 a1 a2 a3 a4 a5 d b c t).all (·.oneCell')=true:=by simp [Value.oneCell']
theorem fm_ {p:Tmp} (h:fn.results=#[.cell p 37]) {t:TypeId} {x7 x8 x9:Value} {fr:Nat × Nat}
  (hp:tmps.getD p undef = P_ g) (hg:w.heap[g]?=some (.cells #[x0,x1,x2,x3,x4,x5,x6,x7,x8,x9] t fr)):(results fn tmps).run prog w = .ok (.agg #[x0,x1,x2,x3,x4,x5,x6,x7,x8,x9]) w:=
 results_cell_row h tmps w g t _ fr _ hp hg underlying37 rfl bT
end
section
theorem mT {p:Pg} (h:jC p) (hs:0<=s/\s<=3):jC (bR p s):=by
 obtain ⟨d,v,y⟩:=p;obtain ⟨h1,h2,h3,a⟩:=h
 dsimp only at h1 h2 h3 a
 refine ⟨h1,h2,?_,?_⟩
 all_goals
  show _
  simp only[bR];obtain rfl | rfl | rfl | rfl:v=0\/v=1\/v=2\/v=3:=O_
  all_goals (obtain rfl | rfl | rfl | rfl:y=0\/y=1\/y=2\/y=3:=by omega)
  all_goals (obtain rfl | rfl | rfl | rfl:s=0\/s=1\/s=2\/s=3:=by omega)
  all_goals first
   | decide
   | exact absurd a bX
def jd_ (C:Ck) (i j:Nat) (x:Fr) (y:Fl) (C':Ck):Prop:=C'=C\/∃x',fE x'/\(DwF x'->DwF x)/\x'.file=x.file/\x'.page=x.page/\x'.tenant=x.tenant/\C'={eY C i j y x' with ptes:=C.ptes.map (mP ((i:Int)+1))}
def rq0:Value:= .agg lO
def rqP (x:Fr) (y:Fl) (sc kind:Int) (d:ByteArray):Value:= .agg (bJ 0 x.tenant y.dev kind (y.slot*18+2+x.page*2+(dR sc).1) ((dR sc).2) d false false 0)
def iA (x:Fr) (y:Fl):Int:=if (bits .and .i64 y.blocks (wrap64 (2 ^ x.page.toNat)) == 0)=true then 3 else x.pg.dirty
def iL (x:Fr) (sc:Int):ByteArray:=x.pg.data.extract ((dR sc).1.toNat*8) (((dR sc).1.toNat+(dR sc).2.toNat)*8)
def qR (C:Ck) (i j:Nat) (x:Fr) (y:Fl) (sc:Int):Ck:={eY C i j y ⟨x.file,x.page,bR x.pg sc,x.tenant,x.holds,x.reading,sc⟩ with ptes:=C.ptes.map (mP ((i:Int)+1))}
def jR (C:Ck) (i j:Nat) (x:Fr) (y:Fl) (C':Ck) (rq:Value) (err:Int):Prop:=
 if x.writing≠0 then C'=C/\rq=rq0/\err=7 else if x.pg.dirty=0 then C'=C/\rq=rq0/\err=4 else C'=qR C i j x y (iA x y)/\rq=rqP x y (iA x y) 2 (iL x (iA x y))/\err=0
def lT (P:Ck->Value->Int->Prop) (S:Nat->Prop) (w:World) (en:Ending) (w':World):Prop:=∃C' err a b c d e f g rq,P C' rq err/\en = .returned (.tuple #[cI a b c d e f g,rq,I_ err])/\x_ w' S a b c d e f g C'/\q_ w w'
theorem jR.q {x:Fr} {rq:Value} (hP:jR C i j x y C' rq err) (hu:dE C i x j y):jd_ C i j x y C':=by
 unfold jR at hP
 split at hP
 ·exact .inl hP.1
 split at hP
 ·exact .inl hP.1
 rename_i hd0
 have b:=hu.ok.pg.d;have a:1<=iA x y/\iA x y<=3:=by unfold iA;split <;> omega
 exact .inr ⟨⟨x.file,x.page,bR x.pg (iA x y),x.tenant,x.holds,x.reading,iA x y⟩,⟨hu.ok.page,hu.ok.tenant,mT hu.ok.pg ⟨O_,a.2⟩,hu.ok.holds,hu.ok.reading,⟨by show 0<=iA x y;omega,a.2⟩⟩,fun _=> .inl hd0,rfl,rfl,rfl,hP.1⟩
end
end Go.Proofs.YtehfhnbpnaiogaaGreatDoor
