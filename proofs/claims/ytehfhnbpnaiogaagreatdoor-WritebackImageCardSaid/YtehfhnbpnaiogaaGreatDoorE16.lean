/-
  Lemmas and contracts for the laws of this seat, part 16; several texts joined by a program.
-/
import Derived.Test.YtehfhnbpnaiogaaGreatDoorE15
import Derived.Test.YtehfhnbpnaiogaaGreatDoorE00
namespace Go.Proofs.YtehfhnbpnaiogaaGreatDoor
set_option linter.unusedVariables false
set_option linter.unusedSimpArgs false
set_option maxRecDepth 100000
set_option maxHeartbeats 16000000
open Go.RowKit Go.Proofs.Tryz IntKind
section
variable {Dk:List UInt8}
theorem gZ_ {C0:Ck} (j off n:Nat){db:Nat} {a b c d e f g:Value} {S:Nat->Prop} {W w:World} {bt:Nat} (hDl:Dk.length=1024) (hdb:db≠bt) (hdk:xG Dk db w) (h:x_ w S a b c d e f g C0) (hI:Ig Dk C0) (hj:j<2) (h1:1<=n) (h2:off+n<=128) (hT:Tp W bt w) (hn:¬S bt) (hS:∀z,w.heap.size<=z->S z) :
  C_ 33 #[cI a b c d e f g,I_ j,I_ off,I_ n,S_ (some ⟨db,0,none⟩) 1024 1024] w (ju_ (Ig Dk) S W bt w):=by
 have ci:=hT.lt;obtain ⟨A1,m1,c1,A2,m2,c2,A3,m3,c3,A4,m4,c4,A5,m5,c5,A6,m6,c6,A7,m7,c7,rfl,rfl,rfl,rfl,rfl,rfl,rfl⟩:=x_.caps h;obtain ⟨X,hX⟩:=aZ w.heap.size;have s:=H_ (PC.start h hI hT hX hn hS);have bn:=H_ (show ∀w',w.grownBy w' (some bt)->xG Dk db w' from fun w' hg=>hdk.gb hg hdb);clear h hI hT hdk;go_enter func33,ntmps33;obtain ⟨R,hR⟩:=aZ (X+1);rw [<-hR] at s;have cf:w.heap.size<=X/\w.heap.size<=R/\X≠R:=O_
 go_upto_region 1 with fail
 rw [<-hX,<-hR];generalize (w.alloc _).alloc _=W1 at s;clear hX hR;obtain ⟨y0,sz,hy,bg,cb⟩:=sO s.inv.inv hj;have bf:=fun w'=>gJ_ off n (fun z=>W1.heap.size<=z) w' h1 h2;have ba:1<=(W_ off n).length/\(W_ off n).length<=9:=by unfold W_;rw [sX];omega
 have ac:∀z ∈ W_ off n,0<=z/\z<8:=fun z M=>by
  unfold W_ zA at M;simp only[List.mem_map,List.mem_range] at M;obtain ⟨q,hq,rfl⟩:=M;omega
 have a3:=H_ ac;clear ac
 go_upto_region 2 with (go_at_call 88;refine CM (bf _) ?_;rintro e w2 ⟨vl,rfl,bd,b4⟩)
 have HO:=H_ bd;have HB:=H_ b4;clear bd b4 bf;have a0:=H_ (s.step HB.out);have bh:=fun en w' (N:q_ W1 w')=>fr_ j sz y0 en (s.at_.step N) s.inv.inv.ok hy bg cb;clear hy bg;have A:=a0.out;obtain ⟨x0,x1,x2,x3,x4,x5,x6⟩:=aF A.box;clear A
 go_upto_region 3 with (go_at_call 89;refine CM (bh _ _ HB.out) ?_;rintro e w3 ⟨tp,ts,rfl,bi,-,-,-,al⟩)
 have ag:=H_ (HO.step al);have ae:=lU HB al;clear al bh HO HB a0 x0 x1 x2 x3 x4 x5 x6
 go_upto_if 35 with fail
 go_cut [11] (fun s11 wx=>∃(F cl:Nat) (L:List Int),s11 = S_ (some ⟨F,0,none⟩) L.length cl/\W1<=F/\F<wx/\(∀(k:Nat) (z:Int),L[k]?=some z->wx.cell? ⟨F,k,none⟩=some (I_ z))/\(∀z ∈ L,0<=z/\z<8)/\L.length<=20/\q_ W1 wx)
 case first=>
  rcases bi with rfl | ⟨q,rfl,hq⟩
  ·go_wp2;go_meet
   case rel=>exact cs_ ag.out ba.1 a3.out O_ ae.out
  ·have HO:=ag;have HB:=ae
   go_wp2_with (at_builtin;(refine U_ cS rfl (.tmp 36) (.tmp 38) rfl (fun z=>W1.heap.size<=z) rfl (HO.alloc _) (by have:=HB.size;simp;omega) O_ #[I_ (q:Int)] rfl (l_ _ _ _ rfl) (q:Int) rfl ?_);intro v4 w4 aq c8 cd)
   go_meet
   case rel=>
    have bw:∀z ∈ W_ off n ++ [(q:Int)],0<=z/\z<8:=fun z M=>by
     rcases List.mem_append.1 M with M | M
     ·exact a3 z M
     ·obtain rfl:z=(q:Int):=by simpa using M
      omega
    have b9:1<=(W_ off n ++ [(q:Int)]).length/\(W_ off n ++ [(q:Int)]).length<=20:=by simp;omega
    have a7:q_ W1 w4:=(b_ HB.out _).grown c8 (b_ HB.out _).size (fun b N=>(HO.own N).1);exact cs_ aq b9.1 bw b9.2 a7
 case rest=>
  obtain ⟨F,cl,L,rfl,c0,cm,b6,hL,ce,a7⟩:=hcut;have af:=H_ b6;have HL:=H_ hL;have a4:=H_ (s.own (K:=some F) a7 (fun z M=>by injection M with M;omega))
  clear b6 hL a7 c0 s ag ae a3 bi ba y0
  go_upto_region 5 with fail
  go_wp2
  go_loopw [14,15,16,17,18,19,20,21] (fun s14 s15 s16 s17 s18 s19 s20 s21 wx=>∃k:Nat,s14 = I_ (k:Int)/\k<=L.length/\PCs (Ig Dk) S W w wc bt X R (some F) wx) (fun s14 _ _ _ _ _ _ _ _=>L.length - (intOf s14).toNat)
  case atStart=>exact ⟨0,rfl,O_,_,_,_,_,_,_,_,_,a4.out⟩
  case round=>
   clear a4;obtain ⟨k,rfl,hk,a,b,c,d,e,f,g,C,A⟩:=hrel;obtain ⟨A1,m1,c1,A2,m2,c2,A3,m3,c3,A4,m4,c4,A5,m5,c5,A6,m6,c6,A7,m7,c7,rfl,rfl,rfl,rfl,rfl,rfl,rfl⟩:=x_.caps A.at_;obtain ⟨Wk,bv⟩:=aZ wc;subst bv;have s:=H_ A;clear A;obtain ⟨V,hV⟩:=aZ wr;subst hV
   by_cases bc:k<L.length
   ·obtain ⟨p,U,c9⟩:∃p:Nat,L[k]?=some (p:Int)/\p<8:=by
     have:=HL _ (gM_ bc);exact ⟨L[k].toNat,by rw [cU bc];congr 1;omega,O_⟩
    have l0:V.cell? ⟨F,k,none⟩=some (I_ (p:Int)):=(c_ (s.kk F rfl).2.2.2).trans (af k p U);have ay:=H_ U;clear U;obtain ⟨y,sz,hy,_,_⟩:=sO s.inv.inv hj;have a9:=fun w' (h:x_ w' (Sx S X R (some F)) (S_ A1 m1 c1) (S_ A2 m2 c2) (S_ A3 m3 c3) (S_ A4 m4 c4) (S_ A5 m5 c5) (S_ A6 m6 c6) (S_ A7 m7 c7) C)=>gR j y p h hy;have aw:=H_ (s.inv.inv.findOk hy);have HY:=H_ hy;clear hy;have co:(k:Int)<(L.length:Int):=O_
    have k0:(0:Int)<=(k:Int):=O_
    have A:=s.out;obtain ⟨x0,x1,x2,x3,x4,x5,x6⟩:=aF A.box;clear A
    go_upto_region 8 with fail
    go_cut [15,16] (fun s15 s16 wx=>(∃(m:Int) (ok:Bool),s15 = I_ m/\s16 = .bool ok/\(ok=false\/ok=true/\∃(i:Nat) (x:Fr),m=(i:Int)+1/\dE C i x j y/\x.page=(p:Int)))/\PC (Ig Dk) S W w Wk bt X R (some F) (S_ A1 m1 c1) (S_ A2 m2 c2) (S_ A3 m3 c3) (S_ A4 m4 c4) (S_ A5 m5 c5) (S_ A6 m6 c6) (S_ A7 m7 c7) C wx)
    case first=>
     have xe:=aG V;have cg:=p_ s.box;have ch:=(s.kk F rfl).1
     by_cases hv:D_ y.c p<=0
     ·have ap:∀z,C_ 59 #[cI (S_ A1 m1 c1) (S_ A2 m2 c2) (S_ A3 m3 c3) (S_ A4 m4 c4) (S_ A5 m5 c5) (S_ A6 m6 c6) (S_ A7 m7 c7),I_ j,I_ p] (ext V z) (fun e ar=>e = .returned (.tuple #[I_ 0,.bool false])/\Below (ext V z).heap.size (ext V z) ar):=fun z=>by
       have:=a9 (ext V z) (s.at_.step (n_ V z));unfold eR wG at this;rw [if_pos hv] at this;exact this
      clear hv a9;refine y_ s_ s_ ?_
      repeat (go_big_quiet_step ((exact aB (ap _))))
      refine wpQuiet_nil ?_;rintro w' ⟨z,rfl⟩;go_wp2;go_meet
      case rel=>exact ⟨⟨0,false,rfl,rfl,.inl rfl⟩,s.step (n_ V z)⟩
     ·obtain ⟨i,x,b7,hU,bj⟩:=aw.out p O_;have ap:∀z,C_ 59 #[cI (S_ A1 m1 c1) (S_ A2 m2 c2) (S_ A3 m3 c3) (S_ A4 m4 c4) (S_ A5 m5 c5) (S_ A6 m6 c6) (S_ A7 m7 c7),I_ j,I_ p] (ext V z) (fun e ar=>e = .returned (.tuple #[I_ ((i:Int)+1),.bool true])/\Below (ext V z).heap.size (ext V z) ar):=fun z=>by
       have:=a9 (ext V z) (s.at_.step (n_ V z));unfold eR wG at this;rw [if_neg hv,b7] at this;exact this
      have HU:=H_ (And.intro hU (show x.page=(p:Int) from bj));clear hv a9 hU b7 bj;refine y_ s_ s_ ?_
      repeat (go_big_quiet_step ((exact aB (ap _))))
      refine wpQuiet_nil ?_;rintro w' ⟨z,rfl⟩;go_wp2;go_meet
      case rel=>exact ⟨⟨_,true,rfl,rfl,.inr ⟨rfl,i,x,rfl,HU⟩⟩,s.step (n_ V z)⟩
    case rest=>
     clear s l0 x0 x1 x2 x3 x4 x5 x6 a9 aw V;obtain ⟨⟨m,ok,rfl,rfl,be⟩,A⟩:=hcut;have ah:=H_ be;have s:=H_ A;clear be A
     go_upto_region 9 with fail
     go_cut [57] (fun s57 wx=>s57 = .bool (!ok)/\PC (Ig Dk) S W w Wk bt X R (some F) (S_ A1 m1 c1) (S_ A2 m2 c2) (S_ A3 m3 c3) (S_ A4 m4 c4) (S_ A5 m5 c5) (S_ A6 m6 c6) (S_ A7 m7 c7) C wx)
     case first=>
      go_wp2;go_meet
      case rel=>exact ⟨rfl,s⟩
     case rest=>
      clear s;obtain ⟨rfl,A⟩:=hcut;have s:=H_ A;clear A
      go_upto_if 57 with fail
      go_cut [15,17,18,19] (fun s15 s17 s18 s19 wx=>∃(i:Nat) (a b c d e f g:Value) (C:Ck) (x:Fr) (y:Fl),s15 = I_ ((i:Int)+1)/\(dE C i x j y/\x.page=(p:Int))/\PC (Ig Dk) S W w Wk bt X R (some F) a b c d e f g C wx)
      case first=>
       cases ok with
       | true=>
        obtain ⟨i,x,rfl,hU⟩:∃(i:Nat) (x:Fr),m=(i:Int)+1/\dE C i x j y/\x.page=(p:Int):=by
         rcases ah.out with h | ⟨_,h⟩
         ·cases h
         ·exact h
        go_wp2;go_meet
        case rel=>exact ⟨i,_,_,_,_,_,_,_,_,x,y,rfl,hU,s⟩
       | false=>
        clear ah;obtain ⟨V,hV⟩:=aZ wc;subst hV
        go_upto_region 10 with fail
        go_cut [17,18,19] (fun s17 s18 s19 wx=>∃(z:Nat) (t:Ck × Int × Int) (a b c d e f g:Value),s17 = P_ z/\s18 = I_ t.2.1/\s19 = I_ t.2.2/\InG Dk j p t.1 t.2.1 t.2.2/\aW wx z #[a,b,c,d,e,f,g] 30/\x_ wx (Sg (Sx S X R (some F)) ((some z,some t):GH (Ck × Int × Int))) a b c d e f g t.1/\PC (Ig Dk) S W w Wk bt X R (some F) (S_ A1 m1 c1) (S_ A2 m2 c2) (S_ A3 m3 c3) (S_ A4 m4 c4) (S_ A5 m5 c5) (S_ A6 m6 c6) (S_ A7 m7 c7) C wx)
        case first=>
         refine oH (τ:=Ck × Int × Int) (S:=Sx S X R (some F)) 114 12 (fun i=>decide (i<=8)||decide (i=11)) (CG 11 6 12 (PB (Ig Dk) S W w Wk bt X R (V) (some F) (S_ A1 m1 c1) (S_ A2 m2 c2) (S_ A3 m3 c3) (S_ A4 m4 c4) (S_ A5 m5 c5) (S_ A6 m6 c6) (S_ A7 m7 c7) C) (V) (cG) (fun t=>InG Dk j p t.1 t.2.1 t.2.2) (fun t x z=>∃a b c d e f g,aW x z #[a,b,c,d,e,f,g] 30/\x_ x (Sg (Sx S X R (some F)) (some z,some t)) a b c d e f g t.1)) [SG.eq (cI (S_ A1 m1 c1) (S_ A2 m2 c2) (S_ A3 m3 c3) (S_ A4 m4 c4) (S_ A5 m5 c5) (S_ A6 m6 c6) (S_ A7 m7 c7)),SG.eq (I_ (j:Int)),SG.eq (S_ (some ⟨F,0,none⟩) L.length cl),SG.eq (I_ (k:Int)),SG.eq (.pointer (some ⟨F,k,none⟩)),SG.eq (I_ (p:Int)),SG.res RQ.ck3,SG.res RQ.ck3,SG.res (RQ.ck (fun t=>t.1)),SG.res (RQ.flat (fun t=> I_ t.2.1)),SG.res (RQ.flat (fun t=> I_ t.2.2)),SG.box,SG.any,SG.res (RQ.flat (fun t=> I_ t.2.1)),SG.res (RQ.flat (fun t=> I_ t.2.2))] s_ s_ rfl ⟨s.pb.step (B_.drew),fun _=>rfl,fun _=>rfl,fun z h=>(by cases h),fun t h=>(by cases h),fun h=>(by cases h)⟩ s_ (fun _ _=>trivial) ?_;refine h_ (fun g d xw hn U l D K E=>?_) (fun v0=>?_)
         ·have N:=l.b.pc.box;obtain ⟨x0,x1,x2,x3,x4,x5,x6⟩:=aF N;go_simp;exact E g _ xw (l.pure 0 rfl rfl rfl) (fun _ _ h=>h) rfl
         simp only[ly];refine qE fun v1=>qE fun v2=>?_;simp only[ly];refine qE fun v3=>qE fun v4=>?_;simp only[ly];refine h_ (fun g d xw hn U l D K E=>?_) (fun v5=>?_)
         ·obtain rfl:v4=_:=D 4 s_;have l0:=(c_ (l.b.pc.kk F rfl).2.2.2).trans (af k p ay);go_simp;exact E g _ xw (l.pure 5 rfl rfl rfl) (fun _ _ h=>h) rfl
         simp only[ly];refine h_ (fun g d xw hn U l D K E=>?_) (fun v6=>?_)
         ·obtain rfl:v0=_:=D 0 s_;obtain rfl:v1=_:=D 1 s_;obtain rfl:v5=_:=D 5 s_;have am:=nds U rfl;obtain ⟨r,t⟩:=g;obtain rfl:t=none:=l.nc hn;have bx:=l.b.old.weak (S':=Sg (Sx S X R (some F)) ((r,none):GH (Ck × Int × Int))) (fun z _ h=>⟨h.1,fun e=>by have:=(l.bo z e).1;omega⟩);have bz:∀z,xw.heap.size<=z->Sg (Sx S X R (some F)) ((r,none):GH (Ck × Int × Int)) z:=fun z M=>⟨l.b.pc.fresh z M,fun e=>by have:=(l.bo z e).2.1;omega⟩;go_simp
          go_at_call 72
          refine CM (eC_ j p bx l.b.pc.inv hj c9 bz) ?_;rintro e w1 ⟨P,n1,er,a1,b1,c1,Z,e1,f1,g1,aj,rfl,B,N⟩;exact E (r,some (P,n1,er)) _ w1 (l.called rfl rfl am N (l.b.step N) aj) (fun j u h=>GG.keep (KG.ans N) j u h) ⟨(P,n1,er),rfl,a1,b1,c1,Z,e1,f1,g1,rfl,B⟩
         simp only[ly];refine h_ (fun g d xw hn U l D K E=>?_) (fun v7=>?_)
         ·obtain ⟨t,ht,a1,b1,c1,Z,e1,f1,g1,G,B⟩:=D 6 s_;obtain rfl:v6=_:=G;go_simp;exact E g _ xw (l.pure 7 rfl rfl rfl) (fun _ _ h=>h) ⟨t,ht,a1,b1,c1,Z,e1,f1,g1,rfl,B⟩
         simp only[ly];refine h_ (fun g d xw hn U l D K E=>?_) (fun v8=>?_)
         ·obtain ⟨t,ht,a1,b1,c1,Z,e1,f1,g1,G,B⟩:=D 7 s_;obtain rfl:v7=_:=G;go_simp;exact E g _ xw (l.pure 8 rfl rfl rfl) (fun _ _ h=>h) ⟨t,ht,a1,b1,c1,Z,e1,f1,g1,rfl,B⟩
         simp only[ly];refine h_ (fun g d xw hn U l D K E=>?_) (fun v9=>?_)
         ·obtain ⟨t,ht,a1,b1,c1,Z,e1,f1,g1,G,B⟩:=D 7 s_;obtain rfl:v7=_:=G;go_simp;exact E g _ xw (l.pure 9 rfl rfl rfl) (fun _ _ h=>h) ⟨t,ht,rfl⟩
         simp only[ly];refine h_ (fun g d xw hn U l D K E=>?_) (fun v10=>?_)
         ·obtain ⟨t,ht,a1,b1,c1,Z,e1,f1,g1,G,B⟩:=D 7 s_;obtain rfl:v7=_:=G;go_simp;exact E g _ xw (l.pure 10 rfl rfl rfl) (fun _ _ h=>h) ⟨t,ht,rfl⟩
         simp only[ly];refine h_ (fun g d xw hn U l D K E=>?_) (fun v11=>?_)
         ·have am:=nds U rfl;obtain ⟨r,t⟩:=g;obtain rfl:r=none:=l.nb hn;go_simp;exact E (some xw.heap.size,t) _ _ (l.boxed rfl rfl am l.b.nn _ (heap_alloc_new _ _) (l.b.step (b_ B_ _))) (fun j u h=>GG.keep (KG.alloc _) j u h) ⟨_,rfl,rfl⟩
         simp only[ly];refine h_ (fun g d xw hn U l D K E=>?_) (fun v12=>?_)
         ·obtain ⟨z,G,M⟩:=D 11 s_;obtain rfl:v11=_:=G;obtain ⟨t,ht,a1,b1,c1,Z,e1,f1,g1,G,B⟩:=D 8 s_;obtain rfl:v8=_:=G;obtain ⟨r,t'⟩:=g;obtain rfl:r=some z:=M;obtain rfl:t'=some t:=ht;obtain ⟨E1,u1,q1,E2,u2,q2,E3,u3,q3,E4,u4,q4,E5,u5,q5,E6,u6,q6,E7,u7,q7,rfl,rfl,rfl,rfl,rfl,rfl,rfl⟩:=x_.caps B;refine cK rfl 30 (.tmp 17) (.tmp 66) rfl rfl (E_ E1 u1 q1 E2 u2 q2 E3 u3 q3 E4 u4 q4 E5 u5 q5 E6 u6 q6 E7 u7 q7) rfl rfl 30 _ ((l.bo z rfl).2.2 hn) fI rfl (tR) ?_;exact E (some z,some t) undef _ (l.stored (l.b.aside (l.bo z rfl).1 _) ⟨_,_,_,_,_,_,_,setRow_heap _ _ _ _ _ _ ((l.bo z rfl).2.2 hn),B.kept (r_.of_setRow _ _ _ (fun h=>h.2 rfl))⟩) (fun j u h=>GG.keep (KG.store _) j u h) trivial
         simp only[ly];refine h_ (fun g d xw hn U l D K E=>?_) (fun v13=>?_)
         ·obtain ⟨t,ht,G⟩:=D 9 s_;obtain rfl:v9=_:=G;go_simp;exact E g _ xw (l.pure 13 rfl rfl rfl) (fun _ _ h=>h) ⟨t,ht,rfl⟩
         simp only[ly];refine h_ (fun g d xw hn U l D K E=>?_) (fun v14=>?_)
         ·obtain ⟨t,ht,G⟩:=D 10 s_;obtain rfl:v10=_:=G;go_simp;exact E g _ xw (l.pure 14 rfl rfl rfl) (fun _ _ h=>h) ⟨t,ht,rfl⟩
         simp only[ly];refine dD ?_;intro g d wz a8 l hG;obtain ⟨z,t,rfl,a1,b1,c1,Z,e1,f1,g1,M,B⟩:=l.st (a8 12 z_);obtain ⟨z',bp,cc⟩:=hG 11 z_;obtain rfl:v11=_:=bp;obtain rfl:z=z':=by injection cc
         obtain ⟨t1,ai,bq⟩:=hG 13 z_;obtain rfl:v13=_:=bq;obtain rfl:t=t1:=by injection ai
         obtain ⟨t2,bs,br⟩:=hG 14 z_;obtain rfl:v14=_:=br;obtain rfl:t=t2:=by injection bs
         clear hG a8;go_wp2;go_meet
         case rel=>exact ⟨z,t,_,_,_,_,_,_,_,rfl,rfl,rfl,l.an t rfl,M,B,l.b.pc⟩
        case rest=>
         clear s;obtain ⟨z,⟨P,n1,er⟩,a1,b1,b0,Z,e1,f1,g1,rfl,rfl,rfl,b8,M,B,A⟩:=hcut;obtain ⟨s,ax,HZ⟩:=eT A b8 M;clear A b8
         by_cases ao:er=0
         ·subst ao;obtain ⟨i,x,y',ai,hU⟩:=ax.out.2 rfl;obtain rfl:n1=(i:Int)+1:=ai;have HU:=H_ hU;have av:=H_ (show x_ wc (Sx S X R (some F)) a1 b1 b0 Z e1 f1 g1 P from B.weak (fun _ _ h=>h.1));clear hU B;have B:=av.out;obtain ⟨E1,u1,q1,E2,u2,q2,E3,u3,q3,E4,u4,q4,E5,u5,q5,E6,u6,q6,E7,u7,q7,rfl,rfl,rfl,rfl,rfl,rfl,rfl⟩:=x_.caps B;obtain ⟨o0,o1,o2,o3,o4,o5,o6⟩:=aF HZ.out;clear B M
          go_wp2_with (refine aJ rfl (.tmp 5) (.tmp 71) rfl rfl rfl rfl s.box rfl ?_)
          go_meet
          case rel=>exact ⟨i,_,_,_,_,_,_,_,P,x,y',rfl,HU,s.store ax.out.1 av⟩
         ·have Z:(er != 0)=true:=bne_iff_ne.2 ao;clear ao M B;go_wp2;go_roundw
          case rel=>exact ⟨k+1,by go_num,O_,_,_,_,_,_,_,_,_,s.out⟩
          case measure=>exact bH
      case rest=>
       clear s ah;obtain ⟨i,a,b,c,d,e,f,g,C,x,y,rfl,hU,A⟩:=hcut;obtain ⟨A1,m1,c1,rfl⟩:=A.at_.files.cap;obtain ⟨A2,c2,rfl,_,_⟩:=A.at_.frames.form;obtain ⟨A3,m3,c3,rfl⟩:=A.at_.zones.cap;obtain ⟨A4,m4,c4,rfl⟩:=A.at_.groups.cap;obtain ⟨A5,m5,c5,rfl⟩:=A.at_.lists.cap;obtain ⟨A6,m6,c6,rfl⟩:=A.at_.clocks.cap;obtain ⟨A7,m7,c7,rfl⟩:=A.at_.ptes.cap;obtain ⟨bb,o,rfl,a7,y0,y1,y2,y3,y4,y5,y6,y7,y8⟩:=FrA.cells A.at_.frames hU.1.fr;have cn:=bK hU.1.fr;have i2:(i:Int)<(C.frames.length:Int):=O_
       have i3:C.frames.length<=64:=A.inv.inv.nr.2;have s:=H_ A;have HU:=H_ hU;clear A hU;obtain ⟨V,hV⟩:=aZ wc;subst hV;have A:=s.out;obtain ⟨x0,x1,x2,x3,x4,x5,x6⟩:=aF A.box;clear A
       go_upto_region 13 with fail
       go_cut [20] (fun s20 wx=>s20 = I_ (bits .andNot .i64 3 x.pg.valid)/\wx.heap[bb]?=V.heap[bb]?/\PC (Ig Dk) S W w Wk bt X R (some F) (S_ A1 m1 c1) (S_ (some ⟨bb,o,none⟩) C.frames.length c2) (S_ A3 m3 c3) (S_ A4 m4 c4) (S_ A5 m5 c5) (S_ A6 m6 c6) (S_ A7 m7 c7) C wx)
       case first=>
        go_wp2;go_meet
        case rel=>exact ⟨rfl,rfl,s⟩
       case rest=>
        clear s x0 x1 x2 x3 x4 x5 x6 y0 y1 y2 y3 y4 y5 y6 y8;obtain ⟨rfl,b5,A⟩:=hcut;obtain ⟨n0,n3⟩:=fX_ HU.out.1.ok.pg.v;have ab:bits .andNot .i64 3 x.pg.valid≠0->x.pg.valid≠3:=fun h h3=>h (by rw [h3];rfl);replace y7:=(c_ b5).trans y7;have s:=H_ A;clear A b5;generalize bits .andNot .i64 3 x.pg.valid=nd at n0 n3 ab ⊢;have az:=H_ ab;clear ab;have A:=s.out;obtain ⟨x0,x1,x2,x3,x4,x5,x6⟩:=aF A.box;clear A
        go_upto_region 14 with fail
        by_cases aa:nd=0
        ·have Z:(nd != 0)=false:=by simp [aa]
         clear aa;go_wp2;go_roundw
         case rel=>exact ⟨k+1,by go_num,O_,_,_,_,_,_,_,_,_,s.out⟩
         case measure=>exact bH
        ·have Z:(nd != 0)=true:=bne_iff_ne.2 aa;have n1:1<=nd:=O_
         have ab:=az aa;clear az aa;obtain ⟨at_,ak⟩:=aZ ((j*18+2+p*2)*8);have b3:at_+16<=1024:=O_
         have l0:=(c_ (s.kk F rfl).2.2.2).trans (af k p ay)
         go_upto_region 15 with fail
         go_cut [21] (fun s21 wx=>s21 = I_ (at_:Int)/\PC (Ig Dk) S W w Wk bt X R (some F) (S_ A1 m1 c1) (S_ (some ⟨bb,o,none⟩) C.frames.length c2) (S_ A3 m3 c3) (S_ A4 m4 c4) (S_ A5 m5 c5) (S_ A6 m6 c6) (S_ A7 m7 c7) C wx)
         case first=>
          go_wp2;go_meet
          case rel=>exact ⟨by subst ak;go_num,s.out⟩
         case rest=>
          clear s x0 x1 x2 x3 x4 x5 x6 y7 l0;obtain ⟨rfl,A⟩:=hcut;have s:=H_ A;have au:=H_ ak;clear A ak;have A:=s.out;obtain ⟨x0,x1,x2,x3,x4,x5,x6⟩:=aF A.box;clear A
          go_upto_region 17 with (first
           | (go_at_call 90;refine CM (aI_ nd s.at_ s.inv.inv.ok HU.out.1 ⟨n1,n3⟩ s.fresh) ?_;rintro e w2 ⟨P,er,a1,b1,b0,Z,e1,f1,g1,ad,rfl,B,N⟩;obtain ⟨E1,u1,q1,E2,u2,q2,E3,u3,q3,E4,u4,q4,E5,u5,q5,E6,u6,q6,E7,u7,q7,rfl,rfl,rfl,rfl,rfl,rfl,rfl⟩:=x_.caps B;have a0:=H_ (s.step N))
           | (refine aJ rfl (.tmp 5) (.tmp 99) rfl rfl rfl rfl a0.box rfl ?_))
          obtain ⟨aj,bk,bl,bu,_,a6⟩:=s.inv.read HU.out.1 ⟨n1,n3⟩ ab ad;have bm:=H_ (show ∀C2,ReP P i j bk bl ⟨(dsk Dk at_).toArray⟩ true C2->Ig Dk C2 from fun C2 hr=>a6 _ C2 (fun b N=>by
           rw [HU.out.2,Int.toNat_natCast,au.out];exact ik_ (by have:=au.out;omega) N) hr)
          have a4:=H_ (a0.store (I:=fun C'=>C'=P) rfl B);clear s a0 B ad N x0 x1 x2 x3 x4 x5 x6 a6;have s:=a4;clear a4;generalize w2.setRow X (E_ E1 u1 q1 E2 u2 q2 E3 u3 q3 E4 u4 q4 E5 u5 q5 E6 u6 q6 E7 u7 q7)=W3 at s;refine yS (I:=Ig Dk) (J:=fun C'=>C'=P) 114 12 (fun i=>decide (i<=10)) [SK.eq (cI (S_ E1 u1 q1) (S_ E2 u2 q2) (S_ E3 u3 q3) (S_ E4 u4 q4) (S_ E5 u5 q5) (S_ E6 u6 q6) (S_ E7 u7 q7)),SK.eq (I_ ((i:Int)+1)),SK.eq (S_ (some ⟨db,0,none⟩) 1024 1024),SK.eq (I_ (at_:Int)),SK.eq (I_ (at_:Int)),SK.eq (I_ ((at_:Int)+16)),SK.eq (S_ (some ⟨db,at_,none⟩) 16 (1024 - at_)),SK.eq (.string ⟨(dsk Dk at_).toArray⟩),SK.ck2 (Ig Dk),SK.ck2 (Ig Dk),SK.ck1 (Ig Dk),SK.int,SK.any] s_ s_ rfl (fun _=>trivial) s ?_;refine k_ rfl rfl (fun xw l D K E=>?_) (fun v0=>?_)
          ·have H:PC (fun C'=>C'=P) S W w Wk bt X R (some F) _ _ _ _ _ _ _ P xw/\_:=l;have N:=H.1.box;obtain ⟨x0,x1,x2,x3,x4,x5,x6⟩:=aF N;go_simp;exact E _ _ l K_ rfl
          simp only[ly];refine qP fun v1=>qP fun v2=>?_;simp only[ly];refine qP fun v3=>qP fun v4=>?_;simp only[ly];refine k_ rfl rfl (fun xw l D K E=>?_) (fun v5=>?_)
          ·obtain rfl:v4=_:=D 4 s_;have hw:=fA (x:=(at_:Int)+16) O_;go_simp;exact E _ _ l K_ (by first | rfl | (show Value.int _ _=Value.int _ _;rw [hw];done) | (show Value.int _ _=Value.int _ _;simp;done) | (show Value.int _ _=Value.int _ _;congr 1;omega))
          simp only[ly];refine k_ rfl rfl (fun xw l D K E=>?_) (fun v6=>?_)
          ·obtain rfl:v2=_:=D 2 s_;obtain rfl:v3=_:=D 3 s_;obtain rfl:v5=_:=D 5 s_;have s1:((at_:Int)+16).toNat=at_+16:=O_
           have s2:0<=(at_:Int)+16/\(at_:Int)+16<=1024:=O_
           have s3:at_<=at_+16:=O_
           have s4:¬1024=at_:=O_
           go_simp;exact E _ _ l K_ rfl
          simp only[ly];refine k_ rfl rfl (fun xw l D K E=>?_) (fun v7=>?_)
          ·obtain rfl:v6=_:=D 6 s_;have H:PC (fun C'=>C'=P) S W w Wk bt X R (some F) _ _ _ _ _ _ _ P xw/\_:=l;have cj:=cU_ (bn xw H.1.gb) hDl b3;go_simp;exact E _ _ l K_ rfl
          simp only[ly];refine k_ rfl rfl (fun xw l D K E=>?_) (fun v8=>?_)
          ·have H:PC (fun C'=>C'=P) S W w Wk bt X R (some F) _ _ _ _ _ _ _ P xw/\_:=l;obtain rfl:v0=_:=D 0 s_;obtain rfl:v1=_:=D 1 s_;obtain rfl:v7=_:=D 7 s_;go_simp
           go_at_call 91
           refine CM (dk_ ⟨(dsk Dk at_).toArray⟩ true H.1.at_ aj.ok bu (by simpa [ByteArray.size] using b0_ (show at_+16<=Dk.length by omega)) H.1.fresh) ?_;rintro e w1 ⟨C2,a5,a2,b2,Y,d2,e2,f2,g2,ca,rfl,O,N⟩;have Q:Ig Dk C2:=bm.out _ ca;exact E _ _ ⟨H.1.step N,bF H.2 (bV N _)⟩ (r_.of_below N) ⟨C2,a2,b2,Y,d2,e2,f2,g2,a5,rfl,Q,O⟩
          simp only[ly];refine k_ rfl rfl (fun xw l D K E=>?_) (fun v9=>?_)
          ·obtain ⟨C2,a2,b2,Y,d2,e2,f2,g2,a5,G,Q,O⟩:=D 8 s_;obtain rfl:v8=_:=G;go_simp;exact E _ _ l K_ ⟨C2,a2,b2,Y,d2,e2,f2,g2,a5,rfl,Q,O⟩
          simp only[ly];refine k_ rfl rfl (fun xw l D K E=>?_) (fun v10=>?_)
          ·obtain ⟨C2,a2,b2,Y,d2,e2,f2,g2,a5,G,Q,O⟩:=D 9 s_;obtain rfl:v9=_:=G;go_simp;exact E _ _ l K_ ⟨C2,a2,b2,Y,d2,e2,f2,g2,rfl,Q,O⟩
          simp only[ly];refine cD rfl (fun w=>r_.refl w) (fun xw D K E=>?_) (fun v11=>?_)
          ·obtain ⟨C2,a2,b2,Y,d2,e2,f2,g2,a5,G,Q,O⟩:=D 9 s_;obtain rfl:v9=_:=G;go_simp;exact E _ ⟨_,rfl⟩
          simp only[ly];refine aL (fun xw l D K E=>?_) (fun v12=>?_)
          ·obtain ⟨C2,a2,b2,Y,d2,e2,f2,g2,G,Q,O⟩:=D 10 s_;obtain rfl:v10=_:=G;have H:PC (fun C'=>C'=P) S W w Wk bt X R (some F) _ _ _ _ _ _ _ P xw/\_:=l;obtain ⟨D1,r1,s1,D2,r2,s2,D3,r3,s3,D4,r4,s4,D5,r5,s5,D6,r6,s6,D7,r7,s7,rfl,rfl,rfl,rfl,rfl,rfl,rfl⟩:=x_.caps O;refine cK rfl 30 (.tmp 5) (.tmp 111) rfl rfl (E_ D1 r1 s1 D2 r2 s2 D3 r3 s3 D4 r4 s4 D5 r5 s5 D6 r6 s6 D7 r7 s7) rfl rfl 30 _ H.1.box fI rfl (tR) ?_;exact E undef _ ⟨_,_,_,_,_,_,_,_,H.1.store Q O⟩ (r_.of_setRow _ _ _ (fun h=>h.2.1 rfl)) trivial
          simp only[ly];refine aY ?_;intro wz hD hG;clear hG;go_wp2;go_roundw
          case rel=>exact ⟨k+1,by go_num,O_,hD⟩
          case measure=>exact bH
   ·obtain rfl:k=L.length:=O_
    have A:=s.out;obtain ⟨x0,x1,x2,x3,x4,x5,x6⟩:=aF A.box;clear A
    go_wp2_with (refine aJ rfl (.tmp 10) (.tmp 113) rfl rfl rfl rfl s.res rfl ?_)
    show bodyPost prog f33 _ _ _ _
    refine bodyPost_ret (mB rfl rfl (setRow_heap _ _ _ _ _ _ s.res)) rfl ?_;obtain ⟨q1,q2,q3⟩:=s.done;exact ⟨C,_,_,_,_,_,_,_,s.inv,rfl,q1,q2,q3⟩
end
end Go.Proofs.YtehfhnbpnaiogaaGreatDoor
