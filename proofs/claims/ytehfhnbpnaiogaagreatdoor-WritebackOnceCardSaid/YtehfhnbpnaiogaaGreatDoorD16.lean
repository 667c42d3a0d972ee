/-
  Lemmas and contracts for the laws of this seat, part 16; several texts joined by a program.
-/
import Derived.Test.YtehfhnbpnaiogaaGreatDoorD15
import Derived.Test.YtehfhnbpnaiogaaGreatDoorD00
namespace Go.Proofs.YtehfhnbpnaiogaaGreatDoor
set_option linter.unusedVariables false
set_option linter.unusedSimpArgs false
set_option maxRecDepth 100000
set_option maxHeartbeats 16000000
open Go.RowKit Go.Proofs.Tryz IntKind
variable {C:Ck} {S:Nat->Prop} {W w:World} {a c d e f g:Value} {b:Nat}
section
theorem e7_ {a b c:Int} (y:Int) (hy:y ∈ [a,b,c]) (h1:0<=a/\a<=128) (h2:0<=b/\b<=128) (h3:0<=c/\c<=128):0<=y/\y<=128:=by
 simp only[qL,List.not_mem_nil,or_false] at hy
 rcases hy with rfl | rfl | rfl <;> assumption
theorem hX_ {b:Value} {bt:Nat} (h:x_ w S a b c d e f g C) (hI:fN 3 2 2 C) (hT:Tp W bt w) (hn:¬S bt) (hS:∀z,w.heap.size<=z->S z) :
  C_ 106 #[P_ bt,bK a b c d e f g] w (ds_ 3 2 2 S W bt w):=by
 have ar:=hT.lt;obtain ⟨A1,m1,c1,A2,m2,c2,A3,m3,c3,A4,m4,c4,A5,m5,c5,A6,m6,c6,A7,m7,c7,rfl,rfl,rfl,rfl,rfl,rfl,rfl⟩:=x_.caps h;have ab:m1=C.files.length:=by
  obtain ⟨A,c',e,_,_⟩:=h.files.form;injection e
 have ac:m2=C.frames.length:=by
  obtain ⟨A,c',e,_,_⟩:=h.frames.form;injection e
 have a7:=H_ ab;have a8:=H_ ac;clear ab ac;obtain ⟨X,hX⟩:=bL w.heap.size;have B:=H_ (PC.start h hI hT hX hn hS);clear h hI hT;go_enter func106,ntmps106;obtain ⟨R,hR⟩:=bL (X+1);rw [<-hR] at B
 go_upto_region 1 with fail
 rw [<-hX,<-hR];generalize (w.alloc _).alloc _=W1 at B;clear hX hR
 go_upto_block 0 with (first
  | (go_at_call 9;(with_reducible refine CM (bY 3 (by omega) (by omega) B.out.tp) ?_);rintro e w1 ⟨fn,rfl,q0,a2,Q,U⟩;obtain ⟨fn,rfl⟩:=mZ q0;replace B:=H_ (B.keep U Q);clear Q U q0)
  | (go_at_call 9;(with_reducible refine CM (bY 8 (by omega) (by omega) B.out.tp) ?_);rintro e w1 ⟨pn,rfl,q0,a6,Q,U⟩;obtain ⟨pn,rfl⟩:=mZ q0;replace B:=H_ (B.keep U Q);clear Q U q0)
  | (go_at_call 9;(with_reducible refine CM (bY 128 (by omega) (by omega) B.out.tp) ?_);rintro e w1 ⟨off,rfl,q0,ad,Q,U⟩;obtain ⟨off,rfl⟩:=mZ q0;replace B:=H_ (B.keep U Q);clear Q U q0)
  | (go_at_call 9;(with_reducible refine CM (bY 14 (by omega) (by omega) B.out.tp) ?_);rintro e w1 ⟨tg,rfl,q0,am,Q,U⟩;obtain ⟨tg,rfl⟩:=mZ q0;replace B:=H_ (B.keep U Q);clear Q U q0))
 replace a2:fn<3:=O_
 replace a6:pn<8:=O_
 replace ad:off<128:=O_
 replace am:tg<14:=O_
 go_cut [] (fun wx=>PCs 3 2 2 S W w w bt X R none wx)
 case first=>
  obtain ⟨wc,ae⟩:=bL w1;rw [<-ae] at B ⊢;clear ae
  rcases (by omega:tg=0\/tg=1\/tg=2\/tg=3\/tg=4\/tg=5\/tg=6\/tg=7\/tg=8\/tg=9\/tg=10\/tg=11\/tg=12\/tg=13) with rfl | rfl | rfl | rfl | rfl | rfl | rfl | rfl | rfl | rfl | rfl | rfl | rfl | rfl
  iterate 2
   ·as_aux_lemma=>
     go_upto_region 6 with fail
     refine cQ 222 15 (fun i=>decide (i<=12)) [SK.eq (bK (S_ A1 m1 c1) (S_ A2 m2 c2) (S_ A3 m3 c3) (S_ A4 m4 c4) (S_ A5 m5 c5) (S_ A6 m6 c6) (S_ A7 m7 c7)),SK.eq (I_ (fn:Int)),SK.eq (I_ (pn:Int)),SK.eq (P_ bt),SK.nat 2,SK.eq (P_ bt),SK.nat 2,SK.eq (P_ bt),SK.nat 2,SK.bl,SK.ck3 3 2 2,SK.ck3 3 2 2,SK.ck1 3 2 2,SK.int,SK.int,SK.any] q_ q_ rfl (fun _=>trivial) B ?_;refine c_ rfl rfl (fun xw v p K u=>?_) (fun v0=>?_)
     ·have j:PC 3 2 2 S W w w bt X R none _ _ _ _ _ _ _ C xw/\_:=v;obtain ⟨x0,Z,x2,x3,x4,x5,x6⟩:=T_ j.1.box;go_simp;exact u _ _ v K_ rfl
     simp only[ly];refine qP fun v1=>qP fun v2=>qP fun v3=>?_;simp only[ly];refine c_ rfl rfl (fun xw v p K u=>?_) (fun v4=>?_)
     ·obtain rfl:v3=_:=p 3 q_;have j:PC 3 2 2 S W w w bt X R none _ _ _ _ _ _ _ C xw/\_:=v;go_simp
      go_at_call 9
      refine (bY _ O_ O_ j.1.tp).mono ?_;rintro e w1 ⟨y,rfl,V,y1,hT,L⟩;exact u _ _ ⟨j.1.keep L hT,u_ j.2 L⟩ (fJ L (fun h=>hn h.1)) ⟨y.toNat,by rw [nT_ V],O_⟩
     simp only[ly];refine qP fun v5=>?_;simp only[ly];refine c_ rfl rfl (fun xw v p K u=>?_) (fun v6=>?_)
     ·obtain rfl:v5=_:=p 5 q_;have j:PC 3 2 2 S W w w bt X R none _ _ _ _ _ _ _ C xw/\_:=v;go_simp
      go_at_call 9
      refine (bY _ O_ O_ j.1.tp).mono ?_;rintro e w1 ⟨y,rfl,V,y1,hT,L⟩;exact u _ _ ⟨j.1.keep L hT,u_ j.2 L⟩ (fJ L (fun h=>hn h.1)) ⟨y.toNat,by rw [nT_ V],O_⟩
     simp only[ly];refine qP fun v7=>?_;simp only[ly];refine c_ rfl rfl (fun xw v p K u=>?_) (fun v8=>?_)
     ·obtain rfl:v7=_:=p 7 q_;have j:PC 3 2 2 S W w w bt X R none _ _ _ _ _ _ _ C xw/\_:=v;go_simp
      go_at_call 9
      refine (bY _ O_ O_ j.1.tp).mono ?_;rintro e w1 ⟨y,rfl,V,y1,hT,L⟩;exact u _ _ ⟨j.1.keep L hT,u_ j.2 L⟩ (fJ L (fun h=>hn h.1)) ⟨y.toNat,by rw [nT_ V],O_⟩
     simp only[ly];refine c_ rfl rfl (fun xw v p K u=>?_) (fun v9=>?_)
     ·obtain ⟨k8,rfl,b8⟩:=p 8 q_;go_simp;exact u _ _ v K_ ⟨_,rfl⟩
     simp only[ly];refine c_ rfl rfl (fun xw v p K u=>?_) (fun v10=>?_)
     ·have j:PC 3 2 2 S W w w bt X R none _ _ _ _ _ _ _ C xw/\_:=v;obtain rfl:v0=_:=p 0 q_;obtain rfl:v1=_:=p 1 q_;obtain rfl:v2=_:=p 2 q_;obtain ⟨k4,rfl,b4⟩:=p 4 q_;obtain ⟨k6,rfl,b6⟩:=p 6 q_;obtain ⟨k9,rfl⟩:=p 9 q_;go_simp
      go_at_call 72
      refine CM (zS C fn _ _ _ _ _ _ _ (Sx S X R none) xw j.1.at_ j.1.inv a2 j.1.fresh pn k4 k6 k9 a6 b4 b6) ?_;rintro e w1 ⟨E,n1,er,a1,F,c1,G,H,D,I,q,rfl,m,O⟩;exact u _ _ ⟨j.1.step O,u_ j.2 (X_ O _)⟩ (r_.of_below O) ⟨E,a1,F,c1,G,H,D,I,n1,er,rfl,q.1,m⟩
     simp only[ly];refine c_ rfl rfl (fun xw v p K u=>?_) (fun v11=>?_)
     ·obtain ⟨E,a1,F,c1,G,H,D,I,n1,er,J,q,m⟩:=p 10 q_;obtain rfl:v10=_:=J;go_simp;exact u _ _ v K_ ⟨E,a1,F,c1,G,H,D,I,n1,er,rfl,q,m⟩
     simp only[ly];refine c_ rfl rfl (fun xw v p K u=>?_) (fun v12=>?_)
     ·obtain ⟨E,a1,F,c1,G,H,D,I,n1,er,J,q,m⟩:=p 11 q_;obtain rfl:v11=_:=J;go_simp;exact u _ _ v K_ ⟨E,a1,F,c1,G,H,D,I,rfl,q,m⟩
     simp only[ly];refine Z_ rfl (fun w=>r_.refl w) (fun xw p K u=>?_) (fun v13=>?_)
     ·obtain ⟨E,a1,F,c1,G,H,D,I,n1,er,J,q,m⟩:=p 11 q_;obtain rfl:v11=_:=J;go_simp;exact u _ ⟨_,rfl⟩
     simp only[ly];refine Z_ rfl (fun w=>r_.refl w) (fun xw p K u=>?_) (fun v14=>?_)
     ·obtain ⟨E,a1,F,c1,G,H,D,I,n1,er,J,q,m⟩:=p 11 q_;obtain rfl:v11=_:=J;go_simp;exact u _ ⟨_,rfl⟩
     simp only[ly];refine z_ (fun xw v p K u=>?_) (fun v15=>?_)
     ·obtain ⟨E,a1,F,c1,G,H,D,I,J,q,m⟩:=p 12 q_;obtain rfl:v12=_:=J;have j:PC 3 2 2 S W w w bt X R none _ _ _ _ _ _ _ C xw/\_:=v;obtain ⟨E1,u1,n1,E2,u2,n2,E3,u3,n3,E4,u4,n4,E5,u5,n5,E6,u6,n6,E7,u7,n7,rfl,rfl,rfl,rfl,rfl,rfl,rfl⟩:=x_.caps m;refine aE rfl 30 (.tmp 3) (.tmp 39) rfl rfl (D_ E1 u1 n1 E2 u2 n2 E3 u3 n3 E4 u4 n4 E5 u5 n5 E6 u6 n6 E7 u7 n7) rfl rfl 30 _ j.1.box cD rfl (fQ) ?_;exact u undef _ ⟨_,_,_,_,_,_,_,_,j.1.store q m⟩ (r_.of_setRow _ _ _ (fun h=>h.2.1 rfl)) trivial
     simp only[ly];refine G_ ?_;intro wz hD hG;clear hG;go_wp2;go_meet
     case rel=>exact hD
  iterate 3
   ·as_aux_lemma=>
     go_upto_region 11 with (go_at_call 9;(with_reducible refine CM (bY 40 (by omega) (by omega) B.out.tp) ?_);rintro e w1 ⟨of,rfl,q0,av,Q,U⟩;obtain ⟨of,rfl⟩:=mZ q0;replace B:=H_ (B.keep U Q);clear Q U q0)
     go_upto_region 12 with (first
      | (go_at_call 9;(with_reducible refine CM (bY 20 (by omega) (by omega) B.out.tp) ?_);rintro e w1 ⟨sn,rfl,q2,ak,Q,U⟩;obtain ⟨sn,rfl⟩:=mZ q2;replace B:=H_ (B.keep U Q);clear Q U q2)
      | (go_at_call 29;refine CM (fK_ (1+(sn:Int)) O_ O_ B.tp) ?_;rintro e w2 ⟨s,hs,rfl,M,N⟩;replace B:=H_ (B.keep N M);clear M N))
     have aj:1<=s.size/\s.size<=20:=O_
     clear hs ak;have P:=B.out;obtain ⟨x0,Z,x2,x3,x4,x5,x6⟩:=T_ P.box;clear P
     go_upto_region 13 with (first
      | (go_at_call 163;refine CM (gq_ fn of s.size B.at_ B.inv a2 O_ O_ B.tp (fun h=>hn h.1) B.fresh) ?_;rintro e w2 ⟨E,a1,F,c1,G,H,D,I,q,rfl,m,M,N⟩;obtain ⟨E1,u1,n1,E2,u2,n2,E3,u3,n3,E4,u4,n4,E5,u5,n5,E6,u6,n6,E7,u7,n7,rfl,rfl,rfl,rfl,rfl,rfl,rfl⟩:=x_.caps m;have a0:=H_ (B.keep N M);clear M N)
      | (refine Q_ rfl (.tmp 3) (.tmp 58) rfl rfl rfl rfl a0.box rfl ?_))
     have B:=H_ (a0.store q m);generalize w2.setRow X (D_ E1 u1 n1 E2 u2 n2 E3 u3 n3 E4 u4 n4 E5 u5 n5 E6 u6 n6 E7 u7 n7)=W3 at B;clear a0 q m x0 Z x2 x3 x4 x5 x6;have P:=B.out;obtain ⟨x0,Z,x2,x3,x4,x5,x6⟩:=T_ P.box;clear P
     go_wp2_with (first
      | (go_at_call 34;refine CM (dO_ E fn _ _ _ _ _ _ _ (Sx S X R none) _ B.at_ B.inv a2 B.fresh of s aj.1 O_) ?_;rintro e w2 ⟨E,er,a1,F,c1,G,H,D,I,q,rfl,m,O⟩;obtain ⟨E1,u1,n1,E2,u2,n2,E3,u3,n3,E4,u4,n4,E5,u5,n5,E6,u6,n6,E7,u7,n7,rfl,rfl,rfl,rfl,rfl,rfl,rfl⟩:=x_.caps m;have a0:=H_ (B.step O))
      | (refine Q_ rfl (.tmp 3) (.tmp 65) rfl rfl rfl rfl a0.box rfl ?_))
     go_meet
     case rel=>exact ⟨_,_,_,_,_,_,_,_,a0.store q m⟩
  ·as_aux_lemma=>
    skip
    have P:=B.out;obtain ⟨x0,Z,x2,x3,x4,x5,x6⟩:=T_ P.box;clear P
    go_upto_region 16 with (go_at_call 164;(refine CM (mX B.at_ (by have:=B.inv.nr;omega) B.tp) ?_);rintro e w2 ⟨n,hn,rfl,M,N⟩;replace B:=H_ (B.keep N M);clear M N)
    clear x0 Z x2 x3 x4 x5 x6
    rcases hn with rfl | ⟨i,x,rfl,hx,hf⟩
    ·go_wp2;go_meet
     case rel=>exact ⟨_,_,_,_,_,_,_,_,B⟩
    have a4:(0:Int)<(i:Int)+1:=O_
    have P:=B.out;obtain ⟨x0,Z,x2,x3,x4,x5,x6⟩:=T_ P.box;clear P
    go_wp2_with (first
     | (go_at_call 11;refine CM (fG_ C i x _ _ _ _ _ _ _ (Sx S X R none) _ B.at_ B.inv hx hf B.fresh) ?_;rintro e w2 ⟨E,er,a1,F,c1,G,H,D,I,rq,q,rfl,m,O⟩;obtain ⟨E1,u1,n1,E2,u2,n2,E3,u3,n3,E4,u4,n4,E5,u5,n5,E6,u6,n6,E7,u7,n7,rfl,rfl,rfl,rfl,rfl,rfl,rfl⟩:=x_.caps m;have a0:=H_ (B.step O))
     | (refine Q_ rfl (.tmp 3) (.tmp 78) rfl rfl rfl rfl a0.box rfl ?_))
    go_meet
    case rel=>exact ⟨_,_,_,_,_,_,_,_,a0.store q m⟩
  ·as_aux_lemma=>
    skip
    have P:=B.out;obtain ⟨x0,Z,x2,x3,x4,x5,x6⟩:=T_ P.box;clear P
    go_upto_region 20 with (go_at_call 164;(refine CM (mX B.at_ (by have:=B.inv.nr;omega) B.tp) ?_);rintro e w2 ⟨n,hn,rfl,M,N⟩;replace B:=H_ (B.keep N M);clear M N)
    clear x0 Z x2 x3 x4 x5 x6
    rcases hn with rfl | ⟨i,x,rfl,hx,hf⟩
    ·go_wp2;go_meet
     case rel=>exact ⟨_,_,_,_,_,_,_,_,B⟩
    have a4:(0:Int)<(i:Int)+1:=O_
    go_upto_region 21 with fail
    refine cQ 222 11 (fun i=>decide (i<=9)) [SK.eq (bK (S_ A1 m1 c1) (S_ A2 m2 c2) (S_ A3 m3 c3) (S_ A4 m4 c4) (S_ A5 m5 c5) (S_ A6 m6 c6) (S_ A7 m7 c7)),SK.eq (I_ ((i:Int)+1)),SK.row (fun _=>True) 3,SK.eq (P_ bt),SK.nat 3,SK.rat (fun _=>True),SK.int,SK.ck2 3 2 2,SK.ck2 3 2 2,SK.ck1 3 2 2,SK.int,SK.any] q_ q_ rfl (fun _=>trivial) B ?_;refine c_ rfl rfl (fun xw v p K u=>?_) (fun v0=>?_)
    ·have j:PC 3 2 2 S W w w bt X R none _ _ _ _ _ _ _ C xw/\_:=v;obtain ⟨x0,Z,x2,x3,x4,x5,x6⟩:=T_ j.1.box;go_simp;exact u _ _ v K_ rfl
    simp only[ly];refine qP fun v1=>?_;simp only[ly];refine c_ rfl rfl (fun xw v p K u=>?_) (fun v2=>?_)
    ·have j:PC 3 2 2 S W w w bt X R none _ _ _ _ _ _ _ C xw/\_:=v
     skip
     go_simp;exact u _ _ ⟨j.1.step (a_ B_ _),u_ j.2 (gA_ _ _ _)⟩ (r_.of_alloc _ _) ⟨_,_,[0,0,10],rfl,rfl,(fun _ _=>trivial),j.1.fresh _ (bE _),A_,heap_alloc_new _ _⟩
    simp only[ly];refine qP fun v3=>?_;simp only[ly];refine c_ rfl rfl (fun xw v p K u=>?_) (fun v4=>?_)
    ·obtain rfl:v3=_:=p 3 q_;have j:PC 3 2 2 S W w w bt X R none _ _ _ _ _ _ _ C xw/\_:=v;go_simp
     go_at_call 9
     refine (bY _ O_ O_ j.1.tp).mono ?_;rintro e w1 ⟨y,rfl,V,y1,hT,L⟩;exact u _ _ ⟨j.1.keep L hT,u_ j.2 L⟩ (fJ L (fun h=>hn h.1)) ⟨y.toNat,by rw [nT_ V],O_⟩
    simp only[ly];refine c_ rfl rfl (fun xw v p K u=>?_) (fun v5=>?_)
    ·obtain ⟨gg,t,l,rfl,hl,hp,hS,a5,L⟩:=p 2 q_;obtain ⟨k,rfl,hk⟩:=p 4 q_;have ai:(k:Int)<3:=O_
     have a3:=jf_ L (i:=k) O_;go_simp;exact u _ _ v K_ ⟨gg,k,l[k]'O_,rfl,hp (l[k]'O_) (gM_ _),hS,a5,a3⟩
    simp only[ly];refine c_ rfl rfl (fun xw v p K u=>?_) (fun v6=>?_)
    ·obtain ⟨gg,i',y,rfl,hp,hS,a5,a3⟩:=p 5 q_;go_simp;exact u _ _ v K_ ⟨_,rfl⟩
    simp only[ly];refine c_ rfl rfl (fun xw v p K u=>?_) (fun v7=>?_)
    ·have j:PC 3 2 2 S W w w bt X R none _ _ _ _ _ _ _ C xw/\_:=v;obtain rfl:v0=_:=p 0 q_;obtain rfl:v1=_:=p 1 q_;obtain ⟨k6,rfl⟩:=p 6 q_;go_simp
     go_at_call 17
     refine CM (iU_ C i x _ _ _ _ _ _ _ (Sx S X R none) xw j.1.at_ j.1.inv hx hf j.1.fresh k6) ?_;rintro e w1 ⟨E,er,a1,F,c1,G,H,D,I,q,rfl,m,O⟩;exact u _ _ ⟨j.1.step O,u_ j.2 (X_ O _)⟩ (r_.of_below O) ⟨E,a1,F,c1,G,H,D,I,er,rfl,q,m⟩
    simp only[ly];refine c_ rfl rfl (fun xw v p K u=>?_) (fun v8=>?_)
    ·obtain ⟨E,a1,F,c1,G,H,D,I,er,J,q,m⟩:=p 7 q_;obtain rfl:v7=_:=J;go_simp;exact u _ _ v K_ ⟨E,a1,F,c1,G,H,D,I,er,rfl,q,m⟩
    simp only[ly];refine c_ rfl rfl (fun xw v p K u=>?_) (fun v9=>?_)
    ·obtain ⟨E,a1,F,c1,G,H,D,I,er,J,q,m⟩:=p 8 q_;obtain rfl:v8=_:=J;go_simp;exact u _ _ v K_ ⟨E,a1,F,c1,G,H,D,I,rfl,q,m⟩
    simp only[ly];refine Z_ rfl (fun w=>r_.refl w) (fun xw p K u=>?_) (fun v10=>?_)
    ·obtain ⟨E,a1,F,c1,G,H,D,I,er,J,q,m⟩:=p 8 q_;obtain rfl:v8=_:=J;go_simp;exact u _ ⟨_,rfl⟩
    simp only[ly];refine z_ (fun xw v p K u=>?_) (fun v11=>?_)
    ·obtain ⟨E,a1,F,c1,G,H,D,I,J,q,m⟩:=p 9 q_;obtain rfl:v9=_:=J;have j:PC 3 2 2 S W w w bt X R none _ _ _ _ _ _ _ C xw/\_:=v;obtain ⟨E1,u1,n1,E2,u2,n2,E3,u3,n3,E4,u4,n4,E5,u5,n5,E6,u6,n6,E7,u7,n7,rfl,rfl,rfl,rfl,rfl,rfl,rfl⟩:=x_.caps m;refine aE rfl 30 (.tmp 3) (.tmp 97) rfl rfl (D_ E1 u1 n1 E2 u2 n2 E3 u3 n3 E4 u4 n4 E5 u5 n5 E6 u6 n6 E7 u7 n7) rfl rfl 30 _ j.1.box cD rfl (fQ) ?_;exact u undef _ ⟨_,_,_,_,_,_,_,_,j.1.store q m⟩ (r_.of_setRow _ _ _ (fun h=>h.2.1 rfl)) trivial
    simp only[ly];refine G_ ?_;intro wz hD hG;clear hG;go_wp2;go_meet
    case rel=>exact hD
  ·as_aux_lemma=>
    skip
    have P:=B.out;obtain ⟨x0,Z,x2,x3,x4,x5,x6⟩:=T_ P.box;clear P
    go_upto_region 24 with (go_at_call 164;(refine CM (mX B.at_ (by have:=B.inv.nr;omega) B.tp) ?_);rintro e w2 ⟨n,hn,rfl,M,N⟩;replace B:=H_ (B.keep N M);clear M N)
    clear x0 Z x2 x3 x4 x5 x6
    rcases hn with rfl | ⟨i,x,rfl,hx,hf⟩
    ·go_wp2;go_meet
     case rel=>exact ⟨_,_,_,_,_,_,_,_,B⟩
    have a4:(0:Int)<(i:Int)+1:=O_
    go_upto_region 25 with fail
    refine cQ 222 9 (fun i=>decide (i<=7)) [SK.eq (bK (S_ A1 m1 c1) (S_ A2 m2 c2) (S_ A3 m3 c3) (S_ A4 m4 c4) (S_ A5 m5 c5) (S_ A6 m6 c6) (S_ A7 m7 c7)),SK.eq (I_ ((i:Int)+1)),SK.eq (P_ bt),SK.nat 3,SK.ir 1 3,SK.ck2 3 2 2,SK.ck2 3 2 2,SK.ck1 3 2 2,SK.int,SK.any] q_ q_ rfl (fun _=>trivial) B ?_;refine c_ rfl rfl (fun xw v p K u=>?_) (fun v0=>?_)
    ·have j:PC 3 2 2 S W w w bt X R none _ _ _ _ _ _ _ C xw/\_:=v;obtain ⟨x0,Z,x2,x3,x4,x5,x6⟩:=T_ j.1.box;go_simp;exact u _ _ v K_ rfl
    simp only[ly];refine qP fun v1=>qP fun v2=>?_;simp only[ly];refine c_ rfl rfl (fun xw v p K u=>?_) (fun v3=>?_)
    ·obtain rfl:v2=_:=p 2 q_;have j:PC 3 2 2 S W w w bt X R none _ _ _ _ _ _ _ C xw/\_:=v;go_simp
     go_at_call 9
     refine (bY _ O_ O_ j.1.tp).mono ?_;rintro e w1 ⟨y,rfl,V,y1,hT,L⟩;exact u _ _ ⟨j.1.keep L hT,u_ j.2 L⟩ (fJ L (fun h=>hn h.1)) ⟨y.toNat,by rw [nT_ V],O_⟩
    simp only[ly];refine c_ rfl rfl (fun xw v p K u=>?_) (fun v4=>?_)
    ·obtain ⟨k3,rfl,b3⟩:=p 3 q_;have hw:=gJ (x:=1+(k3:Int)) O_;go_simp;exact u _ _ v K_ ⟨_,rfl,O_,O_⟩
    simp only[ly];refine c_ rfl rfl (fun xw v p K u=>?_) (fun v5=>?_)
    ·have j:PC 3 2 2 S W w w bt X R none _ _ _ _ _ _ _ C xw/\_:=v;obtain rfl:v0=_:=p 0 q_;obtain rfl:v1=_:=p 1 q_;obtain ⟨k4,rfl,b4,c4⟩:=p 4 q_;go_simp
     go_at_call 90
     refine CM (am_ C i x _ _ _ _ _ _ _ (Sx S X R none) xw j.1.at_ j.1.inv hx hf j.1.fresh k4 ⟨b4,c4⟩) ?_;rintro e w1 ⟨E,er,a1,F,c1,G,H,D,I,q,rfl,m,O⟩;exact u _ _ ⟨j.1.step O,u_ j.2 (X_ O _)⟩ (r_.of_below O) ⟨E,a1,F,c1,G,H,D,I,er,rfl,q,m⟩
    simp only[ly];refine c_ rfl rfl (fun xw v p K u=>?_) (fun v6=>?_)
    ·obtain ⟨E,a1,F,c1,G,H,D,I,er,J,q,m⟩:=p 5 q_;obtain rfl:v5=_:=J;go_simp;exact u _ _ v K_ ⟨E,a1,F,c1,G,H,D,I,er,rfl,q,m⟩
    simp only[ly];refine c_ rfl rfl (fun xw v p K u=>?_) (fun v7=>?_)
    ·obtain ⟨E,a1,F,c1,G,H,D,I,er,J,q,m⟩:=p 6 q_;obtain rfl:v6=_:=J;go_simp;exact u _ _ v K_ ⟨E,a1,F,c1,G,H,D,I,rfl,q,m⟩
    simp only[ly];refine Z_ rfl (fun w=>r_.refl w) (fun xw p K u=>?_) (fun v8=>?_)
    ·obtain ⟨E,a1,F,c1,G,H,D,I,er,J,q,m⟩:=p 6 q_;obtain rfl:v6=_:=J;go_simp;exact u _ ⟨_,rfl⟩
    simp only[ly];refine z_ (fun xw v p K u=>?_) (fun v9=>?_)
    ·obtain ⟨E,a1,F,c1,G,H,D,I,J,q,m⟩:=p 7 q_;obtain rfl:v7=_:=J;have j:PC 3 2 2 S W w w bt X R none _ _ _ _ _ _ _ C xw/\_:=v;obtain ⟨E1,u1,n1,E2,u2,n2,E3,u3,n3,E4,u4,n4,E5,u5,n5,E6,u6,n6,E7,u7,n7,rfl,rfl,rfl,rfl,rfl,rfl,rfl⟩:=x_.caps m;refine aE rfl 30 (.tmp 3) (.tmp 113) rfl rfl (D_ E1 u1 n1 E2 u2 n2 E3 u3 n3 E4 u4 n4 E5 u5 n5 E6 u6 n6 E7 u7 n7) rfl rfl 30 _ j.1.box cD rfl (fQ) ?_;exact u undef _ ⟨_,_,_,_,_,_,_,_,j.1.store q m⟩ (r_.of_setRow _ _ _ (fun h=>h.2.1 rfl)) trivial
    simp only[ly];refine G_ ?_;intro wz hD hG;clear hG;go_wp2;go_meet
    case rel=>exact hD
  ·as_aux_lemma=>
    skip
    have P:=B.out;obtain ⟨x0,Z,x2,x3,x4,x5,x6⟩:=T_ P.box;clear P
    go_upto_region 28 with (go_at_call 164;(refine CM (mX B.at_ (by have:=B.inv.nr;omega) B.tp) ?_);rintro e w2 ⟨n,hn,rfl,M,N⟩;replace B:=H_ (B.keep N M);clear M N)
    clear x0 Z x2 x3 x4 x5 x6
    rcases hn with rfl | ⟨i,x,rfl,hx,hf⟩
    ·go_wp2;go_meet
     case rel=>exact ⟨_,_,_,_,_,_,_,_,B⟩
    have a4:(0:Int)<(i:Int)+1:=O_
    obtain rfl:=a8.out;obtain ⟨jj,yy,hu,_⟩:=B.inv.used hx hf;have an:0<=x.file/\x.file<=100:=by have:=hu.ix;have:=bI hu.fl;have:=B.inv.nf;omega
    have ao:0<=x.page/\x.page<=100:=by have:=hu.ok.page;omega
    obtain ⟨bb,o,rfl,aq,V,y1,y2,y3,y4,y5,y6,y7,y8⟩:=FrA.cells B.at_.frames hx;have ah:=bI hx;have i2:(i:Int)<(C.frames.length:Int):=O_
    have i4:C.frames.length<=64:=B.inv.nr.2;clear hu;have P:=B.out;obtain ⟨x0,Z,x2,x3,x4,x5,x6⟩:=T_ P.box;clear P
    go_upto_region 30 with fail
    obtain ⟨Y,hY⟩:=bL w2.heap.size;have HF:=H_ (l_ w2 (oF x) Y hY.symm);have a9:Y≠bt:=by have:=B.tp.lt;omega
    replace B:=H_ (B.step (a_ B_ (oF x)));rw [<-hY];generalize w2.alloc (oF x)=W2 at B HF;clear hY x0 Z x2 x3 x4 x5 x6 V y1 y2 y3 y4 y5 y6 y7 y8 i2 ah;refine cQ 222 14 (fun i=>decide (i<=12)) [SK.eq (bK (S_ A1 m1 c1) (S_ (some ⟨bb,o,none⟩) C.frames.length c2) (S_ A3 m3 c3) (S_ A4 m4 c4) (S_ A5 m5 c5) (S_ A6 m6 c6) (S_ A7 m7 c7)),SK.eq (I_ ((i:Int)+1)),SK.eq (P_ Y),SK.eq (I_ x.file),SK.eq (.pointer (some ⟨Y,1,none⟩)),SK.eq (I_ x.page),SK.s16,SK.eq (P_ bt),SK.nat 4,SK.bl,SK.ck2 3 2 2,SK.ck2 3 2 2,SK.ck1 3 2 2,SK.int,SK.any] q_ q_ rfl (fun _=>trivial) B ?_;refine c_ rfl rfl (fun xw v p K u=>?_) (fun v0=>?_)
    ·have j:PC 3 2 2 S W w w bt X R none _ _ _ _ _ _ _ C xw/\_:=v;obtain ⟨x0,Z,x2,x3,x4,x5,x6⟩:=T_ j.1.box;go_simp;exact u _ _ v K_ rfl
    simp only[ly];refine qP fun v1=>qP fun v2=>?_;simp only[ly];refine c_ rfl rfl (fun xw v p K u=>?_) (fun v3=>?_)
    ·obtain rfl:v2=_:=p 2 q_;have j:PC 3 2 2 S W w w bt X R none _ _ _ _ _ _ _ C xw/\_:=v;have hF:=eA j.2 a9 HF;have f0:=sF hF;go_simp;exact u _ _ v K_ rfl
    simp only[ly];refine qP fun v4=>?_;simp only[ly];refine c_ rfl rfl (fun xw v p K u=>?_) (fun v5=>?_)
    ·obtain rfl:v4=_:=p 4 q_;have j:PC 3 2 2 S W w w bt X R none _ _ _ _ _ _ _ C xw/\_:=v;have hF:=eA j.2 a9 HF;have D:=b_ hF 1;simp only[zl] at D;go_simp;exact u _ _ v K_ rfl
    simp only[ly];refine c_ rfl rfl (fun xw v p K u=>?_) (fun v6=>?_)
    ·have j:PC 3 2 2 S W w w bt X R none _ _ _ _ _ _ _ C xw/\_:=v;obtain rfl:v3=_:=p 3 q_;obtain rfl:v5=_:=p 5 q_;go_simp
     go_at_call 165
     refine CM (dS_ x.file x.page xw an ao) ?_;rintro e w1 ⟨s,hs,rfl,O⟩;exact u _ _ ⟨j.1.step O,u_ j.2 (X_ O _)⟩ (r_.of_below O) ⟨s,rfl,hs⟩
    simp only[ly];refine qP fun v7=>?_;simp only[ly];refine c_ rfl rfl (fun xw v p K u=>?_) (fun v8=>?_)
    ·obtain rfl:v7=_:=p 7 q_;have j:PC 3 2 2 S W w w bt X R none _ _ _ _ _ _ _ C xw/\_:=v;go_simp
     go_at_call 9
     refine (bY _ O_ O_ j.1.tp).mono ?_;rintro e w1 ⟨y,rfl,V,y1,hT,L⟩;exact u _ _ ⟨j.1.keep L hT,u_ j.2 L⟩ (fJ L (fun h=>hn h.1)) ⟨y.toNat,by rw [nT_ V],O_⟩
    simp only[ly];refine c_ rfl rfl (fun xw v p K u=>?_) (fun v9=>?_)
    ·obtain ⟨k8,rfl,b8⟩:=p 8 q_;go_simp;exact u _ _ v K_ ⟨_,rfl⟩
    simp only[ly];refine c_ rfl rfl (fun xw v p K u=>?_) (fun v10=>?_)
    ·have j:PC 3 2 2 S W w w bt X R none _ _ _ _ _ _ _ C xw/\_:=v;obtain rfl:v0=_:=p 0 q_;obtain rfl:v1=_:=p 1 q_;obtain ⟨s,ag,hs⟩:=p 6 q_;obtain rfl:v6=_:=ag;obtain ⟨k9,rfl⟩:=p 9 q_;go_simp
     go_at_call 91
     refine CM (wI C i x _ _ _ _ _ _ _ (Sx S X R none) xw j.1.at_ j.1.inv hx hf j.1.fresh s k9 hs) ?_;rintro e w1 ⟨E,er,a1,F,c1,G,H,D,I,q,rfl,m,O⟩;exact u _ _ ⟨j.1.step O,u_ j.2 (X_ O _)⟩ (r_.of_below O) ⟨E,a1,F,c1,G,H,D,I,er,rfl,q,m⟩
    simp only[ly];refine c_ rfl rfl (fun xw v p K u=>?_) (fun v11=>?_)
    ·obtain ⟨E,a1,F,c1,G,H,D,I,er,J,q,m⟩:=p 10 q_;obtain rfl:v10=_:=J;go_simp;exact u _ _ v K_ ⟨E,a1,F,c1,G,H,D,I,er,rfl,q,m⟩
    simp only[ly];refine c_ rfl rfl (fun xw v p K u=>?_) (fun v12=>?_)
    ·obtain ⟨E,a1,F,c1,G,H,D,I,er,J,q,m⟩:=p 11 q_;obtain rfl:v11=_:=J;go_simp;exact u _ _ v K_ ⟨E,a1,F,c1,G,H,D,I,rfl,q,m⟩
    simp only[ly];refine Z_ rfl (fun w=>r_.refl w) (fun xw p K u=>?_) (fun v13=>?_)
    ·obtain ⟨E,a1,F,c1,G,H,D,I,er,J,q,m⟩:=p 11 q_;obtain rfl:v11=_:=J;go_simp;exact u _ ⟨_,rfl⟩
    simp only[ly];refine z_ (fun xw v p K u=>?_) (fun v14=>?_)
    ·obtain ⟨E,a1,F,c1,G,H,D,I,J,q,m⟩:=p 12 q_;obtain rfl:v12=_:=J;have j:PC 3 2 2 S W w w bt X R none _ _ _ _ _ _ _ C xw/\_:=v;obtain ⟨E1,u1,n1,E2,u2,n2,E3,u3,n3,E4,u4,n4,E5,u5,n5,E6,u6,n6,E7,u7,n7,rfl,rfl,rfl,rfl,rfl,rfl,rfl⟩:=x_.caps m;refine aE rfl 30 (.tmp 3) (.tmp 140) rfl rfl (D_ E1 u1 n1 E2 u2 n2 E3 u3 n3 E4 u4 n4 E5 u5 n5 E6 u6 n6 E7 u7 n7) rfl rfl 30 _ j.1.box cD rfl (fQ) ?_;exact u undef _ ⟨_,_,_,_,_,_,_,_,j.1.store q m⟩ (r_.of_setRow _ _ _ (fun h=>h.2.1 rfl)) trivial
    simp only[ly];refine G_ ?_;intro wz hD hG;clear hG;go_wp2;go_meet
    case rel=>exact hD
  ·as_aux_lemma=>
    skip
    have P:=B.out;obtain ⟨x0,Z,x2,x3,x4,x5,x6⟩:=T_ P.box;clear P
    go_upto_region 33 with (go_at_call 164;(refine CM (mX B.at_ (by have:=B.inv.nr;omega) B.tp) ?_);rintro e w2 ⟨n,hn,rfl,M,N⟩;replace B:=H_ (B.keep N M);clear M N)
    clear x0 Z x2 x3 x4 x5 x6
    rcases hn with rfl | ⟨i,x,rfl,hx,hf⟩
    ·go_wp2;go_meet
     case rel=>exact ⟨_,_,_,_,_,_,_,_,B⟩
    have a4:(0:Int)<(i:Int)+1:=O_
    have P:=B.out;obtain ⟨x0,Z,x2,x3,x4,x5,x6⟩:=T_ P.box;clear P
    go_wp2_with (first
     | (go_at_call 166;refine CM (fV_ C i x _ _ _ _ _ _ _ (Sx S X R none) _ B.at_ B.inv hx hf B.fresh) ?_;rintro e w2 ⟨E,er,a1,F,c1,G,H,D,I,q,rfl,m,O⟩;obtain ⟨E1,u1,n1,E2,u2,n2,E3,u3,n3,E4,u4,n4,E5,u5,n5,E6,u6,n6,E7,u7,n7,rfl,rfl,rfl,rfl,rfl,rfl,rfl⟩:=x_.caps m;have a0:=H_ (B.step O))
     | (refine Q_ rfl (.tmp 3) (.tmp 153) rfl rfl rfl rfl a0.box rfl ?_))
    go_meet
    case rel=>exact ⟨_,_,_,_,_,_,_,_,a0.store q m⟩
  ·as_aux_lemma=>
    skip
    have P:=B.out;obtain ⟨x0,Z,x2,x3,x4,x5,x6⟩:=T_ P.box;clear P
    go_upto_region 37 with (go_at_call 164;(refine CM (mX B.at_ (by have:=B.inv.nr;omega) B.tp) ?_);rintro e w2 ⟨n,hn,rfl,M,N⟩;replace B:=H_ (B.keep N M);clear M N)
    clear x0 Z x2 x3 x4 x5 x6
    rcases hn with rfl | ⟨i,x,rfl,hx,hf⟩
    ·go_wp2;go_meet
     case rel=>exact ⟨_,_,_,_,_,_,_,_,B⟩
    have a4:(0:Int)<(i:Int)+1:=O_
    go_upto_region 38 with fail
    refine cQ 222 9 (fun i=>decide (i<=7)) [SK.eq (bK (S_ A1 m1 c1) (S_ A2 m2 c2) (S_ A3 m3 c3) (S_ A4 m4 c4) (S_ A5 m5 c5) (S_ A6 m6 c6) (S_ A7 m7 c7)),SK.eq (I_ ((i:Int)+1)),SK.eq (P_ bt),SK.nat 3,SK.ir (-1) 1,SK.ck2 3 2 2,SK.ck2 3 2 2,SK.ck1 3 2 2,SK.int,SK.any] q_ q_ rfl (fun _=>trivial) B ?_;refine c_ rfl rfl (fun xw v p K u=>?_) (fun v0=>?_)
    ·have j:PC 3 2 2 S W w w bt X R none _ _ _ _ _ _ _ C xw/\_:=v;obtain ⟨x0,Z,x2,x3,x4,x5,x6⟩:=T_ j.1.box;go_simp;exact u _ _ v K_ rfl
    simp only[ly];refine qP fun v1=>qP fun v2=>?_;simp only[ly];refine c_ rfl rfl (fun xw v p K u=>?_) (fun v3=>?_)
    ·obtain rfl:v2=_:=p 2 q_;have j:PC 3 2 2 S W w w bt X R none _ _ _ _ _ _ _ C xw/\_:=v;go_simp
     go_at_call 9
     refine (bY _ O_ O_ j.1.tp).mono ?_;rintro e w1 ⟨y,rfl,V,y1,hT,L⟩;exact u _ _ ⟨j.1.keep L hT,u_ j.2 L⟩ (fJ L (fun h=>hn h.1)) ⟨y.toNat,by rw [nT_ V],O_⟩
    simp only[ly];refine c_ rfl rfl (fun xw v p K u=>?_) (fun v4=>?_)
    ·obtain ⟨k3,rfl,b3⟩:=p 3 q_;have hw:=gJ (x:=(k3:Int) - 1) O_;go_simp;exact u _ _ v K_ ⟨_,rfl,O_,O_⟩
    simp only[ly];refine c_ rfl rfl (fun xw v p K u=>?_) (fun v5=>?_)
    ·have j:PC 3 2 2 S W w w bt X R none _ _ _ _ _ _ _ C xw/\_:=v;obtain rfl:v0=_:=p 0 q_;obtain rfl:v1=_:=p 1 q_;obtain ⟨k4,rfl,b4,c4⟩:=p 4 q_;go_simp
     go_at_call 167
     refine CM (hx_ C i x _ _ _ _ _ _ _ (Sx S X R none) xw j.1.at_ j.1.inv hx hf j.1.fresh k4 ⟨b4,c4⟩) ?_;rintro e w1 ⟨E,er,a1,F,c1,G,H,D,I,q,rfl,m,O⟩;exact u _ _ ⟨j.1.step O,u_ j.2 (X_ O _)⟩ (r_.of_below O) ⟨E,a1,F,c1,G,H,D,I,er,rfl,q,m⟩
    simp only[ly];refine c_ rfl rfl (fun xw v p K u=>?_) (fun v6=>?_)
    ·obtain ⟨E,a1,F,c1,G,H,D,I,er,J,q,m⟩:=p 5 q_;obtain rfl:v5=_:=J;go_simp;exact u _ _ v K_ ⟨E,a1,F,c1,G,H,D,I,er,rfl,q,m⟩
    simp only[ly];refine c_ rfl rfl (fun xw v p K u=>?_) (fun v7=>?_)
    ·obtain ⟨E,a1,F,c1,G,H,D,I,er,J,q,m⟩:=p 6 q_;obtain rfl:v6=_:=J;go_simp;exact u _ _ v K_ ⟨E,a1,F,c1,G,H,D,I,rfl,q,m⟩
    simp only[ly];refine Z_ rfl (fun w=>r_.refl w) (fun xw p K u=>?_) (fun v8=>?_)
    ·obtain ⟨E,a1,F,c1,G,H,D,I,er,J,q,m⟩:=p 6 q_;obtain rfl:v6=_:=J;go_simp;exact u _ ⟨_,rfl⟩
    simp only[ly];refine z_ (fun xw v p K u=>?_) (fun v9=>?_)
    ·obtain ⟨E,a1,F,c1,G,H,D,I,J,q,m⟩:=p 7 q_;obtain rfl:v7=_:=J;have j:PC 3 2 2 S W w w bt X R none _ _ _ _ _ _ _ C xw/\_:=v;obtain ⟨E1,u1,n1,E2,u2,n2,E3,u3,n3,E4,u4,n4,E5,u5,n5,E6,u6,n6,E7,u7,n7,rfl,rfl,rfl,rfl,rfl,rfl,rfl⟩:=x_.caps m;refine aE rfl 30 (.tmp 3) (.tmp 169) rfl rfl (D_ E1 u1 n1 E2 u2 n2 E3 u3 n3 E4 u4 n4 E5 u5 n5 E6 u6 n6 E7 u7 n7) rfl rfl 30 _ j.1.box cD rfl (fQ) ?_;exact u undef _ ⟨_,_,_,_,_,_,_,_,j.1.store q m⟩ (r_.of_setRow _ _ _ (fun h=>h.2.1 rfl)) trivial
    simp only[ly];refine G_ ?_;intro wz hD hG;clear hG;go_wp2;go_meet
    case rel=>exact hD
  ·as_aux_lemma=>
    skip
    obtain rfl:=a7.out;obtain ⟨y,sz,hy,al,aw⟩:=jK B.inv a2;obtain ⟨bf,of,cf,r0,J,_⟩:=B.at_.files.at_ hy;injection J with ev1 ev2 ev3
    subst ev1 ev3;clear ev2;have au:=bI hy;have i2:(fn:Int)<(C.files.length:Int):=O_
    go_upto_region 40 with fail
    refine cQ 222 20 (fun i=>decide (i<=18)) [SK.eq (bK (S_ (some ⟨bf,of,none⟩) C.files.length c1) (S_ A2 m2 c2) (S_ A3 m3 c3) (S_ A4 m4 c4) (S_ A5 m5 c5) (S_ A6 m6 c6) (S_ A7 m7 c7)),SK.eq (I_ (fn:Int)),SK.eq (I_ (off:Int)),SK.eq (P_ bt),SK.nat 40,SK.eq (P_ X),SK.eq (S_ (some ⟨bf,of,none⟩) C.files.length c1),SK.eq (I_ (fn:Int)),SK.eq (.pointer (some ⟨bf,of+fn*15,none⟩)),SK.eq (.pointer (some ⟨bf,of+fn*15+6,none⟩)),SK.eq (I_ (sz:Int)),SK.row (fun y=>0<=y/\y<=128) 3,SK.eq (P_ bt),SK.nat 3,SK.rat (fun y=>0<=y/\y<=128),SK.ir 0 128,SK.ck2 3 2 2,SK.ck2 3 2 2,SK.ck1 3 2 2,SK.int,SK.any] q_ q_ rfl (fun _=>trivial) B ?_;refine c_ rfl rfl (fun xw v p K u=>?_) (fun v0=>?_)
    ·have j:PC 3 2 2 S W w w bt X R none _ _ _ _ _ _ _ C xw/\_:=v;obtain ⟨x0,Z,x2,x3,x4,x5,x6⟩:=T_ j.1.box;go_simp;exact u _ _ v K_ rfl
    simp only[ly];refine qP fun v1=>qP fun v2=>qP fun v3=>?_;simp only[ly];refine c_ rfl rfl (fun xw v p K u=>?_) (fun v4=>?_)
    ·obtain rfl:v3=_:=p 3 q_;have j:PC 3 2 2 S W w w bt X R none _ _ _ _ _ _ _ C xw/\_:=v;go_simp
     go_at_call 9
     refine (bY _ O_ O_ j.1.tp).mono ?_;rintro e w1 ⟨y,rfl,V,y1,hT,L⟩;exact u _ _ ⟨j.1.keep L hT,u_ j.2 L⟩ (fJ L (fun h=>hn h.1)) ⟨y.toNat,by rw [nT_ V],O_⟩
    simp only[ly];refine qP fun v5=>?_;simp only[ly];refine c_ rfl rfl (fun xw v p K u=>?_) (fun v6=>?_)
    ·obtain rfl:v5=_:=p 5 q_;have j:PC 3 2 2 S W w w bt X R none _ _ _ _ _ _ _ C xw/\_:=v;have x0:=sF j.1.box;go_simp;exact u _ _ v K_ rfl
    simp only[ly];refine qP fun v7=>qP fun v8=>qP fun v9=>?_;simp only[ly];refine c_ rfl rfl (fun xw v p K u=>?_) (fun v10=>?_)
    ·obtain rfl:v9=_:=p 9 q_;have j:PC 3 2 2 S W w w bt X R none _ _ _ _ _ _ _ C xw/\_:=v;obtain ⟨_,_,r,⟨h',A',cap',_,_,_,_,rfl⟩,aa⟩:=LA.cells j.1.at_.files hy;have l6:=aa 6 _ rfl;rw [al] at l6;clear aa;go_simp;exact u _ _ v K_ rfl
    simp only[ly];refine c_ rfl rfl (fun xw v p K u=>?_) (fun v11=>?_)
    ·have j:PC 3 2 2 S W w w bt X R none _ _ _ _ _ _ _ C xw/\_:=v;obtain rfl:v2=_:=p 2 q_;obtain ⟨k4,rfl,b4⟩:=p 4 q_;obtain rfl:v10=_:=p 10 q_;go_simp;exact u _ _ ⟨j.1.step (a_ B_ _),u_ j.2 (gA_ _ _ _)⟩ (r_.of_alloc _ _) ⟨_,_,[(off:Int),(k4:Int),(sz:Int)],rfl,rfl,(fun y hy=>e7_ y hy O_ O_ O_),j.1.fresh _ (bE _),A_,heap_alloc_new _ _⟩
    simp only[ly];refine qP fun v12=>?_;simp only[ly];refine c_ rfl rfl (fun xw v p K u=>?_) (fun v13=>?_)
    ·obtain rfl:v12=_:=p 12 q_;have j:PC 3 2 2 S W w w bt X R none _ _ _ _ _ _ _ C xw/\_:=v;go_simp
     go_at_call 9
     refine (bY _ O_ O_ j.1.tp).mono ?_;rintro e w1 ⟨y,rfl,V,y1,hT,L⟩;exact u _ _ ⟨j.1.keep L hT,u_ j.2 L⟩ (fJ L (fun h=>hn h.1)) ⟨y.toNat,by rw [nT_ V],O_⟩
    simp only[ly];refine c_ rfl rfl (fun xw v p K u=>?_) (fun v14=>?_)
    ·obtain ⟨gg,t,l,rfl,hl,hp,hS,a5,L⟩:=p 11 q_;obtain ⟨k,rfl,hk⟩:=p 13 q_;have ai:(k:Int)<3:=O_
     have a3:=jf_ L (i:=k) O_;go_simp;exact u _ _ v K_ ⟨gg,k,l[k]'O_,rfl,hp (l[k]'O_) (gM_ _),hS,a5,a3⟩
    simp only[ly];refine c_ rfl rfl (fun xw v p K u=>?_) (fun v15=>?_)
    ·obtain ⟨gg,i',y,rfl,hp,hS,a5,a3⟩:=p 14 q_;go_simp;exact u _ _ v K_ ⟨_,rfl,hp.1,hp.2⟩
    simp only[ly];refine c_ rfl rfl (fun xw v p K u=>?_) (fun v16=>?_)
    ·have j:PC 3 2 2 S W w w bt X R none _ _ _ _ _ _ _ C xw/\_:=v;obtain rfl:v0=_:=p 0 q_;obtain rfl:v1=_:=p 1 q_;obtain ⟨ax,rfl,af,ap⟩:=p 15 q_;obtain ⟨sn,rfl⟩:=mZ af;go_simp
     go_at_call 35
     refine CM (bi_ C fn _ _ _ _ _ _ _ (Sx S X R none) xw j.1.at_ j.1.inv a2 j.1.fresh sn O_) ?_;rintro e w1 ⟨E,er,a1,F,c1,G,H,D,I,q,rfl,m,O⟩;exact u _ _ ⟨j.1.step O,u_ j.2 (X_ O _)⟩ (r_.of_below O) ⟨E,a1,F,c1,G,H,D,I,er,rfl,q,m⟩
    simp only[ly];refine c_ rfl rfl (fun xw v p K u=>?_) (fun v17=>?_)
    ·obtain ⟨E,a1,F,c1,G,H,D,I,er,J,q,m⟩:=p 16 q_;obtain rfl:v16=_:=J;go_simp;exact u _ _ v K_ ⟨E,a1,F,c1,G,H,D,I,er,rfl,q,m⟩
    simp only[ly];refine c_ rfl rfl (fun xw v p K u=>?_) (fun v18=>?_)
    ·obtain ⟨E,a1,F,c1,G,H,D,I,er,J,q,m⟩:=p 17 q_;obtain rfl:v17=_:=J;go_simp;exact u _ _ v K_ ⟨E,a1,F,c1,G,H,D,I,rfl,q,m⟩
    simp only[ly];refine Z_ rfl (fun w=>r_.refl w) (fun xw p K u=>?_) (fun v19=>?_)
    ·obtain ⟨E,a1,F,c1,G,H,D,I,er,J,q,m⟩:=p 17 q_;obtain rfl:v17=_:=J;go_simp;exact u _ ⟨_,rfl⟩
    simp only[ly];refine z_ (fun xw v p K u=>?_) (fun v20=>?_)
    ·obtain ⟨E,a1,F,c1,G,H,D,I,J,q,m⟩:=p 18 q_;obtain rfl:v18=_:=J;have j:PC 3 2 2 S W w w bt X R none _ _ _ _ _ _ _ C xw/\_:=v;obtain ⟨E1,u1,n1,E2,u2,n2,E3,u3,n3,E4,u4,n4,E5,u5,n5,E6,u6,n6,E7,u7,n7,rfl,rfl,rfl,rfl,rfl,rfl,rfl⟩:=x_.caps m;refine aE rfl 30 (.tmp 3) (.tmp 191) rfl rfl (D_ E1 u1 n1 E2 u2 n2 E3 u3 n3 E4 u4 n4 E5 u5 n5 E6 u6 n6 E7 u7 n7) rfl rfl 30 _ j.1.box cD rfl (fQ) ?_;exact u undef _ ⟨_,_,_,_,_,_,_,_,j.1.store q m⟩ (r_.of_setRow _ _ _ (fun h=>h.2.1 rfl)) trivial
    simp only[ly];refine G_ ?_;intro wz hD hG;clear hG;go_wp2;go_meet
    case rel=>exact hD
  ·as_aux_lemma=>
    go_upto_region 42 with fail
    refine cQ 222 10 (fun i=>decide (i<=8)) [SK.eq (bK (S_ A1 m1 c1) (S_ A2 m2 c2) (S_ A3 m3 c3) (S_ A4 m4 c4) (S_ A5 m5 c5) (S_ A6 m6 c6) (S_ A7 m7 c7)),SK.eq (I_ (fn:Int)),SK.eq (P_ bt),SK.nat 40,SK.eq (P_ bt),SK.nat 40,SK.ck2 3 2 2,SK.ck2 3 2 2,SK.ck1 3 2 2,SK.int,SK.any] q_ q_ rfl (fun _=>trivial) B ?_;refine c_ rfl rfl (fun xw v p K u=>?_) (fun v0=>?_)
    ·have j:PC 3 2 2 S W w w bt X R none _ _ _ _ _ _ _ C xw/\_:=v;obtain ⟨x0,Z,x2,x3,x4,x5,x6⟩:=T_ j.1.box;go_simp;exact u _ _ v K_ rfl
    simp only[ly];refine qP fun v1=>qP fun v2=>?_;simp only[ly];refine c_ rfl rfl (fun xw v p K u=>?_) (fun v3=>?_)
    ·obtain rfl:v2=_:=p 2 q_;have j:PC 3 2 2 S W w w bt X R none _ _ _ _ _ _ _ C xw/\_:=v;go_simp
     go_at_call 9
     refine (bY _ O_ O_ j.1.tp).mono ?_;rintro e w1 ⟨y,rfl,V,y1,hT,L⟩;exact u _ _ ⟨j.1.keep L hT,u_ j.2 L⟩ (fJ L (fun h=>hn h.1)) ⟨y.toNat,by rw [nT_ V],O_⟩
    simp only[ly];refine qP fun v4=>?_;simp only[ly];refine c_ rfl rfl (fun xw v p K u=>?_) (fun v5=>?_)
    ·obtain rfl:v4=_:=p 4 q_;have j:PC 3 2 2 S W w w bt X R none _ _ _ _ _ _ _ C xw/\_:=v;go_simp
     go_at_call 9
     refine (bY _ O_ O_ j.1.tp).mono ?_;rintro e w1 ⟨y,rfl,V,y1,hT,L⟩;exact u _ _ ⟨j.1.keep L hT,u_ j.2 L⟩ (fJ L (fun h=>hn h.1)) ⟨y.toNat,by rw [nT_ V],O_⟩
    simp only[ly];refine c_ rfl rfl (fun xw v p K u=>?_) (fun v6=>?_)
    ·have j:PC 3 2 2 S W w w bt X R none _ _ _ _ _ _ _ C xw/\_:=v;obtain rfl:v0=_:=p 0 q_;obtain rfl:v1=_:=p 1 q_;obtain ⟨k3,rfl,b3⟩:=p 3 q_;obtain ⟨k5,rfl,b5⟩:=p 5 q_;go_simp
     go_at_call 38
     refine CM (gp_ C fn _ _ _ _ _ _ _ (Sx S X R none) xw j.1.at_ j.1.inv a2 j.1.fresh k3 k5 O_) ?_;rintro e w1 ⟨E,er,a1,F,c1,G,H,D,I,q,rfl,m,O⟩;exact u _ _ ⟨j.1.step O,u_ j.2 (X_ O _)⟩ (r_.of_below O) ⟨E,a1,F,c1,G,H,D,I,er,rfl,q,m⟩
    simp only[ly];refine c_ rfl rfl (fun xw v p K u=>?_) (fun v7=>?_)
    ·obtain ⟨E,a1,F,c1,G,H,D,I,er,J,q,m⟩:=p 6 q_;obtain rfl:v6=_:=J;go_simp;exact u _ _ v K_ ⟨E,a1,F,c1,G,H,D,I,er,rfl,q,m⟩
    simp only[ly];refine c_ rfl rfl (fun xw v p K u=>?_) (fun v8=>?_)
    ·obtain ⟨E,a1,F,c1,G,H,D,I,er,J,q,m⟩:=p 7 q_;obtain rfl:v7=_:=J;go_simp;exact u _ _ v K_ ⟨E,a1,F,c1,G,H,D,I,rfl,q,m⟩
    simp only[ly];refine Z_ rfl (fun w=>r_.refl w) (fun xw p K u=>?_) (fun v9=>?_)
    ·obtain ⟨E,a1,F,c1,G,H,D,I,er,J,q,m⟩:=p 7 q_;obtain rfl:v7=_:=J;go_simp;exact u _ ⟨_,rfl⟩
    simp only[ly];refine z_ (fun xw v p K u=>?_) (fun v10=>?_)
    ·obtain ⟨E,a1,F,c1,G,H,D,I,J,q,m⟩:=p 8 q_;obtain rfl:v8=_:=J;have j:PC 3 2 2 S W w w bt X R none _ _ _ _ _ _ _ C xw/\_:=v;obtain ⟨E1,u1,n1,E2,u2,n2,E3,u3,n3,E4,u4,n4,E5,u5,n5,E6,u6,n6,E7,u7,n7,rfl,rfl,rfl,rfl,rfl,rfl,rfl⟩:=x_.caps m;refine aE rfl 30 (.tmp 3) (.tmp 203) rfl rfl (D_ E1 u1 n1 E2 u2 n2 E3 u3 n3 E4 u4 n4 E5 u5 n5 E6 u6 n6 E7 u7 n7) rfl rfl 30 _ j.1.box cD rfl (fQ) ?_;exact u undef _ ⟨_,_,_,_,_,_,_,_,j.1.store q m⟩ (r_.of_setRow _ _ _ (fun h=>h.2.1 rfl)) trivial
    simp only[ly];refine G_ ?_;intro wz hD hG;clear hG;go_wp2;go_meet
    case rel=>exact hD
  ·as_aux_lemma=>
    go_upto_region 44 with fail
    refine cQ 222 14 (fun i=>decide (i<=12)) [SK.eq (bK (S_ A1 m1 c1) (S_ A2 m2 c2) (S_ A3 m3 c3) (S_ A4 m4 c4) (S_ A5 m5 c5) (S_ A6 m6 c6) (S_ A7 m7 c7)),SK.eq (P_ bt),SK.nat 2,SK.eq (P_ bt),SK.nat 6,SK.eq (I_ (fn:Int)),SK.eq (I_ (pn:Int)),SK.eq (P_ bt),SK.nat 2,SK.bl,SK.ck2 3 2 2,SK.ck2 3 2 2,SK.ck1 3 2 2,SK.int,SK.any] q_ q_ rfl (fun _=>trivial) B ?_;refine c_ rfl rfl (fun xw v p K u=>?_) (fun v0=>?_)
    ·have j:PC 3 2 2 S W w w bt X R none _ _ _ _ _ _ _ C xw/\_:=v;obtain ⟨x0,Z,x2,x3,x4,x5,x6⟩:=T_ j.1.box;go_simp;exact u _ _ v K_ rfl
    simp only[ly];refine qP fun v1=>?_;simp only[ly];refine c_ rfl rfl (fun xw v p K u=>?_) (fun v2=>?_)
    ·obtain rfl:v1=_:=p 1 q_;have j:PC 3 2 2 S W w w bt X R none _ _ _ _ _ _ _ C xw/\_:=v;go_simp
     go_at_call 9
     refine (bY _ O_ O_ j.1.tp).mono ?_;rintro e w1 ⟨y,rfl,V,y1,hT,L⟩;exact u _ _ ⟨j.1.keep L hT,u_ j.2 L⟩ (fJ L (fun h=>hn h.1)) ⟨y.toNat,by rw [nT_ V],O_⟩
    simp only[ly];refine qP fun v3=>?_;simp only[ly];refine c_ rfl rfl (fun xw v p K u=>?_) (fun v4=>?_)
    ·obtain rfl:v3=_:=p 3 q_;have j:PC 3 2 2 S W w w bt X R none _ _ _ _ _ _ _ C xw/\_:=v;go_simp
     go_at_call 9
     refine (bY _ O_ O_ j.1.tp).mono ?_;rintro e w1 ⟨y,rfl,V,y1,hT,L⟩;exact u _ _ ⟨j.1.keep L hT,u_ j.2 L⟩ (fJ L (fun h=>hn h.1)) ⟨y.toNat,by rw [nT_ V],O_⟩
    simp only[ly];refine qP fun v5=>qP fun v6=>qP fun v7=>?_;simp only[ly];refine c_ rfl rfl (fun xw v p K u=>?_) (fun v8=>?_)
    ·obtain rfl:v7=_:=p 7 q_;have j:PC 3 2 2 S W w w bt X R none _ _ _ _ _ _ _ C xw/\_:=v;go_simp
     go_at_call 9
     refine (bY _ O_ O_ j.1.tp).mono ?_;rintro e w1 ⟨y,rfl,V,y1,hT,L⟩;exact u _ _ ⟨j.1.keep L hT,u_ j.2 L⟩ (fJ L (fun h=>hn h.1)) ⟨y.toNat,by rw [nT_ V],O_⟩
    simp only[ly];refine c_ rfl rfl (fun xw v p K u=>?_) (fun v9=>?_)
    ·obtain ⟨k8,rfl,b8⟩:=p 8 q_;go_simp;exact u _ _ v K_ ⟨_,rfl⟩
    simp only[ly];refine c_ rfl rfl (fun xw v p K u=>?_) (fun v10=>?_)
    ·have j:PC 3 2 2 S W w w bt X R none _ _ _ _ _ _ _ C xw/\_:=v;obtain rfl:v0=_:=p 0 q_;obtain ⟨k2,rfl,b2⟩:=p 2 q_;obtain ⟨k4,rfl,b4⟩:=p 4 q_;obtain rfl:v5=_:=p 5 q_;obtain rfl:v6=_:=p 6 q_;obtain ⟨k9,rfl⟩:=p 9 q_;go_simp
     go_at_call 168
     refine CM (fT_ C fn _ _ _ _ _ _ _ (Sx S X R none) xw j.1.at_ j.1.inv a2 j.1.fresh k2 k4 pn k9 O_ O_ a6) ?_;rintro e w1 ⟨E,er,a1,F,c1,G,H,D,I,q,rfl,m,O⟩;exact u _ _ ⟨j.1.step O,u_ j.2 (X_ O _)⟩ (r_.of_below O) ⟨E,a1,F,c1,G,H,D,I,er,rfl,q,m⟩
    simp only[ly];refine c_ rfl rfl (fun xw v p K u=>?_) (fun v11=>?_)
    ·obtain ⟨E,a1,F,c1,G,H,D,I,er,J,q,m⟩:=p 10 q_;obtain rfl:v10=_:=J;go_simp;exact u _ _ v K_ ⟨E,a1,F,c1,G,H,D,I,er,rfl,q,m⟩
    simp only[ly];refine c_ rfl rfl (fun xw v p K u=>?_) (fun v12=>?_)
    ·obtain ⟨E,a1,F,c1,G,H,D,I,er,J,q,m⟩:=p 11 q_;obtain rfl:v11=_:=J;go_simp;exact u _ _ v K_ ⟨E,a1,F,c1,G,H,D,I,rfl,q,m⟩
    simp only[ly];refine Z_ rfl (fun w=>r_.refl w) (fun xw p K u=>?_) (fun v13=>?_)
    ·obtain ⟨E,a1,F,c1,G,H,D,I,er,J,q,m⟩:=p 11 q_;obtain rfl:v11=_:=J;go_simp;exact u _ ⟨_,rfl⟩
    simp only[ly];refine z_ (fun xw v p K u=>?_) (fun v14=>?_)
    ·obtain ⟨E,a1,F,c1,G,H,D,I,J,q,m⟩:=p 12 q_;obtain rfl:v12=_:=J;have j:PC 3 2 2 S W w w bt X R none _ _ _ _ _ _ _ C xw/\_:=v;obtain ⟨E1,u1,n1,E2,u2,n2,E3,u3,n3,E4,u4,n4,E5,u5,n5,E6,u6,n6,E7,u7,n7,rfl,rfl,rfl,rfl,rfl,rfl,rfl⟩:=x_.caps m;refine aE rfl 30 (.tmp 3) (.tmp 219) rfl rfl (D_ E1 u1 n1 E2 u2 n2 E3 u3 n3 E4 u4 n4 E5 u5 n5 E6 u6 n6 E7 u7 n7) rfl rfl 30 _ j.1.box cD rfl (fQ) ?_;exact u undef _ ⟨_,_,_,_,_,_,_,_,j.1.store q m⟩ (r_.of_setRow _ _ _ (fun h=>h.2.1 rfl)) trivial
    simp only[ly];refine G_ ?_;intro wz hD hG;clear hG;go_wp2;go_meet
    case rel=>exact hD
 case rest=>
  clear B a7 a8;obtain ⟨a',b',c',d',e',f',g',C',P⟩:=hcut;obtain ⟨E1,u1,n1,E2,u2,n2,E3,u3,n3,E4,u4,n4,E5,u5,n5,E6,u6,n6,E7,u7,n7,rfl,rfl,rfl,rfl,rfl,rfl,rfl⟩:=x_.caps P.at_;have B:=H_ P;clear P;have P:=B.out;obtain ⟨x0,Z,x2,x3,x4,x5,x6⟩:=T_ P.box;clear P
  go_wp2_with (refine Q_ rfl (.tmp 4) (.tmp 221) rfl rfl rfl rfl B.res rfl ?_)
  show bodyPost prog f106 _ _ _ _
  refine bodyPost_ret (jT rfl rfl (setRow_heap _ _ _ _ _ _ B.res)) rfl ?_;obtain ⟨q1,q2,q3⟩:=B.done;exact ⟨C',_,_,_,_,_,_,_,B.inv,rfl,q1,q2,q3⟩
end
section
theorem iV_ (hT:Tp W b w):C_ 32 #[.pointer (some ⟨b,0,none⟩)] w fun e w'=>∃q,e = .returned (.bool q)/\s_ w w':=by
 obtain ⟨⟨a,len,cap,k,h1,h2,h3,c⟩,_⟩:=hT;have c0:w.cell? ⟨b,0,none⟩=some (S_ a len cap):=by rw [b_ h1];rfl
 have c1:w.cell? ⟨b,1,none⟩=some (.int i64 (k:Int)):=by rw [b_ h1];rfl
 go_enter func32,ntmps32;go_wp2;go_quiet (fail);go_wp2;go_ret;exact ⟨_,rfl,below_drewN B_ _⟩
theorem bd_ {α:Type} {k:Nat} {R:RR α k} {g n:Nat} {e:TypeId} {rows:List (List Value)} {L:List α} (hg:w.heap[g]?=some (.cells rows.flatten.toArray e (0,0))) (h:cL (R.p w (fun b=>S b/\g≠b)) L rows) (hn:L.length=n) (hm:n<=maxLen) (hS:S g):LA R w S (S_ (some ⟨g,0,none⟩) n n) L:=by
 subst hn;have:=LO.fresh (base:=g) hg (bE _) h hm;exact this.laV (fun _ _ h=>h) (fun b hb=>by simp only[Value.ownBlock,Option.some.injEq] at hb;exact hb ▸ hS)
theorem bk_ (w:World) {a p c q:Int} (hS:S (w)):LA pB (w.alloc (.cells #[.int i64 a,.int i64 p,.int i64 0,.int i64 c,.int i64 q,.int i64 0] 72)) S (S_ (some ⟨w,0,none⟩) 2 2) [⟨a,p,0⟩,⟨c,q,0⟩]:=
 bd_ (rows:=[[.int i64 a,.int i64 p,.int i64 0],[.int i64 c,.int i64 q,.int i64 0]]) (heap_alloc_new _ _) ⟨rfl,rfl,trivial⟩ rfl (by unfold maxLen;omega) hS
theorem yA (w:World) (S:Nat->Prop) (hS:S (w)):LA PlR (w.alloc (.cells #[.int i64 0,.int i64 0,.int i64 0,.int i64 1,.int i64 1,.int i64 2] 53)) S (S_ (some ⟨w,0,none⟩) 3 3) [⟨0,0⟩,⟨0,1⟩,⟨1,2⟩]:=
 bd_ (rows:=[[.int i64 0,.int i64 0],[.int i64 0,.int i64 1],[.int i64 1,.int i64 2]]) (heap_alloc_new _ _) ⟨rfl,rfl,rfl,trivial⟩ rfl (by unfold maxLen;omega) hS
theorem ar_:yN [⟨0,0⟩,⟨0,1⟩,⟨1,2⟩]:=by
 refine ⟨fun x a=>?_,cE,cE,fun i k x y d a b=>?_⟩
 ·simp only[qL,List.not_mem_nil,or_false] at a
  rcases a with rfl | rfl | rfl <;> decide
 ·have c:=bI a;simp only[cL_,List.length_nil] at c;obtain rfl | rfl | rfl:i=0\/i=1\/i=2:=O_
  ·omega
  ·obtain rfl:k=0:=O_
   obtain rfl:=bH a;obtain rfl:=bH b
   decide
  ·obtain rfl | rfl:k=0\/k=1:=O_
   ·obtain rfl:=bH a;obtain rfl:=bH b
    decide
   ·obtain rfl:=bH a;obtain rfl:=bH b
    decide
theorem e8_ (w:World) (a c:Int) (S:Nat->Prop) (hS:S (w)):LA Y_ (w.alloc (.cells #[.int i64 a,.int i64 c] 3)) S (S_ (some ⟨w,0,none⟩) 2 2) [a,c]:=
 bd_ (rows:=[[.int i64 a],[.int i64 c]]) (heap_alloc_new _ _) ⟨rfl,rfl,trivial⟩ rfl (by unfold maxLen;omega) hS
theorem e3_ {a c:Int} (h1:2<=a/\a<=8) (h2:2<=c/\c<=8):tE [a,c]:=
 ⟨A_,fun n hn=>by simp only[qL,List.not_mem_nil,or_false] at hn;rcases hn with rfl | rfl <;> omega,by unfold cT;simp;omega⟩
theorem jH_ {F G Z:Nat} {Ls:List Pl} {sz:List Int} {gs:List Gr} (h:cF F G Z (pQ Ls sz gs)):fN F G Z (pQ Ls sz gs):=
 {tocF:=h,dw:=⟨fun j=>((pQ Ls sz gs).files[j]?).elim 0 (·.size),fun i x j a hf=>by
   have b:x=gV:=by
    simp only[pQ] at a;exact (List.mem_replicate.1 (gL a)).2
   rw [b] at hf;have hf:(-1:Int)=j:=hf;omega,fun j y c=>by simp [c]⟩}
theorem eE_ {w3:World} {b':Value} (hnS:¬S b) (hfS:∀z,w.heap.size<=z->S z) (hI:fN 3 2 2 C) (hc:x_ w3 (fun z=>S z/\z≠w.heap.size) a b' c d e f g C) (hT:Tp W b w3) (hR:w3.heap[w.heap.size]?=some (bM)) (hg:w.grownBy w3 (some b)) (hb:b<w) :
  PC 3 2 2 S W w w b (w3) (w) none a b' c d e f g C ((w3.alloc (bM)).setRow (w3) #[a,b',c,d,e,f,g]):=by
 have k:=n_ hR;have j:=l_ w3 (bM) (w3) rfl;refine ⟨hI,?_,setRow_heap _ _ _ _ _ _ j,(setRow_other _ _ _ _ O_).trans (m_ hR _),(hT.alloc _).gb (eU _ _ _) O_,xK (u_ hg (gA_ _ _ _)) O_,fun z i=>(by cases i),O_,O_,hb,O_,hnS,hfS⟩;exact (((hc.weak (S':=Sx S (w3) (w) none) (fun z i h=>⟨h.1,O_,h.2,fun e=>by cases e⟩)).step (a_ B_ _))).kept (r_.of_setRow _ _ _ (fun h=>h.2.1 rfl))
theorem fL_ (S:Nat->Prop) (hT:Tp W b w) (hnS:¬S b) (hfS:∀z,w.heap.size<=z->S z):C_ 39 #[.pointer (some ⟨b,0,none⟩)] w (ds_ 3 2 2 S W b w):=by
 have ab:=hT.lt;have o:=H_ (hT.alloc (bM));have n:=H_ (i_ w (bM));have r:=H_ (gA_ w (bM) (some b));clear hT;go_enter func39,ntmps39
 go_upto_region 1 with fail
 generalize w.alloc (bM)=W1 at o n r
 go_cut [3] (fun s3 wx=>∃J:List Gr,LA pB wx (fun z=>S z/\z≠w.heap.size) s3 J/\gD J/\J.length=2/\(∀g ∈ J,g.charge=0)/\wx.heap[w.heap.size]?=some (bM)/\w.grownBy wx (some b)/\Tp W b wx)
 case first=>
  go_wp2_with (first
   | (go_at_call 9;(with_reducible refine CM (bY 12 (by omega) (by omega) o.out) ?_);rintro e w1 ⟨x,rfl,A,hx,l,i⟩;obtain ⟨x,rfl⟩:=mZ A;replace n:=H_ (eA i O_ n.out);replace r:=H_ (u_ r i);replace o:=H_ l;clear l i A)
   | (go_at_call 9;(with_reducible refine CM (bY 4 (by omega) (by omega) o.out) ?_);rintro e w1 ⟨x,rfl,A,hx,l,i⟩;obtain ⟨x,rfl⟩:=mZ A;replace n:=H_ (eA i O_ n.out);replace r:=H_ (u_ r i);replace o:=H_ l;clear l i A))
  go_meet
  case rel=>
   have hs:=n_ n;exact ⟨_,bk_ w1 ⟨hfS _ O_,O_⟩,⟨fun g B=>by simp only[qL,List.not_mem_nil,or_false] at B;rcases B with rfl | rfl <;> (dsimp only;omega),A_,A_⟩,rfl,fun g B=>(by simp only[qL,List.not_mem_nil,or_false] at B;rcases B with rfl | rfl <;> rfl),m_ n _,u_ r (gA_ _ _ _),o.alloc _⟩
 case rest=>
  clear o n r;obtain ⟨J,a0,I,j,Y,hr,B,hT⟩:=hcut;obtain ⟨o,n,r,K⟩:=rW hT hr B a0;clear hr B hT a0
  go_upto_region 2 with fail
  go_cut [4,5] (fun s4 s5 wx=>∃X er a b' c d e f g C,s4 = .pointer (some ⟨X,0,none⟩)/\s5 = .int i64 er/\PC 3 2 2 S W w w b X (w) none a b' c d e f g C wx)
  case first=>
   have hs:=n_ n;have a7:=H_ (yA wc (fun z=>S z/\z≠w.heap.size) ⟨hfS _ O_,O_⟩);have v:¬(S b/\b≠w):=fun h=>hnS h.1;have ag:b<wc:=o.lt
   go_wp2_with (first
    | (go_at_call 9;(with_reducible refine CM (bY 6 (by omega) (by omega) a8.out) ?_);rintro e w2 ⟨y,rfl,ac,hy,u,j⟩;obtain ⟨y,rfl⟩:=mZ ac;have a9:=H_ (u.alloc (.cells #[.int i64 (2+(x:Int)),.int i64 (2+(y:Int))] 3));have E:=H_ (m_ (eA j O_ D.out) (.cells #[.int i64 (2+(x:Int)),.int i64 (2+(y:Int))] 3));have a5:=H_ (u_ (u_ a4 j) (gA_ w2 (.cells #[.int i64 (2+(x:Int)),.int i64 (2+(y:Int))] 3) (some b)));have P:=H_ ((O.kept (fJ j v)).alloc (.cells #[.int i64 (2+(x:Int)),.int i64 (2+(y:Int))] 3));have M:=H_ ((L.kept (fJ j v)).alloc (.cells #[.int i64 (2+(x:Int)),.int i64 (2+(y:Int))] 3));have R:=H_ (e8_ w2 (2+(x:Int)) (2+(y:Int)) (fun z=>S z/\z≠w.heap.size) ⟨hfS _ (by have:=n_ D;have:=j.size;omega),by have:=n_ D.out;have:=j.size;omega⟩);clear u j)
    | (go_at_call 9;(with_reducible refine CM (bY 6 (by omega) (by omega) (o.out.alloc _)) ?_);rintro e w1 ⟨x,rfl,A,hx,l,i⟩;obtain ⟨x,rfl⟩:=mZ A;have a8:=H_ l;have D:=H_ (eA i O_ (m_ n.out _));have a4:=H_ (u_ (u_ r (gA_ _ _ _)) i);have O:=H_ (a7.kept (fJ i v));have L:=H_ ((K.alloc _).kept (fJ i v));clear l i)
    | (go_at_call 28;(refine CM (dM_ (fun z=>S z/\z≠w.heap.size) P.out ar_ R.out (e3_ O_ O_) M.out I Y (fun z hz=>⟨hfS z (by have:=n_ E.out;omega),by have:=n_ E.out;omega⟩)) ?_);rintro e w3 ⟨C,a1,b1,c1,d1,e1,f1,g1,rfl,rfl,p,H⟩;obtain ⟨E1,u1,n1,E2,u2,n2,E3,u3,n3,E4,u4,n4,E5,u5,n5,E6,u6,n6,E7,u7,n7,rfl,rfl,rfl,rfl,rfl,rfl,rfl⟩:=x_.caps p;have U:=H_ (a9.step H);have Q:=fC E H;have a6:=H_ (u_ a5 (X_ H (some b)));have a3:=H_ p;have af:=n_ Q;have ad:=U.lt;have HZ:=H_ (l_ w3 (bM) (w3) rfl))
    | (refine Q_ rfl (.tmp 4) (.tmp 34) rfl rfl rfl rfl HZ rfl ?_))
   go_meet
   case rel=>
    have hinv:=jH_ (bK_ (F:=3) (G:=2) (Z:=2) rfl j rfl O_ ar_ (e3_ (a:=2+(x:Int)) (c:=2+(y:Int)) O_ O_) I);exact ⟨w3,_,_,_,_,_,_,_,_,_,rfl,rfl,eE_ hnS hfS hinv a3 U Q a6 ab⟩
  case rest=>
   clear o n r K;obtain ⟨X,er,a,b',c,d,e,f,g,C,rfl,rfl,s⟩:=hcut;have m:=H_ s;clear s I j Y
   go_wp2_with (go_at_call 9;(with_reducible refine CM (bY 40 (by omega) (by omega) m.out.tp) ?_);rintro e w1 ⟨x,rfl,A,hx,l,i⟩;obtain ⟨x,rfl⟩:=mZ A;replace m:=H_ (m.keep i l);clear l i)
   go_loopw [6] (fun s6 wx=>∃k:Nat,s6 = .int i64 (k:Int)/\k<=44/\PCs 3 2 2 S W w w b X (w) none wx) (fun s6 _=>(intOf s6).toNat)
   case atStart=>exact ⟨4+x,A_,O_,_,_,_,_,_,_,_,_,m.out⟩
   case round=>
    clear m;obtain ⟨k,rfl,hk,a,b',c,d,e,f,g,C,s⟩:=hrel;obtain ⟨A1,m1,c1,A2,m2,c2,A3,m3,c3,A4,m4,c4,A5,m5,c5,A6,m6,c6,A7,m7,c7,rfl,rfl,rfl,rfl,rfl,rfl,rfl⟩:=x_.caps s.at_;have m:=H_ s;clear s
    go_upto_region 4 with fail
    go_cut [45] (fun s45 wx=>∃t:Bool,s45 = .bool t/\(t=true->0<k)/\PC 3 2 2 S W w w b X (w) none (S_ A1 m1 c1) (S_ A2 m2 c2) (S_ A3 m3 c3) (S_ A4 m4 c4) (S_ A5 m5 c5) (S_ A6 m6 c6) (S_ A7 m7 c7) C wx)
    case first=>
     by_cases a2:0<k
     ·have k1:(0:Int)<(k:Int):=O_
      go_wp2_with (go_at_call 32;refine CM (iV_ m.tp) ?_;rintro e w2 ⟨q,rfl,V⟩;replace m:=H_ (m.step V);clear V)
      go_meet
      case rel=>exact ⟨_,rfl,fun _=>a2,m⟩
     ·obtain rfl:k=0:=O_
      go_wp2;go_meet
      case rel=>exact ⟨_,rfl,(fun h=>by cases h),m.out⟩
    case rest=>
     clear m;obtain ⟨t,rfl,ht,s⟩:=hcut;have m:=H_ s;obtain ⟨x0,x1,x2,x3,x4,x5,x6⟩:=T_ s.box;clear s
     cases t with
     | true=>
      have a2:=ht rfl;clear ht
      go_wp2_with (first
       | (go_at_call 106;refine CM (hX_ m.at_ m.inv m.tp (fun h=>hnS h.1) m.fresh) ?_;rintro e w2 ⟨C1,a1,b1,ae,d1,e1,f1,g1,aa,rfl,p,u,j⟩;obtain ⟨E1,u1,n1,E2,u2,n2,E3,u3,n3,E4,u4,n4,E5,u5,n5,E6,u6,n6,E7,u7,n7,rfl,rfl,rfl,rfl,rfl,rfl,rfl⟩:=x_.caps p;have N:=H_ (m.keep j u))
       | (refine Q_ rfl (.tmp 4) (.tmp 50) rfl rfl rfl rfl N.box rfl ?_))
      go_roundw
      case rel=>exact ⟨k - 1,by go_num,O_,_,_,_,_,_,_,_,_,N.out.store aa p⟩
      case measure=>exact bV
     | false=>
      clear ht
      go_wp2_with (refine Q_ rfl (.tmp 2) (.tmp 51) rfl rfl rfl rfl m.res rfl ?_)
      show bodyPost prog f39 _ _ _ _
      refine bodyPost_ret (jT rfl rfl (setRow_heap _ _ _ _ _ _ m.res)) rfl ?_;obtain ⟨q1,q2,q3⟩:=m.done;exact ⟨C,_,_,_,_,_,_,_,m.inv,rfl,q1,q2,q3⟩
end
end Go.Proofs.YtehfhnbpnaiogaaGreatDoor
