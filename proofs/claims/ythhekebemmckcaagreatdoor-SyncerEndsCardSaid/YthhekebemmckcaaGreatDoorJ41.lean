/-
  Lemmas and contracts for the laws of synchronisations (layer 43), part 41; several texts joined by a program.
-/
import Derived.Test.YthhekebemmckcaaGreatDoorJ01
import Derived.Test.YthhekebemmckcaaGreatDoorJ16
import Derived.Test.YthhekebemmckcaaGreatDoorJ38
import Derived.Test.YthhekebemmckcaaGreatDoorJ40
namespace Go.Proofs.YthhekebemmckcaaGreatDoor
set_option linter.unusedVariables false
set_option linter.unusedSimpArgs false
set_option maxRecDepth 100000
set_option maxHeartbeats 16000000
open Go.RowKit
section
theorem trunc_ok {a b c:Int} (y:Int) (hy:y ∈ [a,b,c]) (h1:0≤a∧a≤128) (h2:0≤b∧b≤128) (h3:0≤c∧c≤128):0≤y∧y≤128:=by
 simp only [List.mem_cons,List.not_mem_nil,or_false] at hy
 rcases hy with rfl | rfl | rfl <;> assumption
theorem step_t (C:Ck) (a b c d e f g:Value) (W w:World) (bt:Nat) (S:Nat→Prop) (h:CkAt w S a b c d e f g C) (hI:Inv 3 2 2 C) (hT:Tp W bt w) (hn:¬S bt) (hS:∀z,w.heap.size≤z→S z) :
  Calls Tryz.prog 25 #[.pointer (some ⟨bt,0,none⟩),ckV a b c d e f g] w (RetSt 3 2 2 S W bt w):=by
 have hbw:=hT.lt;obtain ⟨A1,m1,c1,A2,m2,c2,A3,m3,c3,A4,m4,c4,A5,m5,c5,A6,m6,c6,A7,m7,c7,rfl,rfl,rfl,rfl,rfl,rfl,rfl⟩:=CkAt.caps h;have hm1:m1=C.files.length:=by
  obtain ⟨A,c',e,_,_⟩:=h.files.form;injection e
 have hm2:m2=C.frames.length:=by
  obtain ⟨A,c',e,_,_⟩:=h.frames.form;injection e
 have HM1:=H_ hm1;have HM2:=H_ hm2;clear hm1 hm2;obtain ⟨X,hX⟩:∃X,X=w.heap.size:=⟨_,rfl⟩;have HP:=H_ (PC.start h hI hT hX hn hS);clear h hI hT;go_enter Tryz.func25,Tryz.ntmps25;obtain ⟨R,hR⟩:∃R,R=X+1:=⟨_,rfl⟩;rw [←hR] at HP
 go_upto_region 1 with fail
 rw [←hX,←hR];generalize (w.alloc _).alloc _=W1 at HP;clear hX hR
 go_upto_block 0 with (first
  | (go_at_call 7;(with_reducible refine CM (next_t 3 W _ bt (by omega) (by omega) HP.out.tp) ?_);rintro e w1 ⟨fn,rfl,q0,hfn,hT1,hg1⟩;obtain ⟨fn,rfl⟩:=Int.eq_ofNat_of_zero_le q0;replace HP:=H_ (HP.out.keep hg1 hT1);clear hT1 hg1 q0)
  | (go_at_call 7;(with_reducible refine CM (next_t 8 W _ bt (by omega) (by omega) HP.out.tp) ?_);rintro e w1 ⟨pn,rfl,q0,hpn,hT1,hg1⟩;obtain ⟨pn,rfl⟩:=Int.eq_ofNat_of_zero_le q0;replace HP:=H_ (HP.out.keep hg1 hT1);clear hT1 hg1 q0)
  | (go_at_call 7;(with_reducible refine CM (next_t 128 W _ bt (by omega) (by omega) HP.out.tp) ?_);rintro e w1 ⟨off,rfl,q0,hoff,hT1,hg1⟩;obtain ⟨off,rfl⟩:=Int.eq_ofNat_of_zero_le q0;replace HP:=H_ (HP.out.keep hg1 hT1);clear hT1 hg1 q0)
  | (go_at_call 7;(with_reducible refine CM (next_t 14 W _ bt (by omega) (by omega) HP.out.tp) ?_);rintro e w1 ⟨tg,rfl,q0,htg,hT1,hg1⟩;obtain ⟨tg,rfl⟩:=Int.eq_ofNat_of_zero_le q0;replace HP:=H_ (HP.out.keep hg1 hT1);clear hT1 hg1 q0))
 replace hfn:fn<3:=by omega
 replace hpn:pn<8:=by omega
 replace hoff:off<128:=by omega
 replace htg:tg<14:=by omega
 go_cut [] (fun wx=>PCs 3 2 2 S W w w bt X R none wx)
 case first=>
  obtain ⟨wc,hwc⟩:∃wc:World,wc=w1:=⟨_,rfl⟩;rw [←hwc] at HP ⊢;clear hwc
  rcases (by omega:tg=0∨tg=1∨tg=2∨tg=3∨tg=4∨tg=5∨tg=6∨tg=7∨tg=8∨tg=9∨tg=10∨tg=11∨tg=12∨tg=13) with rfl | rfl | rfl | rfl | rfl | rfl | rfl | rfl | rfl | rfl | rfl | rfl | rfl | rfl
  ·as_aux_lemma=>
    go_upto_region 6 with fail
    refine wp_region_pc 222 15 (fun i=>decide (i≤12)) [SK.eq (ckV (.slice A1 m1 c1) (.slice A2 m2 c2) (.slice A3 m3 c3) (.slice A4 m4 c4) (.slice A5 m5 c5) (.slice A6 m6 c6) (.slice A7 m7 c7)),SK.eq (.int .i64 (fn:Int)),SK.eq (.int .i64 (pn:Int)),SK.eq (.pointer (some ⟨bt,0,none⟩)),SK.nat 2,SK.eq (.pointer (some ⟨bt,0,none⟩)),SK.nat 2,SK.eq (.pointer (some ⟨bt,0,none⟩)),SK.nat 2,SK.bl,SK.ck3 3 2 2,SK.ck3 3 2 2,SK.ck1 3 2 2,SK.int,SK.int,SK.any] (by kernel_rfl) (by kernel_rfl) rfl (fun _=>trivial) HP.out ?_;refine rP rfl rfl (fun xw hC hd K hK=>?_) (fun v0=>?_)
    ·have hC':PC 3 2 2 S W w w bt X R none _ _ _ _ _ _ _ C xw∧_:=hC;obtain ⟨x0,x1,x2,x3,x4,x5,x6⟩:=cs7 hC'.1.box;go_simp;exact hK _ _ hC K_ rfl
    simp only [ly];refine rP rfl rfl (fun xw hC hd K hK=>?_) (fun v1=>?_)
    ·skip
     go_simp;exact hK _ _ hC K_ rfl
    simp only [ly];refine rP rfl rfl (fun xw hC hd K hK=>?_) (fun v2=>?_)
    ·skip
     go_simp;exact hK _ _ hC K_ rfl
    simp only [ly];refine rP rfl rfl (fun xw hC hd K hK=>?_) (fun v3=>?_)
    ·skip
     go_simp;exact hK _ _ hC K_ rfl
    simp only [ly];refine rP rfl rfl (fun xw hC hd K hK=>?_) (fun v4=>?_)
    ·obtain rfl:v3=_:=hd 3 (by kernel_rfl);have hC':PC 3 2 2 S W w w bt X R none _ _ _ _ _ _ _ C xw∧_:=hC;go_simp
     go_at_call 7
     refine (next_t _ W xw bt (by omega) (by omega) hC'.1.tp).mono ?_;rintro e w1 ⟨y,rfl,y0,y1,hT,hg⟩;exact hK _ _ ⟨hC'.1.keep hg hT,grownBy_trans hC'.2 hg⟩ (ks_gb hg (fun h=>hn h.1)) ⟨y.toNat,by rw [Int.toNat_of_nonneg y0],by omega⟩
    simp only [ly];refine rP rfl rfl (fun xw hC hd K hK=>?_) (fun v5=>?_)
    ·skip
     go_simp;exact hK _ _ hC K_ rfl
    simp only [ly];refine rP rfl rfl (fun xw hC hd K hK=>?_) (fun v6=>?_)
    ·obtain rfl:v5=_:=hd 5 (by kernel_rfl);have hC':PC 3 2 2 S W w w bt X R none _ _ _ _ _ _ _ C xw∧_:=hC;go_simp
     go_at_call 7
     refine (next_t _ W xw bt (by omega) (by omega) hC'.1.tp).mono ?_;rintro e w1 ⟨y,rfl,y0,y1,hT,hg⟩;exact hK _ _ ⟨hC'.1.keep hg hT,grownBy_trans hC'.2 hg⟩ (ks_gb hg (fun h=>hn h.1)) ⟨y.toNat,by rw [Int.toNat_of_nonneg y0],by omega⟩
    simp only [ly];refine rP rfl rfl (fun xw hC hd K hK=>?_) (fun v7=>?_)
    ·skip
     go_simp;exact hK _ _ hC K_ rfl
    simp only [ly];refine rP rfl rfl (fun xw hC hd K hK=>?_) (fun v8=>?_)
    ·obtain rfl:v7=_:=hd 7 (by kernel_rfl);have hC':PC 3 2 2 S W w w bt X R none _ _ _ _ _ _ _ C xw∧_:=hC;go_simp
     go_at_call 7
     refine (next_t _ W xw bt (by omega) (by omega) hC'.1.tp).mono ?_;rintro e w1 ⟨y,rfl,y0,y1,hT,hg⟩;exact hK _ _ ⟨hC'.1.keep hg hT,grownBy_trans hC'.2 hg⟩ (ks_gb hg (fun h=>hn h.1)) ⟨y.toNat,by rw [Int.toNat_of_nonneg y0],by omega⟩
    simp only [ly];refine rP rfl rfl (fun xw hC hd K hK=>?_) (fun v9=>?_)
    ·obtain ⟨k8,rfl,b8⟩:=hd 8 (by kernel_rfl);go_simp;exact hK _ _ hC K_ ⟨_,rfl⟩
    simp only [ly];refine rP rfl rfl (fun xw hC hd K hK=>?_) (fun v10=>?_)
    ·have hC':PC 3 2 2 S W w w bt X R none _ _ _ _ _ _ _ C xw∧_:=hC;obtain rfl:v0=_:=hd 0 (by kernel_rfl);obtain rfl:v1=_:=hd 1 (by kernel_rfl);obtain rfl:v2=_:=hd 2 (by kernel_rfl);obtain ⟨k4,rfl,b4⟩:=hd 4 (by kernel_rfl);obtain ⟨k6,rfl,b6⟩:=hd 6 (by kernel_rfl);obtain ⟨k9,rfl⟩:=hd 9 (by kernel_rfl);go_simp
     go_at_call 37
     refine CM (insert_i C fn _ _ _ _ _ _ _ (Sx S X R none) xw hC'.1.at_ hC'.1.inv hfn hC'.1.fresh pn k4 k6 k9 hpn b4 b6) ?_;rintro e w1 ⟨C1,n1,er,a1,b1,c1,d1,e1,f1,g1,hI1,rfl,hc1,hb⟩;exact hK _ _ ⟨hC'.1.step hb,grownBy_trans hC'.2 (gb_of_below hb _)⟩ (KeepS.of_below hb) ⟨C1,a1,b1,c1,d1,e1,f1,g1,n1,er,rfl,hI1.1,hc1⟩
    simp only [ly];refine rP rfl rfl (fun xw hC hd K hK=>?_) (fun v11=>?_)
    ·obtain ⟨C1,a1,b1,c1,d1,e1,f1,g1,n1,er,ev,hI1,hc1⟩:=hd 10 (by kernel_rfl);obtain rfl:v10=_:=ev;go_simp;exact hK _ _ hC K_ ⟨C1,a1,b1,c1,d1,e1,f1,g1,n1,er,rfl,hI1,hc1⟩
    simp only [ly];refine rP rfl rfl (fun xw hC hd K hK=>?_) (fun v12=>?_)
    ·obtain ⟨C1,a1,b1,c1,d1,e1,f1,g1,n1,er,ev,hI1,hc1⟩:=hd 11 (by kernel_rfl);obtain rfl:v11=_:=ev;go_simp;exact hK _ _ hC K_ ⟨C1,a1,b1,c1,d1,e1,f1,g1,rfl,hI1,hc1⟩
    simp only [ly];refine rA rfl (fun w=>KeepS.refl w) (fun xw hd K hK=>?_) (fun v13=>?_)
    ·obtain ⟨C1,a1,b1,c1,d1,e1,f1,g1,n1,er,ev,hI1,hc1⟩:=hd 11 (by kernel_rfl);obtain rfl:v11=_:=ev;go_simp;exact hK _ ⟨_,rfl⟩
    simp only [ly];refine rA rfl (fun w=>KeepS.refl w) (fun xw hd K hK=>?_) (fun v14=>?_)
    ·obtain ⟨C1,a1,b1,c1,d1,e1,f1,g1,n1,er,ev,hI1,hc1⟩:=hd 11 (by kernel_rfl);obtain rfl:v11=_:=ev;go_simp;exact hK _ ⟨_,rfl⟩
    simp only [ly];refine rS (fun xw hC hd K hK=>?_) (fun v15=>?_)
    ·obtain ⟨C1,a1,b1,c1,d1,e1,f1,g1,ev,hI1,hc1⟩:=hd 12 (by kernel_rfl);obtain rfl:v12=_:=ev;have hC':PC 3 2 2 S W w w bt X R none _ _ _ _ _ _ _ C xw∧_:=hC;obtain ⟨E1,u1,n1,E2,u2,n2,E3,u3,n3,E4,u4,n4,E5,u5,n5,E6,u6,n6,E7,u7,n7,rfl,rfl,rfl,rfl,rfl,rfl,rfl⟩:=CkAt.caps hc1;refine wp_store_row rfl 30 (.tmp 3) (.tmp 39) rfl rfl X #[.slice E1 u1 n1,.slice E2 u2 n2,.slice E3 u3 n3,.slice E4 u4 n4,.slice E5 u5 n5,.slice E6 u6 n6,.slice E7 u7 n7] rfl rfl 30 _ hC'.1.box ck_size rfl (ck_one _ _ _ _ _ _ _ _ _ _ _ _ _ _ _ _ _ _ _ _ _) ?_;exact hK undef _ ⟨_,_,_,_,_,_,_,_,hC'.1.store hI1 hc1⟩ (KeepS.of_setRow _ _ _ (fun h=>h.2.1 rfl)) trivial
    simp only [ly];refine relWalkA_nil ?_;intro wz hD hG;clear hG;go_wp2;go_meet
    case rel=>exact hD
  ·as_aux_lemma=>
    go_upto_region 6 with fail
    refine wp_region_pc 222 15 (fun i=>decide (i≤12)) [SK.eq (ckV (.slice A1 m1 c1) (.slice A2 m2 c2) (.slice A3 m3 c3) (.slice A4 m4 c4) (.slice A5 m5 c5) (.slice A6 m6 c6) (.slice A7 m7 c7)),SK.eq (.int .i64 (fn:Int)),SK.eq (.int .i64 (pn:Int)),SK.eq (.pointer (some ⟨bt,0,none⟩)),SK.nat 2,SK.eq (.pointer (some ⟨bt,0,none⟩)),SK.nat 2,SK.eq (.pointer (some ⟨bt,0,none⟩)),SK.nat 2,SK.bl,SK.ck3 3 2 2,SK.ck3 3 2 2,SK.ck1 3 2 2,SK.int,SK.int,SK.any] (by kernel_rfl) (by kernel_rfl) rfl (fun _=>trivial) HP.out ?_;refine rP rfl rfl (fun xw hC hd K hK=>?_) (fun v0=>?_)
    ·have hC':PC 3 2 2 S W w w bt X R none _ _ _ _ _ _ _ C xw∧_:=hC;obtain ⟨x0,x1,x2,x3,x4,x5,x6⟩:=cs7 hC'.1.box;go_simp;exact hK _ _ hC K_ rfl
    simp only [ly];refine rP rfl rfl (fun xw hC hd K hK=>?_) (fun v1=>?_)
    ·skip
     go_simp;exact hK _ _ hC K_ rfl
    simp only [ly];refine rP rfl rfl (fun xw hC hd K hK=>?_) (fun v2=>?_)
    ·skip
     go_simp;exact hK _ _ hC K_ rfl
    simp only [ly];refine rP rfl rfl (fun xw hC hd K hK=>?_) (fun v3=>?_)
    ·skip
     go_simp;exact hK _ _ hC K_ rfl
    simp only [ly];refine rP rfl rfl (fun xw hC hd K hK=>?_) (fun v4=>?_)
    ·obtain rfl:v3=_:=hd 3 (by kernel_rfl);have hC':PC 3 2 2 S W w w bt X R none _ _ _ _ _ _ _ C xw∧_:=hC;go_simp
     go_at_call 7
     refine (next_t _ W xw bt (by omega) (by omega) hC'.1.tp).mono ?_;rintro e w1 ⟨y,rfl,y0,y1,hT,hg⟩;exact hK _ _ ⟨hC'.1.keep hg hT,grownBy_trans hC'.2 hg⟩ (ks_gb hg (fun h=>hn h.1)) ⟨y.toNat,by rw [Int.toNat_of_nonneg y0],by omega⟩
    simp only [ly];refine rP rfl rfl (fun xw hC hd K hK=>?_) (fun v5=>?_)
    ·skip
     go_simp;exact hK _ _ hC K_ rfl
    simp only [ly];refine rP rfl rfl (fun xw hC hd K hK=>?_) (fun v6=>?_)
    ·obtain rfl:v5=_:=hd 5 (by kernel_rfl);have hC':PC 3 2 2 S W w w bt X R none _ _ _ _ _ _ _ C xw∧_:=hC;go_simp
     go_at_call 7
     refine (next_t _ W xw bt (by omega) (by omega) hC'.1.tp).mono ?_;rintro e w1 ⟨y,rfl,y0,y1,hT,hg⟩;exact hK _ _ ⟨hC'.1.keep hg hT,grownBy_trans hC'.2 hg⟩ (ks_gb hg (fun h=>hn h.1)) ⟨y.toNat,by rw [Int.toNat_of_nonneg y0],by omega⟩
    simp only [ly];refine rP rfl rfl (fun xw hC hd K hK=>?_) (fun v7=>?_)
    ·skip
     go_simp;exact hK _ _ hC K_ rfl
    simp only [ly];refine rP rfl rfl (fun xw hC hd K hK=>?_) (fun v8=>?_)
    ·obtain rfl:v7=_:=hd 7 (by kernel_rfl);have hC':PC 3 2 2 S W w w bt X R none _ _ _ _ _ _ _ C xw∧_:=hC;go_simp
     go_at_call 7
     refine (next_t _ W xw bt (by omega) (by omega) hC'.1.tp).mono ?_;rintro e w1 ⟨y,rfl,y0,y1,hT,hg⟩;exact hK _ _ ⟨hC'.1.keep hg hT,grownBy_trans hC'.2 hg⟩ (ks_gb hg (fun h=>hn h.1)) ⟨y.toNat,by rw [Int.toNat_of_nonneg y0],by omega⟩
    simp only [ly];refine rP rfl rfl (fun xw hC hd K hK=>?_) (fun v9=>?_)
    ·obtain ⟨k8,rfl,b8⟩:=hd 8 (by kernel_rfl);go_simp;exact hK _ _ hC K_ ⟨_,rfl⟩
    simp only [ly];refine rP rfl rfl (fun xw hC hd K hK=>?_) (fun v10=>?_)
    ·have hC':PC 3 2 2 S W w w bt X R none _ _ _ _ _ _ _ C xw∧_:=hC;obtain rfl:v0=_:=hd 0 (by kernel_rfl);obtain rfl:v1=_:=hd 1 (by kernel_rfl);obtain rfl:v2=_:=hd 2 (by kernel_rfl);obtain ⟨k4,rfl,b4⟩:=hd 4 (by kernel_rfl);obtain ⟨k6,rfl,b6⟩:=hd 6 (by kernel_rfl);obtain ⟨k9,rfl⟩:=hd 9 (by kernel_rfl);go_simp
     go_at_call 37
     refine CM (insert_i C fn _ _ _ _ _ _ _ (Sx S X R none) xw hC'.1.at_ hC'.1.inv hfn hC'.1.fresh pn k4 k6 k9 hpn b4 b6) ?_;rintro e w1 ⟨C1,n1,er,a1,b1,c1,d1,e1,f1,g1,hI1,rfl,hc1,hb⟩;exact hK _ _ ⟨hC'.1.step hb,grownBy_trans hC'.2 (gb_of_below hb _)⟩ (KeepS.of_below hb) ⟨C1,a1,b1,c1,d1,e1,f1,g1,n1,er,rfl,hI1.1,hc1⟩
    simp only [ly];refine rP rfl rfl (fun xw hC hd K hK=>?_) (fun v11=>?_)
    ·obtain ⟨C1,a1,b1,c1,d1,e1,f1,g1,n1,er,ev,hI1,hc1⟩:=hd 10 (by kernel_rfl);obtain rfl:v10=_:=ev;go_simp;exact hK _ _ hC K_ ⟨C1,a1,b1,c1,d1,e1,f1,g1,n1,er,rfl,hI1,hc1⟩
    simp only [ly];refine rP rfl rfl (fun xw hC hd K hK=>?_) (fun v12=>?_)
    ·obtain ⟨C1,a1,b1,c1,d1,e1,f1,g1,n1,er,ev,hI1,hc1⟩:=hd 11 (by kernel_rfl);obtain rfl:v11=_:=ev;go_simp;exact hK _ _ hC K_ ⟨C1,a1,b1,c1,d1,e1,f1,g1,rfl,hI1,hc1⟩
    simp only [ly];refine rA rfl (fun w=>KeepS.refl w) (fun xw hd K hK=>?_) (fun v13=>?_)
    ·obtain ⟨C1,a1,b1,c1,d1,e1,f1,g1,n1,er,ev,hI1,hc1⟩:=hd 11 (by kernel_rfl);obtain rfl:v11=_:=ev;go_simp;exact hK _ ⟨_,rfl⟩
    simp only [ly];refine rA rfl (fun w=>KeepS.refl w) (fun xw hd K hK=>?_) (fun v14=>?_)
    ·obtain ⟨C1,a1,b1,c1,d1,e1,f1,g1,n1,er,ev,hI1,hc1⟩:=hd 11 (by kernel_rfl);obtain rfl:v11=_:=ev;go_simp;exact hK _ ⟨_,rfl⟩
    simp only [ly];refine rS (fun xw hC hd K hK=>?_) (fun v15=>?_)
    ·obtain ⟨C1,a1,b1,c1,d1,e1,f1,g1,ev,hI1,hc1⟩:=hd 12 (by kernel_rfl);obtain rfl:v12=_:=ev;have hC':PC 3 2 2 S W w w bt X R none _ _ _ _ _ _ _ C xw∧_:=hC;obtain ⟨E1,u1,n1,E2,u2,n2,E3,u3,n3,E4,u4,n4,E5,u5,n5,E6,u6,n6,E7,u7,n7,rfl,rfl,rfl,rfl,rfl,rfl,rfl⟩:=CkAt.caps hc1;refine wp_store_row rfl 30 (.tmp 3) (.tmp 39) rfl rfl X #[.slice E1 u1 n1,.slice E2 u2 n2,.slice E3 u3 n3,.slice E4 u4 n4,.slice E5 u5 n5,.slice E6 u6 n6,.slice E7 u7 n7] rfl rfl 30 _ hC'.1.box ck_size rfl (ck_one _ _ _ _ _ _ _ _ _ _ _ _ _ _ _ _ _ _ _ _ _) ?_;exact hK undef _ ⟨_,_,_,_,_,_,_,_,hC'.1.store hI1 hc1⟩ (KeepS.of_setRow _ _ _ (fun h=>h.2.1 rfl)) trivial
    simp only [ly];refine relWalkA_nil ?_;intro wz hD hG;clear hG;go_wp2;go_meet
    case rel=>exact hD
  ·as_aux_lemma=>
    go_upto_region 11 with (go_at_call 7;(with_reducible refine CM (next_t 40 W _ bt (by omega) (by omega) HP.out.tp) ?_);rintro e w1 ⟨of,rfl,q0,hof,hT1,hg1⟩;obtain ⟨of,rfl⟩:=Int.eq_ofNat_of_zero_le q0;replace HP:=H_ (HP.out.keep hg1 hT1);clear hT1 hg1 q0)
    go_upto_region 12 with (first
     | (go_at_call 7;(with_reducible refine CM (next_t 20 W _ bt (by omega) (by omega) HP.out.tp) ?_);rintro e w1 ⟨sn,rfl,q2,hsn,hT1,hg1⟩;obtain ⟨sn,rfl⟩:=Int.eq_ofNat_of_zero_le q2;replace HP:=H_ (HP.out.keep hg1 hT1);clear hT1 hg1 q2)
     | (go_at_call 45;go_loud (refine CM (bytes_i (1+(sn:Int)) W _ bt (by omega) (by omega) HP.out.tp) ?_);rintro e w2 ⟨s,hs,rfl,hT2,hg2⟩;replace HP:=H_ (HP.out.keep hg2 hT2);clear hT2 hg2))
    have hs1:1≤s.size∧s.size≤20:=by omega
    clear hs hsn;have hP:=HP.out;obtain ⟨x0,x1,x2,x3,x4,x5,x6⟩:=cs7 hP.box;clear hP
    go_upto_region 13 with (first
     | (go_at_call 46;go_loud (refine CM (ready_t C fn of s.size _ _ _ _ _ _ _ (Sx S X R none) W _ bt HP.out.at_ HP.out.inv hfn (by omega) (by omega) HP.out.tp (fun h=>hn h.1) HP.out.fresh) ?_);rintro e w2 ⟨C1,a1,b1,c1,d1,e1,f1,g1,hI1,rfl,hc1,hT2,hg2⟩;obtain ⟨E1,u1,n1,E2,u2,n2,E3,u3,n3,E4,u4,n4,E5,u5,n5,E6,u6,n6,E7,u7,n7,rfl,rfl,rfl,rfl,rfl,rfl,rfl⟩:=CkAt.caps hc1;have HP2:=H_ (HP.out.keep hg2 hT2);clear hT2 hg2)
     | (refine st_ck rfl (.tmp 3) (.tmp 58) rfl rfl X rfl rfl HP2.out.box rfl ?_))
    have HP:=H_ (HP2.out.store hI1 hc1);generalize w2.setRow X #[.slice E1 u1 n1,.slice E2 u2 n2,.slice E3 u3 n3,.slice E4 u4 n4,.slice E5 u5 n5,.slice E6 u6 n6,.slice E7 u7 n7]=W3 at HP;clear HP2 hI1 hc1 x0 x1 x2 x3 x4 x5 x6;have hP:=HP.out;obtain ⟨x0,x1,x2,x3,x4,x5,x6⟩:=cs7 hP.box;clear hP
    go_wp2_with (first
     | (go_at_call 38;go_loud (refine CM (cwrite_i C1 fn _ _ _ _ _ _ _ (Sx S X R none) _ HP.out.at_ HP.out.inv hfn HP.out.fresh of s hs1.1 (by omega)) ?_);rintro e w2 ⟨C1,er,a1,b1,c1,d1,e1,f1,g1,hI1,rfl,hc1,hb⟩;obtain ⟨E1,u1,n1,E2,u2,n2,E3,u3,n3,E4,u4,n4,E5,u5,n5,E6,u6,n6,E7,u7,n7,rfl,rfl,rfl,rfl,rfl,rfl,rfl⟩:=CkAt.caps hc1;have HP2:=H_ (HP.out.step hb))
     | (refine st_ck rfl (.tmp 3) (.tmp 65) rfl rfl X rfl rfl HP2.out.box rfl ?_))
    go_meet
    case rel=>exact ⟨_,_,_,_,_,_,_,_,HP2.out.store hI1 hc1⟩
  ·as_aux_lemma=>
    go_upto_region 11 with (go_at_call 7;(with_reducible refine CM (next_t 40 W _ bt (by omega) (by omega) HP.out.tp) ?_);rintro e w1 ⟨of,rfl,q0,hof,hT1,hg1⟩;obtain ⟨of,rfl⟩:=Int.eq_ofNat_of_zero_le q0;replace HP:=H_ (HP.out.keep hg1 hT1);clear hT1 hg1 q0)
    go_upto_region 12 with (first
     | (go_at_call 7;(with_reducible refine CM (next_t 20 W _ bt (by omega) (by omega) HP.out.tp) ?_);rintro e w1 ⟨sn,rfl,q2,hsn,hT1,hg1⟩;obtain ⟨sn,rfl⟩:=Int.eq_ofNat_of_zero_le q2;replace HP:=H_ (HP.out.keep hg1 hT1);clear hT1 hg1 q2)
     | (go_at_call 45;go_loud (refine CM (bytes_i (1+(sn:Int)) W _ bt (by omega) (by omega) HP.out.tp) ?_);rintro e w2 ⟨s,hs,rfl,hT2,hg2⟩;replace HP:=H_ (HP.out.keep hg2 hT2);clear hT2 hg2))
    have hs1:1≤s.size∧s.size≤20:=by omega
    clear hs hsn;have hP:=HP.out;obtain ⟨x0,x1,x2,x3,x4,x5,x6⟩:=cs7 hP.box;clear hP
    go_upto_region 13 with (first
     | (go_at_call 46;go_loud (refine CM (ready_t C fn of s.size _ _ _ _ _ _ _ (Sx S X R none) W _ bt HP.out.at_ HP.out.inv hfn (by omega) (by omega) HP.out.tp (fun h=>hn h.1) HP.out.fresh) ?_);rintro e w2 ⟨C1,a1,b1,c1,d1,e1,f1,g1,hI1,rfl,hc1,hT2,hg2⟩;obtain ⟨E1,u1,n1,E2,u2,n2,E3,u3,n3,E4,u4,n4,E5,u5,n5,E6,u6,n6,E7,u7,n7,rfl,rfl,rfl,rfl,rfl,rfl,rfl⟩:=CkAt.caps hc1;have HP2:=H_ (HP.out.keep hg2 hT2);clear hT2 hg2)
     | (refine st_ck rfl (.tmp 3) (.tmp 58) rfl rfl X rfl rfl HP2.out.box rfl ?_))
    have HP:=H_ (HP2.out.store hI1 hc1);generalize w2.setRow X #[.slice E1 u1 n1,.slice E2 u2 n2,.slice E3 u3 n3,.slice E4 u4 n4,.slice E5 u5 n5,.slice E6 u6 n6,.slice E7 u7 n7]=W3 at HP;clear HP2 hI1 hc1 x0 x1 x2 x3 x4 x5 x6;have hP:=HP.out;obtain ⟨x0,x1,x2,x3,x4,x5,x6⟩:=cs7 hP.box;clear hP
    go_wp2_with (first
     | (go_at_call 38;go_loud (refine CM (cwrite_i C1 fn _ _ _ _ _ _ _ (Sx S X R none) _ HP.out.at_ HP.out.inv hfn HP.out.fresh of s hs1.1 (by omega)) ?_);rintro e w2 ⟨C1,er,a1,b1,c1,d1,e1,f1,g1,hI1,rfl,hc1,hb⟩;obtain ⟨E1,u1,n1,E2,u2,n2,E3,u3,n3,E4,u4,n4,E5,u5,n5,E6,u6,n6,E7,u7,n7,rfl,rfl,rfl,rfl,rfl,rfl,rfl⟩:=CkAt.caps hc1;have HP2:=H_ (HP.out.step hb))
     | (refine st_ck rfl (.tmp 3) (.tmp 65) rfl rfl X rfl rfl HP2.out.box rfl ?_))
    go_meet
    case rel=>exact ⟨_,_,_,_,_,_,_,_,HP2.out.store hI1 hc1⟩
  ·as_aux_lemma=>
    go_upto_region 11 with (go_at_call 7;(with_reducible refine CM (next_t 40 W _ bt (by omega) (by omega) HP.out.tp) ?_);rintro e w1 ⟨of,rfl,q0,hof,hT1,hg1⟩;obtain ⟨of,rfl⟩:=Int.eq_ofNat_of_zero_le q0;replace HP:=H_ (HP.out.keep hg1 hT1);clear hT1 hg1 q0)
    go_upto_region 12 with (first
     | (go_at_call 7;(with_reducible refine CM (next_t 20 W _ bt (by omega) (by omega) HP.out.tp) ?_);rintro e w1 ⟨sn,rfl,q2,hsn,hT1,hg1⟩;obtain ⟨sn,rfl⟩:=Int.eq_ofNat_of_zero_le q2;replace HP:=H_ (HP.out.keep hg1 hT1);clear hT1 hg1 q2)
     | (go_at_call 45;go_loud (refine CM (bytes_i (1+(sn:Int)) W _ bt (by omega) (by omega) HP.out.tp) ?_);rintro e w2 ⟨s,hs,rfl,hT2,hg2⟩;replace HP:=H_ (HP.out.keep hg2 hT2);clear hT2 hg2))
    have hs1:1≤s.size∧s.size≤20:=by omega
    clear hs hsn;have hP:=HP.out;obtain ⟨x0,x1,x2,x3,x4,x5,x6⟩:=cs7 hP.box;clear hP
    go_upto_region 13 with (first
     | (go_at_call 46;go_loud (refine CM (ready_t C fn of s.size _ _ _ _ _ _ _ (Sx S X R none) W _ bt HP.out.at_ HP.out.inv hfn (by omega) (by omega) HP.out.tp (fun h=>hn h.1) HP.out.fresh) ?_);rintro e w2 ⟨C1,a1,b1,c1,d1,e1,f1,g1,hI1,rfl,hc1,hT2,hg2⟩;obtain ⟨E1,u1,n1,E2,u2,n2,E3,u3,n3,E4,u4,n4,E5,u5,n5,E6,u6,n6,E7,u7,n7,rfl,rfl,rfl,rfl,rfl,rfl,rfl⟩:=CkAt.caps hc1;have HP2:=H_ (HP.out.keep hg2 hT2);clear hT2 hg2)
     | (refine st_ck rfl (.tmp 3) (.tmp 58) rfl rfl X rfl rfl HP2.out.box rfl ?_))
    have HP:=H_ (HP2.out.store hI1 hc1);generalize w2.setRow X #[.slice E1 u1 n1,.slice E2 u2 n2,.slice E3 u3 n3,.slice E4 u4 n4,.slice E5 u5 n5,.slice E6 u6 n6,.slice E7 u7 n7]=W3 at HP;clear HP2 hI1 hc1 x0 x1 x2 x3 x4 x5 x6;have hP:=HP.out;obtain ⟨x0,x1,x2,x3,x4,x5,x6⟩:=cs7 hP.box;clear hP
    go_wp2_with (first
     | (go_at_call 38;go_loud (refine CM (cwrite_i C1 fn _ _ _ _ _ _ _ (Sx S X R none) _ HP.out.at_ HP.out.inv hfn HP.out.fresh of s hs1.1 (by omega)) ?_);rintro e w2 ⟨C1,er,a1,b1,c1,d1,e1,f1,g1,hI1,rfl,hc1,hb⟩;obtain ⟨E1,u1,n1,E2,u2,n2,E3,u3,n3,E4,u4,n4,E5,u5,n5,E6,u6,n6,E7,u7,n7,rfl,rfl,rfl,rfl,rfl,rfl,rfl⟩:=CkAt.caps hc1;have HP2:=H_ (HP.out.step hb))
     | (refine st_ck rfl (.tmp 3) (.tmp 65) rfl rfl X rfl rfl HP2.out.box rfl ?_))
    go_meet
    case rel=>exact ⟨_,_,_,_,_,_,_,_,HP2.out.store hI1 hc1⟩
  ·as_aux_lemma=>
    skip
    have hP:=HP.out;obtain ⟨x0,x1,x2,x3,x4,x5,x6⟩:=cs7 hP.box;clear hP
    go_upto_region 16 with (go_at_call 47;go_loud (refine CM (frame_t C _ _ _ _ _ _ _ (Sx S X R none) W _ bt HP.out.at_ (by have:=HP.out.inv.nr;omega) HP.out.tp) ?_);rintro e w2 ⟨n,hn,rfl,hT2,hg2⟩;replace HP:=H_ (HP.out.keep hg2 hT2);clear hT2 hg2)
    clear x0 x1 x2 x3 x4 x5 x6
    rcases hn with rfl | ⟨i,x,rfl,hx,hf⟩
    ·go_wp2;go_meet
     case rel=>exact ⟨_,_,_,_,_,_,_,_,HP.out⟩
    have hi0:(0:Int)<(i:Int)+1:=by omega
    have hP:=HP.out;obtain ⟨x0,x1,x2,x3,x4,x5,x6⟩:=cs7 hP.box;clear hP
    go_wp2_with (first
     | (go_at_call 48;go_loud (refine CM (begin_i C i x _ _ _ _ _ _ _ (Sx S X R none) _ HP.out.at_ HP.out.inv hx hf HP.out.fresh) ?_);rintro e w2 ⟨C1,er,a1,b1,c1,d1,e1,f1,g1,rq,hI1,rfl,hc1,hb⟩;obtain ⟨E1,u1,n1,E2,u2,n2,E3,u3,n3,E4,u4,n4,E5,u5,n5,E6,u6,n6,E7,u7,n7,rfl,rfl,rfl,rfl,rfl,rfl,rfl⟩:=CkAt.caps hc1;have HP2:=H_ (HP.out.step hb))
     | (refine st_ck rfl (.tmp 3) (.tmp 78) rfl rfl X rfl rfl HP2.out.box rfl ?_))
    go_meet
    case rel=>exact ⟨_,_,_,_,_,_,_,_,HP2.out.store hI1 hc1⟩
  ·as_aux_lemma=>
    skip
    have hP:=HP.out;obtain ⟨x0,x1,x2,x3,x4,x5,x6⟩:=cs7 hP.box;clear hP
    go_upto_region 20 with (go_at_call 47;go_loud (refine CM (frame_t C _ _ _ _ _ _ _ (Sx S X R none) W _ bt HP.out.at_ (by have:=HP.out.inv.nr;omega) HP.out.tp) ?_);rintro e w2 ⟨n,hn,rfl,hT2,hg2⟩;replace HP:=H_ (HP.out.keep hg2 hT2);clear hT2 hg2)
    clear x0 x1 x2 x3 x4 x5 x6
    rcases hn with rfl | ⟨i,x,rfl,hx,hf⟩
    ·go_wp2;go_meet
     case rel=>exact ⟨_,_,_,_,_,_,_,_,HP.out⟩
    have hi0:(0:Int)<(i:Int)+1:=by omega
    go_upto_region 21 with fail
    refine wp_region_pc 222 11 (fun i=>decide (i≤9)) [SK.eq (ckV (.slice A1 m1 c1) (.slice A2 m2 c2) (.slice A3 m3 c3) (.slice A4 m4 c4) (.slice A5 m5 c5) (.slice A6 m6 c6) (.slice A7 m7 c7)),SK.eq (.int .i64 ((i:Int)+1)),SK.row (fun _=>True) 3,SK.eq (.pointer (some ⟨bt,0,none⟩)),SK.nat 3,SK.rat (fun _=>True),SK.int,SK.ck2 3 2 2,SK.ck2 3 2 2,SK.ck1 3 2 2,SK.int,SK.any] (by kernel_rfl) (by kernel_rfl) rfl (fun _=>trivial) HP.out ?_;refine rP rfl rfl (fun xw hC hd K hK=>?_) (fun v0=>?_)
    ·have hC':PC 3 2 2 S W w w bt X R none _ _ _ _ _ _ _ C xw∧_:=hC;obtain ⟨x0,x1,x2,x3,x4,x5,x6⟩:=cs7 hC'.1.box;go_simp;exact hK _ _ hC K_ rfl
    simp only [ly];refine rP rfl rfl (fun xw hC hd K hK=>?_) (fun v1=>?_)
    ·skip
     go_simp;exact hK _ _ hC K_ rfl
    simp only [ly];refine rP rfl rfl (fun xw hC hd K hK=>?_) (fun v2=>?_)
    ·have hC':PC 3 2 2 S W w w bt X R none _ _ _ _ _ _ _ C xw∧_:=hC
     skip
     go_simp;exact hK _ _ ⟨hC'.1.step (bl_alloc B_ _),grownBy_trans hC'.2 (World.grownBy_alloc _ _ _)⟩ (KeepS.of_alloc _ _) ⟨_,_,[0,0,10],rfl,rfl,(fun _ _=>trivial),hC'.1.fresh _ (Nat.le_refl _),by simp,heap_alloc_new _ _⟩
    simp only [ly];refine rP rfl rfl (fun xw hC hd K hK=>?_) (fun v3=>?_)
    ·skip
     go_simp;exact hK _ _ hC K_ rfl
    simp only [ly];refine rP rfl rfl (fun xw hC hd K hK=>?_) (fun v4=>?_)
    ·obtain rfl:v3=_:=hd 3 (by kernel_rfl);have hC':PC 3 2 2 S W w w bt X R none _ _ _ _ _ _ _ C xw∧_:=hC;go_simp
     go_at_call 7
     refine (next_t _ W xw bt (by omega) (by omega) hC'.1.tp).mono ?_;rintro e w1 ⟨y,rfl,y0,y1,hT,hg⟩;exact hK _ _ ⟨hC'.1.keep hg hT,grownBy_trans hC'.2 hg⟩ (ks_gb hg (fun h=>hn h.1)) ⟨y.toNat,by rw [Int.toNat_of_nonneg y0],by omega⟩
    simp only [ly];refine rP rfl rfl (fun xw hC hd K hK=>?_) (fun v5=>?_)
    ·obtain ⟨gg,t,l,rfl,hl,hp,hS,hlt,hg⟩:=hd 2 (by kernel_rfl);obtain ⟨k,rfl,hk⟩:=hd 4 (by kernel_rfl);have hk':(k:Int)<3:=by omega
     have hcl:=rowc hg (i:=k) (by omega);go_simp;exact hK _ _ hC K_ ⟨gg,k,l[k]'(by omega),rfl,hp (l[k]'(by omega)) (List.getElem_mem _),hS,hlt,hcl⟩
    simp only [ly];refine rP rfl rfl (fun xw hC hd K hK=>?_) (fun v6=>?_)
    ·obtain ⟨gg,i',y,rfl,hp,hS,hlt,hcl⟩:=hd 5 (by kernel_rfl);go_simp;exact hK _ _ hC K_ ⟨_,rfl⟩
    simp only [ly];refine rP rfl rfl (fun xw hC hd K hK=>?_) (fun v7=>?_)
    ·have hC':PC 3 2 2 S W w w bt X R none _ _ _ _ _ _ _ C xw∧_:=hC;obtain rfl:v0=_:=hd 0 (by kernel_rfl);obtain rfl:v1=_:=hd 1 (by kernel_rfl);obtain ⟨k6,rfl⟩:=hd 6 (by kernel_rfl);go_simp
     go_at_call 49
     refine CM (end_i C i x _ _ _ _ _ _ _ (Sx S X R none) xw hC'.1.at_ hC'.1.inv hx hf hC'.1.fresh k6) ?_;rintro e w1 ⟨C1,er,a1,b1,c1,d1,e1,f1,g1,hI1,rfl,hc1,hb⟩;exact hK _ _ ⟨hC'.1.step hb,grownBy_trans hC'.2 (gb_of_below hb _)⟩ (KeepS.of_below hb) ⟨C1,a1,b1,c1,d1,e1,f1,g1,er,rfl,hI1,hc1⟩
    simp only [ly];refine rP rfl rfl (fun xw hC hd K hK=>?_) (fun v8=>?_)
    ·obtain ⟨C1,a1,b1,c1,d1,e1,f1,g1,er,ev,hI1,hc1⟩:=hd 7 (by kernel_rfl);obtain rfl:v7=_:=ev;go_simp;exact hK _ _ hC K_ ⟨C1,a1,b1,c1,d1,e1,f1,g1,er,rfl,hI1,hc1⟩
    simp only [ly];refine rP rfl rfl (fun xw hC hd K hK=>?_) (fun v9=>?_)
    ·obtain ⟨C1,a1,b1,c1,d1,e1,f1,g1,er,ev,hI1,hc1⟩:=hd 8 (by kernel_rfl);obtain rfl:v8=_:=ev;go_simp;exact hK _ _ hC K_ ⟨C1,a1,b1,c1,d1,e1,f1,g1,rfl,hI1,hc1⟩
    simp only [ly];refine rA rfl (fun w=>KeepS.refl w) (fun xw hd K hK=>?_) (fun v10=>?_)
    ·obtain ⟨C1,a1,b1,c1,d1,e1,f1,g1,er,ev,hI1,hc1⟩:=hd 8 (by kernel_rfl);obtain rfl:v8=_:=ev;go_simp;exact hK _ ⟨_,rfl⟩
    simp only [ly];refine rS (fun xw hC hd K hK=>?_) (fun v11=>?_)
    ·obtain ⟨C1,a1,b1,c1,d1,e1,f1,g1,ev,hI1,hc1⟩:=hd 9 (by kernel_rfl);obtain rfl:v9=_:=ev;have hC':PC 3 2 2 S W w w bt X R none _ _ _ _ _ _ _ C xw∧_:=hC;obtain ⟨E1,u1,n1,E2,u2,n2,E3,u3,n3,E4,u4,n4,E5,u5,n5,E6,u6,n6,E7,u7,n7,rfl,rfl,rfl,rfl,rfl,rfl,rfl⟩:=CkAt.caps hc1;refine wp_store_row rfl 30 (.tmp 3) (.tmp 97) rfl rfl X #[.slice E1 u1 n1,.slice E2 u2 n2,.slice E3 u3 n3,.slice E4 u4 n4,.slice E5 u5 n5,.slice E6 u6 n6,.slice E7 u7 n7] rfl rfl 30 _ hC'.1.box ck_size rfl (ck_one _ _ _ _ _ _ _ _ _ _ _ _ _ _ _ _ _ _ _ _ _) ?_;exact hK undef _ ⟨_,_,_,_,_,_,_,_,hC'.1.store hI1 hc1⟩ (KeepS.of_setRow _ _ _ (fun h=>h.2.1 rfl)) trivial
    simp only [ly];refine relWalkA_nil ?_;intro wz hD hG;clear hG;go_wp2;go_meet
    case rel=>exact hD
  ·as_aux_lemma=>
    skip
    have hP:=HP.out;obtain ⟨x0,x1,x2,x3,x4,x5,x6⟩:=cs7 hP.box;clear hP
    go_upto_region 24 with (go_at_call 47;go_loud (refine CM (frame_t C _ _ _ _ _ _ _ (Sx S X R none) W _ bt HP.out.at_ (by have:=HP.out.inv.nr;omega) HP.out.tp) ?_);rintro e w2 ⟨n,hn,rfl,hT2,hg2⟩;replace HP:=H_ (HP.out.keep hg2 hT2);clear hT2 hg2)
    clear x0 x1 x2 x3 x4 x5 x6
    rcases hn with rfl | ⟨i,x,rfl,hx,hf⟩
    ·go_wp2;go_meet
     case rel=>exact ⟨_,_,_,_,_,_,_,_,HP.out⟩
    have hi0:(0:Int)<(i:Int)+1:=by omega
    go_upto_region 25 with fail
    refine wp_region_pc 222 9 (fun i=>decide (i≤7)) [SK.eq (ckV (.slice A1 m1 c1) (.slice A2 m2 c2) (.slice A3 m3 c3) (.slice A4 m4 c4) (.slice A5 m5 c5) (.slice A6 m6 c6) (.slice A7 m7 c7)),SK.eq (.int .i64 ((i:Int)+1)),SK.eq (.pointer (some ⟨bt,0,none⟩)),SK.nat 3,SK.ir 1 3,SK.ck2 3 2 2,SK.ck2 3 2 2,SK.ck1 3 2 2,SK.int,SK.any] (by kernel_rfl) (by kernel_rfl) rfl (fun _=>trivial) HP.out ?_;refine rP rfl rfl (fun xw hC hd K hK=>?_) (fun v0=>?_)
    ·have hC':PC 3 2 2 S W w w bt X R none _ _ _ _ _ _ _ C xw∧_:=hC;obtain ⟨x0,x1,x2,x3,x4,x5,x6⟩:=cs7 hC'.1.box;go_simp;exact hK _ _ hC K_ rfl
    simp only [ly];refine rP rfl rfl (fun xw hC hd K hK=>?_) (fun v1=>?_)
    ·skip
     go_simp;exact hK _ _ hC K_ rfl
    simp only [ly];refine rP rfl rfl (fun xw hC hd K hK=>?_) (fun v2=>?_)
    ·skip
     go_simp;exact hK _ _ hC K_ rfl
    simp only [ly];refine rP rfl rfl (fun xw hC hd K hK=>?_) (fun v3=>?_)
    ·obtain rfl:v2=_:=hd 2 (by kernel_rfl);have hC':PC 3 2 2 S W w w bt X R none _ _ _ _ _ _ _ C xw∧_:=hC;go_simp
     go_at_call 7
     refine (next_t _ W xw bt (by omega) (by omega) hC'.1.tp).mono ?_;rintro e w1 ⟨y,rfl,y0,y1,hT,hg⟩;exact hK _ _ ⟨hC'.1.keep hg hT,grownBy_trans hC'.2 hg⟩ (ks_gb hg (fun h=>hn h.1)) ⟨y.toNat,by rw [Int.toNat_of_nonneg y0],by omega⟩
    simp only [ly];refine rP rfl rfl (fun xw hC hd K hK=>?_) (fun v4=>?_)
    ·obtain ⟨k3,rfl,b3⟩:=hd 3 (by kernel_rfl);have hw:=w64 (x:=1+(k3:Int)) (by omega);go_simp;exact hK _ _ hC K_ ⟨_,rfl,by omega,by omega⟩
    simp only [ly];refine rP rfl rfl (fun xw hC hd K hK=>?_) (fun v5=>?_)
    ·have hC':PC 3 2 2 S W w w bt X R none _ _ _ _ _ _ _ C xw∧_:=hC;obtain rfl:v0=_:=hd 0 (by kernel_rfl);obtain rfl:v1=_:=hd 1 (by kernel_rfl);obtain ⟨k4,rfl,b4,c4⟩:=hd 4 (by kernel_rfl);go_simp
     go_at_call 50
     refine CM (readBegin_i C i x _ _ _ _ _ _ _ (Sx S X R none) xw hC'.1.at_ hC'.1.inv hx hf hC'.1.fresh k4 ⟨b4,c4⟩) ?_;rintro e w1 ⟨C1,er,a1,b1,c1,d1,e1,f1,g1,hI1,rfl,hc1,hb⟩;exact hK _ _ ⟨hC'.1.step hb,grownBy_trans hC'.2 (gb_of_below hb _)⟩ (KeepS.of_below hb) ⟨C1,a1,b1,c1,d1,e1,f1,g1,er,rfl,hI1,hc1⟩
    simp only [ly];refine rP rfl rfl (fun xw hC hd K hK=>?_) (fun v6=>?_)
    ·obtain ⟨C1,a1,b1,c1,d1,e1,f1,g1,er,ev,hI1,hc1⟩:=hd 5 (by kernel_rfl);obtain rfl:v5=_:=ev;go_simp;exact hK _ _ hC K_ ⟨C1,a1,b1,c1,d1,e1,f1,g1,er,rfl,hI1,hc1⟩
    simp only [ly];refine rP rfl rfl (fun xw hC hd K hK=>?_) (fun v7=>?_)
    ·obtain ⟨C1,a1,b1,c1,d1,e1,f1,g1,er,ev,hI1,hc1⟩:=hd 6 (by kernel_rfl);obtain rfl:v6=_:=ev;go_simp;exact hK _ _ hC K_ ⟨C1,a1,b1,c1,d1,e1,f1,g1,rfl,hI1,hc1⟩
    simp only [ly];refine rA rfl (fun w=>KeepS.refl w) (fun xw hd K hK=>?_) (fun v8=>?_)
    ·obtain ⟨C1,a1,b1,c1,d1,e1,f1,g1,er,ev,hI1,hc1⟩:=hd 6 (by kernel_rfl);obtain rfl:v6=_:=ev;go_simp;exact hK _ ⟨_,rfl⟩
    simp only [ly];refine rS (fun xw hC hd K hK=>?_) (fun v9=>?_)
    ·obtain ⟨C1,a1,b1,c1,d1,e1,f1,g1,ev,hI1,hc1⟩:=hd 7 (by kernel_rfl);obtain rfl:v7=_:=ev;have hC':PC 3 2 2 S W w w bt X R none _ _ _ _ _ _ _ C xw∧_:=hC;obtain ⟨E1,u1,n1,E2,u2,n2,E3,u3,n3,E4,u4,n4,E5,u5,n5,E6,u6,n6,E7,u7,n7,rfl,rfl,rfl,rfl,rfl,rfl,rfl⟩:=CkAt.caps hc1;refine wp_store_row rfl 30 (.tmp 3) (.tmp 113) rfl rfl X #[.slice E1 u1 n1,.slice E2 u2 n2,.slice E3 u3 n3,.slice E4 u4 n4,.slice E5 u5 n5,.slice E6 u6 n6,.slice E7 u7 n7] rfl rfl 30 _ hC'.1.box ck_size rfl (ck_one _ _ _ _ _ _ _ _ _ _ _ _ _ _ _ _ _ _ _ _ _) ?_;exact hK undef _ ⟨_,_,_,_,_,_,_,_,hC'.1.store hI1 hc1⟩ (KeepS.of_setRow _ _ _ (fun h=>h.2.1 rfl)) trivial
    simp only [ly];refine relWalkA_nil ?_;intro wz hD hG;clear hG;go_wp2;go_meet
    case rel=>exact hD
  ·as_aux_lemma=>
    skip
    have hP:=HP.out;obtain ⟨x0,x1,x2,x3,x4,x5,x6⟩:=cs7 hP.box;clear hP
    go_upto_region 28 with (go_at_call 47;go_loud (refine CM (frame_t C _ _ _ _ _ _ _ (Sx S X R none) W _ bt HP.out.at_ (by have:=HP.out.inv.nr;omega) HP.out.tp) ?_);rintro e w2 ⟨n,hn,rfl,hT2,hg2⟩;replace HP:=H_ (HP.out.keep hg2 hT2);clear hT2 hg2)
    clear x0 x1 x2 x3 x4 x5 x6
    rcases hn with rfl | ⟨i,x,rfl,hx,hf⟩
    ·go_wp2;go_meet
     case rel=>exact ⟨_,_,_,_,_,_,_,_,HP.out⟩
    have hi0:(0:Int)<(i:Int)+1:=by omega
    obtain rfl:=HM2.out;obtain ⟨jj,yy,hu,_⟩:=HP.out.inv.used hx hf;have hxf:0≤x.file∧x.file≤100:=by have:=hu.ix;have:=(g_l hu.fl);have:=HP.out.inv.nf;omega
    have hxp:0≤x.page∧x.page≤100:=by have:=hu.ok.page;omega
    obtain ⟨bb,o,rfl,hbl,y0,y1,y2,y3,y4,y5,y6,y7,y8⟩:=FrA.cells HP.out.at_.frames hx;have hil:=(g_l hx);have i2:(i:Int)<(C.frames.length:Int):=by omega
    have i4:C.frames.length≤64:=HP.out.inv.nr.2;clear hu;have hP:=HP.out;obtain ⟨x0,x1,x2,x3,x4,x5,x6⟩:=cs7 hP.box;clear hP
    go_upto_region 30 with fail
    obtain ⟨Y,hY⟩:∃Y,Y=w2.heap.size:=⟨_,rfl⟩;have HF:=H_ (heap_at_new w2 (oF x) Y hY.symm);have hYb:Y≠bt:=by have:=HP.out.tp.lt;omega
    replace HP:=H_ (HP.out.step (bl_alloc B_ (oF x)));rw [←hY];generalize w2.alloc (oF x)=W2 at HP HF;clear hY x0 x1 x2 x3 x4 x5 x6 y0 y1 y2 y3 y4 y5 y6 y7 y8 i2 hil;refine wp_region_pc 222 14 (fun i=>decide (i≤12)) [SK.eq (ckV (.slice A1 m1 c1) (.slice (some ⟨bb,o,none⟩) C.frames.length c2) (.slice A3 m3 c3) (.slice A4 m4 c4) (.slice A5 m5 c5) (.slice A6 m6 c6) (.slice A7 m7 c7)),SK.eq (.int .i64 ((i:Int)+1)),SK.eq (.pointer (some ⟨Y,0,none⟩)),SK.eq (.int .i64 x.file),SK.eq (.pointer (some ⟨Y,1,none⟩)),SK.eq (.int .i64 x.page),SK.s16,SK.eq (.pointer (some ⟨bt,0,none⟩)),SK.nat 4,SK.bl,SK.ck2 3 2 2,SK.ck2 3 2 2,SK.ck1 3 2 2,SK.int,SK.any] (by kernel_rfl) (by kernel_rfl) rfl (fun _=>trivial) HP.out ?_;refine rP rfl rfl (fun xw hC hd K hK=>?_) (fun v0=>?_)
    ·have hC':PC 3 2 2 S W w w bt X R none _ _ _ _ _ _ _ C xw∧_:=hC;obtain ⟨x0,x1,x2,x3,x4,x5,x6⟩:=cs7 hC'.1.box;go_simp;exact hK _ _ hC K_ rfl
    simp only [ly];refine rP rfl rfl (fun xw hC hd K hK=>?_) (fun v1=>?_)
    ·skip
     go_simp;exact hK _ _ hC K_ rfl
    simp only [ly];refine rP rfl rfl (fun xw hC hd K hK=>?_) (fun v2=>?_)
    ·skip
     go_simp;exact hK _ _ hC K_ rfl
    simp only [ly];refine rP rfl rfl (fun xw hC hd K hK=>?_) (fun v3=>?_)
    ·obtain rfl:v2=_:=hd 2 (by kernel_rfl);have hC':PC 3 2 2 S W w w bt X R none _ _ _ _ _ _ _ C xw∧_:=hC;have hF:=gb_block hC'.2 hYb HF.out;have f0:=cs1 hF;go_simp;exact hK _ _ hC K_ rfl
    simp only [ly];refine rP rfl rfl (fun xw hC hd K hK=>?_) (fun v4=>?_)
    ·skip
     go_simp;exact hK _ _ hC K_ rfl
    simp only [ly];refine rP rfl rfl (fun xw hC hd K hK=>?_) (fun v5=>?_)
    ·obtain rfl:v4=_:=hd 4 (by kernel_rfl);have hC':PC 3 2 2 S W w w bt X R none _ _ _ _ _ _ _ C xw∧_:=hC;have hF:=gb_block hC'.2 hYb HF.out;have f1:=cells_at hF 1;simp only [List.getElem?_toArray,List.getElem?_cons_zero,List.getElem?_cons_succ] at f1;go_simp;exact hK _ _ hC K_ rfl
    simp only [ly];refine rP rfl rfl (fun xw hC hd K hK=>?_) (fun v6=>?_)
    ·have hC':PC 3 2 2 S W w w bt X R none _ _ _ _ _ _ _ C xw∧_:=hC;obtain rfl:v3=_:=hd 3 (by kernel_rfl);obtain rfl:v5=_:=hd 5 (by kernel_rfl);go_simp
     go_at_call 52
     refine CM (disk_w x.file x.page xw hxf hxp) ?_;rintro e w1 ⟨s,hs,rfl,hb⟩;exact hK _ _ ⟨hC'.1.step hb,grownBy_trans hC'.2 (gb_of_below hb _)⟩ (KeepS.of_below hb) ⟨s,rfl,hs⟩
    simp only [ly];refine rP rfl rfl (fun xw hC hd K hK=>?_) (fun v7=>?_)
    ·skip
     go_simp;exact hK _ _ hC K_ rfl
    simp only [ly];refine rP rfl rfl (fun xw hC hd K hK=>?_) (fun v8=>?_)
    ·obtain rfl:v7=_:=hd 7 (by kernel_rfl);have hC':PC 3 2 2 S W w w bt X R none _ _ _ _ _ _ _ C xw∧_:=hC;go_simp
     go_at_call 7
     refine (next_t _ W xw bt (by omega) (by omega) hC'.1.tp).mono ?_;rintro e w1 ⟨y,rfl,y0,y1,hT,hg⟩;exact hK _ _ ⟨hC'.1.keep hg hT,grownBy_trans hC'.2 hg⟩ (ks_gb hg (fun h=>hn h.1)) ⟨y.toNat,by rw [Int.toNat_of_nonneg y0],by omega⟩
    simp only [ly];refine rP rfl rfl (fun xw hC hd K hK=>?_) (fun v9=>?_)
    ·obtain ⟨k8,rfl,b8⟩:=hd 8 (by kernel_rfl);go_simp;exact hK _ _ hC K_ ⟨_,rfl⟩
    simp only [ly];refine rP rfl rfl (fun xw hC hd K hK=>?_) (fun v10=>?_)
    ·have hC':PC 3 2 2 S W w w bt X R none _ _ _ _ _ _ _ C xw∧_:=hC;obtain rfl:v0=_:=hd 0 (by kernel_rfl);obtain rfl:v1=_:=hd 1 (by kernel_rfl);obtain ⟨s,ev6,hs⟩:=hd 6 (by kernel_rfl);obtain rfl:v6=_:=ev6;obtain ⟨k9,rfl⟩:=hd 9 (by kernel_rfl);go_simp
     go_at_call 51
     refine CM (readEnd_i C i x _ _ _ _ _ _ _ (Sx S X R none) xw hC'.1.at_ hC'.1.inv hx hf hC'.1.fresh s k9 hs) ?_;rintro e w1 ⟨C1,er,a1,b1,c1,d1,e1,f1,g1,hI1,rfl,hc1,hb⟩;exact hK _ _ ⟨hC'.1.step hb,grownBy_trans hC'.2 (gb_of_below hb _)⟩ (KeepS.of_below hb) ⟨C1,a1,b1,c1,d1,e1,f1,g1,er,rfl,hI1,hc1⟩
    simp only [ly];refine rP rfl rfl (fun xw hC hd K hK=>?_) (fun v11=>?_)
    ·obtain ⟨C1,a1,b1,c1,d1,e1,f1,g1,er,ev,hI1,hc1⟩:=hd 10 (by kernel_rfl);obtain rfl:v10=_:=ev;go_simp;exact hK _ _ hC K_ ⟨C1,a1,b1,c1,d1,e1,f1,g1,er,rfl,hI1,hc1⟩
    simp only [ly];refine rP rfl rfl (fun xw hC hd K hK=>?_) (fun v12=>?_)
    ·obtain ⟨C1,a1,b1,c1,d1,e1,f1,g1,er,ev,hI1,hc1⟩:=hd 11 (by kernel_rfl);obtain rfl:v11=_:=ev;go_simp;exact hK _ _ hC K_ ⟨C1,a1,b1,c1,d1,e1,f1,g1,rfl,hI1,hc1⟩
    simp only [ly];refine rA rfl (fun w=>KeepS.refl w) (fun xw hd K hK=>?_) (fun v13=>?_)
    ·obtain ⟨C1,a1,b1,c1,d1,e1,f1,g1,er,ev,hI1,hc1⟩:=hd 11 (by kernel_rfl);obtain rfl:v11=_:=ev;go_simp;exact hK _ ⟨_,rfl⟩
    simp only [ly];refine rS (fun xw hC hd K hK=>?_) (fun v14=>?_)
    ·obtain ⟨C1,a1,b1,c1,d1,e1,f1,g1,ev,hI1,hc1⟩:=hd 12 (by kernel_rfl);obtain rfl:v12=_:=ev;have hC':PC 3 2 2 S W w w bt X R none _ _ _ _ _ _ _ C xw∧_:=hC;obtain ⟨E1,u1,n1,E2,u2,n2,E3,u3,n3,E4,u4,n4,E5,u5,n5,E6,u6,n6,E7,u7,n7,rfl,rfl,rfl,rfl,rfl,rfl,rfl⟩:=CkAt.caps hc1;refine wp_store_row rfl 30 (.tmp 3) (.tmp 140) rfl rfl X #[.slice E1 u1 n1,.slice E2 u2 n2,.slice E3 u3 n3,.slice E4 u4 n4,.slice E5 u5 n5,.slice E6 u6 n6,.slice E7 u7 n7] rfl rfl 30 _ hC'.1.box ck_size rfl (ck_one _ _ _ _ _ _ _ _ _ _ _ _ _ _ _ _ _ _ _ _ _) ?_;exact hK undef _ ⟨_,_,_,_,_,_,_,_,hC'.1.store hI1 hc1⟩ (KeepS.of_setRow _ _ _ (fun h=>h.2.1 rfl)) trivial
    simp only [ly];refine relWalkA_nil ?_;intro wz hD hG;clear hG;go_wp2;go_meet
    case rel=>exact hD
  ·as_aux_lemma=>
    skip
    have hP:=HP.out;obtain ⟨x0,x1,x2,x3,x4,x5,x6⟩:=cs7 hP.box;clear hP
    go_upto_region 33 with (go_at_call 47;go_loud (refine CM (frame_t C _ _ _ _ _ _ _ (Sx S X R none) W _ bt HP.out.at_ (by have:=HP.out.inv.nr;omega) HP.out.tp) ?_);rintro e w2 ⟨n,hn,rfl,hT2,hg2⟩;replace HP:=H_ (HP.out.keep hg2 hT2);clear hT2 hg2)
    clear x0 x1 x2 x3 x4 x5 x6
    rcases hn with rfl | ⟨i,x,rfl,hx,hf⟩
    ·go_wp2;go_meet
     case rel=>exact ⟨_,_,_,_,_,_,_,_,HP.out⟩
    have hi0:(0:Int)<(i:Int)+1:=by omega
    have hP:=HP.out;obtain ⟨x0,x1,x2,x3,x4,x5,x6⟩:=cs7 hP.box;clear hP
    go_wp2_with (first
     | (go_at_call 53;go_loud (refine CM (evict_i C i x _ _ _ _ _ _ _ (Sx S X R none) _ HP.out.at_ HP.out.inv hx hf HP.out.fresh) ?_);rintro e w2 ⟨C1,er,a1,b1,c1,d1,e1,f1,g1,hI1,rfl,hc1,hb⟩;obtain ⟨E1,u1,n1,E2,u2,n2,E3,u3,n3,E4,u4,n4,E5,u5,n5,E6,u6,n6,E7,u7,n7,rfl,rfl,rfl,rfl,rfl,rfl,rfl⟩:=CkAt.caps hc1;have HP2:=H_ (HP.out.step hb))
     | (refine st_ck rfl (.tmp 3) (.tmp 153) rfl rfl X rfl rfl HP2.out.box rfl ?_))
    go_meet
    case rel=>exact ⟨_,_,_,_,_,_,_,_,HP2.out.store hI1 hc1⟩
  ·as_aux_lemma=>
    skip
    have hP:=HP.out;obtain ⟨x0,x1,x2,x3,x4,x5,x6⟩:=cs7 hP.box;clear hP
    go_upto_region 37 with (go_at_call 47;go_loud (refine CM (frame_t C _ _ _ _ _ _ _ (Sx S X R none) W _ bt HP.out.at_ (by have:=HP.out.inv.nr;omega) HP.out.tp) ?_);rintro e w2 ⟨n,hn,rfl,hT2,hg2⟩;replace HP:=H_ (HP.out.keep hg2 hT2);clear hT2 hg2)
    clear x0 x1 x2 x3 x4 x5 x6
    rcases hn with rfl | ⟨i,x,rfl,hx,hf⟩
    ·go_wp2;go_meet
     case rel=>exact ⟨_,_,_,_,_,_,_,_,HP.out⟩
    have hi0:(0:Int)<(i:Int)+1:=by omega
    go_upto_region 38 with fail
    refine wp_region_pc 222 9 (fun i=>decide (i≤7)) [SK.eq (ckV (.slice A1 m1 c1) (.slice A2 m2 c2) (.slice A3 m3 c3) (.slice A4 m4 c4) (.slice A5 m5 c5) (.slice A6 m6 c6) (.slice A7 m7 c7)),SK.eq (.int .i64 ((i:Int)+1)),SK.eq (.pointer (some ⟨bt,0,none⟩)),SK.nat 3,SK.ir (-1) 1,SK.ck2 3 2 2,SK.ck2 3 2 2,SK.ck1 3 2 2,SK.int,SK.any] (by kernel_rfl) (by kernel_rfl) rfl (fun _=>trivial) HP.out ?_;refine rP rfl rfl (fun xw hC hd K hK=>?_) (fun v0=>?_)
    ·have hC':PC 3 2 2 S W w w bt X R none _ _ _ _ _ _ _ C xw∧_:=hC;obtain ⟨x0,x1,x2,x3,x4,x5,x6⟩:=cs7 hC'.1.box;go_simp;exact hK _ _ hC K_ rfl
    simp only [ly];refine rP rfl rfl (fun xw hC hd K hK=>?_) (fun v1=>?_)
    ·skip
     go_simp;exact hK _ _ hC K_ rfl
    simp only [ly];refine rP rfl rfl (fun xw hC hd K hK=>?_) (fun v2=>?_)
    ·skip
     go_simp;exact hK _ _ hC K_ rfl
    simp only [ly];refine rP rfl rfl (fun xw hC hd K hK=>?_) (fun v3=>?_)
    ·obtain rfl:v2=_:=hd 2 (by kernel_rfl);have hC':PC 3 2 2 S W w w bt X R none _ _ _ _ _ _ _ C xw∧_:=hC;go_simp
     go_at_call 7
     refine (next_t _ W xw bt (by omega) (by omega) hC'.1.tp).mono ?_;rintro e w1 ⟨y,rfl,y0,y1,hT,hg⟩;exact hK _ _ ⟨hC'.1.keep hg hT,grownBy_trans hC'.2 hg⟩ (ks_gb hg (fun h=>hn h.1)) ⟨y.toNat,by rw [Int.toNat_of_nonneg y0],by omega⟩
    simp only [ly];refine rP rfl rfl (fun xw hC hd K hK=>?_) (fun v4=>?_)
    ·obtain ⟨k3,rfl,b3⟩:=hd 3 (by kernel_rfl);have hw:=w64 (x:=(k3:Int) - 1) (by omega);go_simp;exact hK _ _ hC K_ ⟨_,rfl,by omega,by omega⟩
    simp only [ly];refine rP rfl rfl (fun xw hC hd K hK=>?_) (fun v5=>?_)
    ·have hC':PC 3 2 2 S W w w bt X R none _ _ _ _ _ _ _ C xw∧_:=hC;obtain rfl:v0=_:=hd 0 (by kernel_rfl);obtain rfl:v1=_:=hd 1 (by kernel_rfl);obtain ⟨k4,rfl,b4,c4⟩:=hd 4 (by kernel_rfl);go_simp
     go_at_call 54
     refine CM (hold_i C i x _ _ _ _ _ _ _ (Sx S X R none) xw hC'.1.at_ hC'.1.inv hx hf hC'.1.fresh k4 ⟨b4,c4⟩) ?_;rintro e w1 ⟨C1,er,a1,b1,c1,d1,e1,f1,g1,hI1,rfl,hc1,hb⟩;exact hK _ _ ⟨hC'.1.step hb,grownBy_trans hC'.2 (gb_of_below hb _)⟩ (KeepS.of_below hb) ⟨C1,a1,b1,c1,d1,e1,f1,g1,er,rfl,hI1,hc1⟩
    simp only [ly];refine rP rfl rfl (fun xw hC hd K hK=>?_) (fun v6=>?_)
    ·obtain ⟨C1,a1,b1,c1,d1,e1,f1,g1,er,ev,hI1,hc1⟩:=hd 5 (by kernel_rfl);obtain rfl:v5=_:=ev;go_simp;exact hK _ _ hC K_ ⟨C1,a1,b1,c1,d1,e1,f1,g1,er,rfl,hI1,hc1⟩
    simp only [ly];refine rP rfl rfl (fun xw hC hd K hK=>?_) (fun v7=>?_)
    ·obtain ⟨C1,a1,b1,c1,d1,e1,f1,g1,er,ev,hI1,hc1⟩:=hd 6 (by kernel_rfl);obtain rfl:v6=_:=ev;go_simp;exact hK _ _ hC K_ ⟨C1,a1,b1,c1,d1,e1,f1,g1,rfl,hI1,hc1⟩
    simp only [ly];refine rA rfl (fun w=>KeepS.refl w) (fun xw hd K hK=>?_) (fun v8=>?_)
    ·obtain ⟨C1,a1,b1,c1,d1,e1,f1,g1,er,ev,hI1,hc1⟩:=hd 6 (by kernel_rfl);obtain rfl:v6=_:=ev;go_simp;exact hK _ ⟨_,rfl⟩
    simp only [ly];refine rS (fun xw hC hd K hK=>?_) (fun v9=>?_)
    ·obtain ⟨C1,a1,b1,c1,d1,e1,f1,g1,ev,hI1,hc1⟩:=hd 7 (by kernel_rfl);obtain rfl:v7=_:=ev;have hC':PC 3 2 2 S W w w bt X R none _ _ _ _ _ _ _ C xw∧_:=hC;obtain ⟨E1,u1,n1,E2,u2,n2,E3,u3,n3,E4,u4,n4,E5,u5,n5,E6,u6,n6,E7,u7,n7,rfl,rfl,rfl,rfl,rfl,rfl,rfl⟩:=CkAt.caps hc1;refine wp_store_row rfl 30 (.tmp 3) (.tmp 169) rfl rfl X #[.slice E1 u1 n1,.slice E2 u2 n2,.slice E3 u3 n3,.slice E4 u4 n4,.slice E5 u5 n5,.slice E6 u6 n6,.slice E7 u7 n7] rfl rfl 30 _ hC'.1.box ck_size rfl (ck_one _ _ _ _ _ _ _ _ _ _ _ _ _ _ _ _ _ _ _ _ _) ?_;exact hK undef _ ⟨_,_,_,_,_,_,_,_,hC'.1.store hI1 hc1⟩ (KeepS.of_setRow _ _ _ (fun h=>h.2.1 rfl)) trivial
    simp only [ly];refine relWalkA_nil ?_;intro wz hD hG;clear hG;go_wp2;go_meet
    case rel=>exact hD
  ·as_aux_lemma=>
    skip
    obtain rfl:=HM1.out;obtain ⟨y,sz,hy,hsz,hs8⟩:=getFile HP.out.inv hfn;obtain ⟨bf,of,cf,r0,ev,_⟩:=HP.out.at_.files.at_ hy;injection ev with ev1 ev2 ev3
    subst ev1 ev3;clear ev2;have hlf:=(g_l hy);have i2:(fn:Int)<(C.files.length:Int):=by omega
    go_upto_region 40 with fail
    refine wp_region_pc 222 20 (fun i=>decide (i≤18)) [SK.eq (ckV (.slice (some ⟨bf,of,none⟩) C.files.length c1) (.slice A2 m2 c2) (.slice A3 m3 c3) (.slice A4 m4 c4) (.slice A5 m5 c5) (.slice A6 m6 c6) (.slice A7 m7 c7)),SK.eq (.int .i64 (fn:Int)),SK.eq (.int .i64 (off:Int)),SK.eq (.pointer (some ⟨bt,0,none⟩)),SK.nat 40,SK.eq (.pointer (some ⟨X,0,none⟩)),SK.eq (.slice (some ⟨bf,of,none⟩) C.files.length c1),SK.eq (.int .i64 (fn:Int)),SK.eq (.pointer (some ⟨bf,of+fn*15,none⟩)),SK.eq (.pointer (some ⟨bf,of+fn*15+6,none⟩)),SK.eq (.int .i64 (sz:Int)),SK.row (fun y=>0≤y∧y≤128) 3,SK.eq (.pointer (some ⟨bt,0,none⟩)),SK.nat 3,SK.rat (fun y=>0≤y∧y≤128),SK.ir 0 128,SK.ck2 3 2 2,SK.ck2 3 2 2,SK.ck1 3 2 2,SK.int,SK.any] (by kernel_rfl) (by kernel_rfl) rfl (fun _=>trivial) HP.out ?_;refine rP rfl rfl (fun xw hC hd K hK=>?_) (fun v0=>?_)
    ·have hC':PC 3 2 2 S W w w bt X R none _ _ _ _ _ _ _ C xw∧_:=hC;obtain ⟨x0,x1,x2,x3,x4,x5,x6⟩:=cs7 hC'.1.box;go_simp;exact hK _ _ hC K_ rfl
    simp only [ly];refine rP rfl rfl (fun xw hC hd K hK=>?_) (fun v1=>?_)
    ·skip
     go_simp;exact hK _ _ hC K_ rfl
    simp only [ly];refine rP rfl rfl (fun xw hC hd K hK=>?_) (fun v2=>?_)
    ·skip
     go_simp;exact hK _ _ hC K_ rfl
    simp only [ly];refine rP rfl rfl (fun xw hC hd K hK=>?_) (fun v3=>?_)
    ·skip
     go_simp;exact hK _ _ hC K_ rfl
    simp only [ly];refine rP rfl rfl (fun xw hC hd K hK=>?_) (fun v4=>?_)
    ·obtain rfl:v3=_:=hd 3 (by kernel_rfl);have hC':PC 3 2 2 S W w w bt X R none _ _ _ _ _ _ _ C xw∧_:=hC;go_simp
     go_at_call 7
     refine (next_t _ W xw bt (by omega) (by omega) hC'.1.tp).mono ?_;rintro e w1 ⟨y,rfl,y0,y1,hT,hg⟩;exact hK _ _ ⟨hC'.1.keep hg hT,grownBy_trans hC'.2 hg⟩ (ks_gb hg (fun h=>hn h.1)) ⟨y.toNat,by rw [Int.toNat_of_nonneg y0],by omega⟩
    simp only [ly];refine rP rfl rfl (fun xw hC hd K hK=>?_) (fun v5=>?_)
    ·skip
     go_simp;exact hK _ _ hC K_ rfl
    simp only [ly];refine rP rfl rfl (fun xw hC hd K hK=>?_) (fun v6=>?_)
    ·obtain rfl:v5=_:=hd 5 (by kernel_rfl);have hC':PC 3 2 2 S W w w bt X R none _ _ _ _ _ _ _ C xw∧_:=hC;have x0:=cs1 hC'.1.box;go_simp;exact hK _ _ hC K_ rfl
    simp only [ly];refine rP rfl rfl (fun xw hC hd K hK=>?_) (fun v7=>?_)
    ·skip
     go_simp;exact hK _ _ hC K_ rfl
    simp only [ly];refine rP rfl rfl (fun xw hC hd K hK=>?_) (fun v8=>?_)
    ·obtain rfl:v6=_:=hd 6 (by kernel_rfl);obtain rfl:v7=_:=hd 7 (by kernel_rfl);go_simp;exact hK _ _ hC K_ rfl
    simp only [ly];refine rP rfl rfl (fun xw hC hd K hK=>?_) (fun v9=>?_)
    ·obtain rfl:v8=_:=hd 8 (by kernel_rfl);go_simp;exact hK _ _ hC K_ rfl
    simp only [ly];refine rP rfl rfl (fun xw hC hd K hK=>?_) (fun v10=>?_)
    ·obtain rfl:v9=_:=hd 9 (by kernel_rfl);have hC':PC 3 2 2 S W w w bt X R none _ _ _ _ _ _ _ C xw∧_:=hC;obtain ⟨_,_,r,⟨h',A',cap',_,_,_,_,rfl⟩,hcs⟩:=LA.cells hC'.1.at_.files hy;have l6:=hcs 6 _ rfl;rw [hsz] at l6;clear hcs;go_simp;exact hK _ _ hC K_ rfl
    simp only [ly];refine rP rfl rfl (fun xw hC hd K hK=>?_) (fun v11=>?_)
    ·have hC':PC 3 2 2 S W w w bt X R none _ _ _ _ _ _ _ C xw∧_:=hC;obtain rfl:v2=_:=hd 2 (by kernel_rfl);obtain ⟨k4,rfl,b4⟩:=hd 4 (by kernel_rfl);obtain rfl:v10=_:=hd 10 (by kernel_rfl);go_simp;exact hK _ _ ⟨hC'.1.step (bl_alloc B_ _),grownBy_trans hC'.2 (World.grownBy_alloc _ _ _)⟩ (KeepS.of_alloc _ _) ⟨_,_,[(off:Int),(k4:Int),(sz:Int)],rfl,rfl,(fun y hy=>trunc_ok y hy (by omega) (by omega) (by omega)),hC'.1.fresh _ (Nat.le_refl _),by simp,heap_alloc_new _ _⟩
    simp only [ly];refine rP rfl rfl (fun xw hC hd K hK=>?_) (fun v12=>?_)
    ·skip
     go_simp;exact hK _ _ hC K_ rfl
    simp only [ly];refine rP rfl rfl (fun xw hC hd K hK=>?_) (fun v13=>?_)
    ·obtain rfl:v12=_:=hd 12 (by kernel_rfl);have hC':PC 3 2 2 S W w w bt X R none _ _ _ _ _ _ _ C xw∧_:=hC;go_simp
     go_at_call 7
     refine (next_t _ W xw bt (by omega) (by omega) hC'.1.tp).mono ?_;rintro e w1 ⟨y,rfl,y0,y1,hT,hg⟩;exact hK _ _ ⟨hC'.1.keep hg hT,grownBy_trans hC'.2 hg⟩ (ks_gb hg (fun h=>hn h.1)) ⟨y.toNat,by rw [Int.toNat_of_nonneg y0],by omega⟩
    simp only [ly];refine rP rfl rfl (fun xw hC hd K hK=>?_) (fun v14=>?_)
    ·obtain ⟨gg,t,l,rfl,hl,hp,hS,hlt,hg⟩:=hd 11 (by kernel_rfl);obtain ⟨k,rfl,hk⟩:=hd 13 (by kernel_rfl);have hk':(k:Int)<3:=by omega
     have hcl:=rowc hg (i:=k) (by omega);go_simp;exact hK _ _ hC K_ ⟨gg,k,l[k]'(by omega),rfl,hp (l[k]'(by omega)) (List.getElem_mem _),hS,hlt,hcl⟩
    simp only [ly];refine rP rfl rfl (fun xw hC hd K hK=>?_) (fun v15=>?_)
    ·obtain ⟨gg,i',y,rfl,hp,hS,hlt,hcl⟩:=hd 14 (by kernel_rfl);go_simp;exact hK _ _ hC K_ ⟨_,rfl,hp.1,hp.2⟩
    simp only [ly];refine rP rfl rfl (fun xw hC hd K hK=>?_) (fun v16=>?_)
    ·have hC':PC 3 2 2 S W w w bt X R none _ _ _ _ _ _ _ C xw∧_:=hC;obtain rfl:v0=_:=hd 0 (by kernel_rfl);obtain rfl:v1=_:=hd 1 (by kernel_rfl);obtain ⟨k15,rfl,b15,c15⟩:=hd 15 (by kernel_rfl);obtain ⟨sn,rfl⟩:=Int.eq_ofNat_of_zero_le b15;go_simp
     go_at_call 55
     refine CM (truncate_i C fn _ _ _ _ _ _ _ (Sx S X R none) xw hC'.1.at_ hC'.1.inv hfn hC'.1.fresh sn (by omega)) ?_;rintro e w1 ⟨C1,er,a1,b1,c1,d1,e1,f1,g1,hI1,rfl,hc1,hb⟩;exact hK _ _ ⟨hC'.1.step hb,grownBy_trans hC'.2 (gb_of_below hb _)⟩ (KeepS.of_below hb) ⟨C1,a1,b1,c1,d1,e1,f1,g1,er,rfl,hI1,hc1⟩
    simp only [ly];refine rP rfl rfl (fun xw hC hd K hK=>?_) (fun v17=>?_)
    ·obtain ⟨C1,a1,b1,c1,d1,e1,f1,g1,er,ev,hI1,hc1⟩:=hd 16 (by kernel_rfl);obtain rfl:v16=_:=ev;go_simp;exact hK _ _ hC K_ ⟨C1,a1,b1,c1,d1,e1,f1,g1,er,rfl,hI1,hc1⟩
    simp only [ly];refine rP rfl rfl (fun xw hC hd K hK=>?_) (fun v18=>?_)
    ·obtain ⟨C1,a1,b1,c1,d1,e1,f1,g1,er,ev,hI1,hc1⟩:=hd 17 (by kernel_rfl);obtain rfl:v17=_:=ev;go_simp;exact hK _ _ hC K_ ⟨C1,a1,b1,c1,d1,e1,f1,g1,rfl,hI1,hc1⟩
    simp only [ly];refine rA rfl (fun w=>KeepS.refl w) (fun xw hd K hK=>?_) (fun v19=>?_)
    ·obtain ⟨C1,a1,b1,c1,d1,e1,f1,g1,er,ev,hI1,hc1⟩:=hd 17 (by kernel_rfl);obtain rfl:v17=_:=ev;go_simp;exact hK _ ⟨_,rfl⟩
    simp only [ly];refine rS (fun xw hC hd K hK=>?_) (fun v20=>?_)
    ·obtain ⟨C1,a1,b1,c1,d1,e1,f1,g1,ev,hI1,hc1⟩:=hd 18 (by kernel_rfl);obtain rfl:v18=_:=ev;have hC':PC 3 2 2 S W w w bt X R none _ _ _ _ _ _ _ C xw∧_:=hC;obtain ⟨E1,u1,n1,E2,u2,n2,E3,u3,n3,E4,u4,n4,E5,u5,n5,E6,u6,n6,E7,u7,n7,rfl,rfl,rfl,rfl,rfl,rfl,rfl⟩:=CkAt.caps hc1;refine wp_store_row rfl 30 (.tmp 3) (.tmp 191) rfl rfl X #[.slice E1 u1 n1,.slice E2 u2 n2,.slice E3 u3 n3,.slice E4 u4 n4,.slice E5 u5 n5,.slice E6 u6 n6,.slice E7 u7 n7] rfl rfl 30 _ hC'.1.box ck_size rfl (ck_one _ _ _ _ _ _ _ _ _ _ _ _ _ _ _ _ _ _ _ _ _) ?_;exact hK undef _ ⟨_,_,_,_,_,_,_,_,hC'.1.store hI1 hc1⟩ (KeepS.of_setRow _ _ _ (fun h=>h.2.1 rfl)) trivial
    simp only [ly];refine relWalkA_nil ?_;intro wz hD hG;clear hG;go_wp2;go_meet
    case rel=>exact hD
  ·as_aux_lemma=>
    go_upto_region 42 with fail
    refine wp_region_pc 222 10 (fun i=>decide (i≤8)) [SK.eq (ckV (.slice A1 m1 c1) (.slice A2 m2 c2) (.slice A3 m3 c3) (.slice A4 m4 c4) (.slice A5 m5 c5) (.slice A6 m6 c6) (.slice A7 m7 c7)),SK.eq (.int .i64 (fn:Int)),SK.eq (.pointer (some ⟨bt,0,none⟩)),SK.nat 40,SK.eq (.pointer (some ⟨bt,0,none⟩)),SK.nat 40,SK.ck2 3 2 2,SK.ck2 3 2 2,SK.ck1 3 2 2,SK.int,SK.any] (by kernel_rfl) (by kernel_rfl) rfl (fun _=>trivial) HP.out ?_;refine rP rfl rfl (fun xw hC hd K hK=>?_) (fun v0=>?_)
    ·have hC':PC 3 2 2 S W w w bt X R none _ _ _ _ _ _ _ C xw∧_:=hC;obtain ⟨x0,x1,x2,x3,x4,x5,x6⟩:=cs7 hC'.1.box;go_simp;exact hK _ _ hC K_ rfl
    simp only [ly];refine rP rfl rfl (fun xw hC hd K hK=>?_) (fun v1=>?_)
    ·skip
     go_simp;exact hK _ _ hC K_ rfl
    simp only [ly];refine rP rfl rfl (fun xw hC hd K hK=>?_) (fun v2=>?_)
    ·skip
     go_simp;exact hK _ _ hC K_ rfl
    simp only [ly];refine rP rfl rfl (fun xw hC hd K hK=>?_) (fun v3=>?_)
    ·obtain rfl:v2=_:=hd 2 (by kernel_rfl);have hC':PC 3 2 2 S W w w bt X R none _ _ _ _ _ _ _ C xw∧_:=hC;go_simp
     go_at_call 7
     refine (next_t _ W xw bt (by omega) (by omega) hC'.1.tp).mono ?_;rintro e w1 ⟨y,rfl,y0,y1,hT,hg⟩;exact hK _ _ ⟨hC'.1.keep hg hT,grownBy_trans hC'.2 hg⟩ (ks_gb hg (fun h=>hn h.1)) ⟨y.toNat,by rw [Int.toNat_of_nonneg y0],by omega⟩
    simp only [ly];refine rP rfl rfl (fun xw hC hd K hK=>?_) (fun v4=>?_)
    ·skip
     go_simp;exact hK _ _ hC K_ rfl
    simp only [ly];refine rP rfl rfl (fun xw hC hd K hK=>?_) (fun v5=>?_)
    ·obtain rfl:v4=_:=hd 4 (by kernel_rfl);have hC':PC 3 2 2 S W w w bt X R none _ _ _ _ _ _ _ C xw∧_:=hC;go_simp
     go_at_call 7
     refine (next_t _ W xw bt (by omega) (by omega) hC'.1.tp).mono ?_;rintro e w1 ⟨y,rfl,y0,y1,hT,hg⟩;exact hK _ _ ⟨hC'.1.keep hg hT,grownBy_trans hC'.2 hg⟩ (ks_gb hg (fun h=>hn h.1)) ⟨y.toNat,by rw [Int.toNat_of_nonneg y0],by omega⟩
    simp only [ly];refine rP rfl rfl (fun xw hC hd K hK=>?_) (fun v6=>?_)
    ·have hC':PC 3 2 2 S W w w bt X R none _ _ _ _ _ _ _ C xw∧_:=hC;obtain rfl:v0=_:=hd 0 (by kernel_rfl);obtain rfl:v1=_:=hd 1 (by kernel_rfl);obtain ⟨k3,rfl,b3⟩:=hd 3 (by kernel_rfl);obtain ⟨k5,rfl,b5⟩:=hd 5 (by kernel_rfl);go_simp
     go_at_call 56
     refine CM (punch_i C fn _ _ _ _ _ _ _ (Sx S X R none) xw hC'.1.at_ hC'.1.inv hfn hC'.1.fresh k3 k5 (by omega)) ?_;rintro e w1 ⟨C1,er,a1,b1,c1,d1,e1,f1,g1,hI1,rfl,hc1,hb⟩;exact hK _ _ ⟨hC'.1.step hb,grownBy_trans hC'.2 (gb_of_below hb _)⟩ (KeepS.of_below hb) ⟨C1,a1,b1,c1,d1,e1,f1,g1,er,rfl,hI1,hc1⟩
    simp only [ly];refine rP rfl rfl (fun xw hC hd K hK=>?_) (fun v7=>?_)
    ·obtain ⟨C1,a1,b1,c1,d1,e1,f1,g1,er,ev,hI1,hc1⟩:=hd 6 (by kernel_rfl);obtain rfl:v6=_:=ev;go_simp;exact hK _ _ hC K_ ⟨C1,a1,b1,c1,d1,e1,f1,g1,er,rfl,hI1,hc1⟩
    simp only [ly];refine rP rfl rfl (fun xw hC hd K hK=>?_) (fun v8=>?_)
    ·obtain ⟨C1,a1,b1,c1,d1,e1,f1,g1,er,ev,hI1,hc1⟩:=hd 7 (by kernel_rfl);obtain rfl:v7=_:=ev;go_simp;exact hK _ _ hC K_ ⟨C1,a1,b1,c1,d1,e1,f1,g1,rfl,hI1,hc1⟩
    simp only [ly];refine rA rfl (fun w=>KeepS.refl w) (fun xw hd K hK=>?_) (fun v9=>?_)
    ·obtain ⟨C1,a1,b1,c1,d1,e1,f1,g1,er,ev,hI1,hc1⟩:=hd 7 (by kernel_rfl);obtain rfl:v7=_:=ev;go_simp;exact hK _ ⟨_,rfl⟩
    simp only [ly];refine rS (fun xw hC hd K hK=>?_) (fun v10=>?_)
    ·obtain ⟨C1,a1,b1,c1,d1,e1,f1,g1,ev,hI1,hc1⟩:=hd 8 (by kernel_rfl);obtain rfl:v8=_:=ev;have hC':PC 3 2 2 S W w w bt X R none _ _ _ _ _ _ _ C xw∧_:=hC;obtain ⟨E1,u1,n1,E2,u2,n2,E3,u3,n3,E4,u4,n4,E5,u5,n5,E6,u6,n6,E7,u7,n7,rfl,rfl,rfl,rfl,rfl,rfl,rfl⟩:=CkAt.caps hc1;refine wp_store_row rfl 30 (.tmp 3) (.tmp 203) rfl rfl X #[.slice E1 u1 n1,.slice E2 u2 n2,.slice E3 u3 n3,.slice E4 u4 n4,.slice E5 u5 n5,.slice E6 u6 n6,.slice E7 u7 n7] rfl rfl 30 _ hC'.1.box ck_size rfl (ck_one _ _ _ _ _ _ _ _ _ _ _ _ _ _ _ _ _ _ _ _ _) ?_;exact hK undef _ ⟨_,_,_,_,_,_,_,_,hC'.1.store hI1 hc1⟩ (KeepS.of_setRow _ _ _ (fun h=>h.2.1 rfl)) trivial
    simp only [ly];refine relWalkA_nil ?_;intro wz hD hG;clear hG;go_wp2;go_meet
    case rel=>exact hD
  ·as_aux_lemma=>
    go_upto_region 44 with fail
    refine wp_region_pc 222 14 (fun i=>decide (i≤12)) [SK.eq (ckV (.slice A1 m1 c1) (.slice A2 m2 c2) (.slice A3 m3 c3) (.slice A4 m4 c4) (.slice A5 m5 c5) (.slice A6 m6 c6) (.slice A7 m7 c7)),SK.eq (.pointer (some ⟨bt,0,none⟩)),SK.nat 2,SK.eq (.pointer (some ⟨bt,0,none⟩)),SK.nat 6,SK.eq (.int .i64 (fn:Int)),SK.eq (.int .i64 (pn:Int)),SK.eq (.pointer (some ⟨bt,0,none⟩)),SK.nat 2,SK.bl,SK.ck2 3 2 2,SK.ck2 3 2 2,SK.ck1 3 2 2,SK.int,SK.any] (by kernel_rfl) (by kernel_rfl) rfl (fun _=>trivial) HP.out ?_;refine rP rfl rfl (fun xw hC hd K hK=>?_) (fun v0=>?_)
    ·have hC':PC 3 2 2 S W w w bt X R none _ _ _ _ _ _ _ C xw∧_:=hC;obtain ⟨x0,x1,x2,x3,x4,x5,x6⟩:=cs7 hC'.1.box;go_simp;exact hK _ _ hC K_ rfl
    simp only [ly];refine rP rfl rfl (fun xw hC hd K hK=>?_) (fun v1=>?_)
    ·skip
     go_simp;exact hK _ _ hC K_ rfl
    simp only [ly];refine rP rfl rfl (fun xw hC hd K hK=>?_) (fun v2=>?_)
    ·obtain rfl:v1=_:=hd 1 (by kernel_rfl);have hC':PC 3 2 2 S W w w bt X R none _ _ _ _ _ _ _ C xw∧_:=hC;go_simp
     go_at_call 7
     refine (next_t _ W xw bt (by omega) (by omega) hC'.1.tp).mono ?_;rintro e w1 ⟨y,rfl,y0,y1,hT,hg⟩;exact hK _ _ ⟨hC'.1.keep hg hT,grownBy_trans hC'.2 hg⟩ (ks_gb hg (fun h=>hn h.1)) ⟨y.toNat,by rw [Int.toNat_of_nonneg y0],by omega⟩
    simp only [ly];refine rP rfl rfl (fun xw hC hd K hK=>?_) (fun v3=>?_)
    ·skip
     go_simp;exact hK _ _ hC K_ rfl
    simp only [ly];refine rP rfl rfl (fun xw hC hd K hK=>?_) (fun v4=>?_)
    ·obtain rfl:v3=_:=hd 3 (by kernel_rfl);have hC':PC 3 2 2 S W w w bt X R none _ _ _ _ _ _ _ C xw∧_:=hC;go_simp
     go_at_call 7
     refine (next_t _ W xw bt (by omega) (by omega) hC'.1.tp).mono ?_;rintro e w1 ⟨y,rfl,y0,y1,hT,hg⟩;exact hK _ _ ⟨hC'.1.keep hg hT,grownBy_trans hC'.2 hg⟩ (ks_gb hg (fun h=>hn h.1)) ⟨y.toNat,by rw [Int.toNat_of_nonneg y0],by omega⟩
    simp only [ly];refine rP rfl rfl (fun xw hC hd K hK=>?_) (fun v5=>?_)
    ·skip
     go_simp;exact hK _ _ hC K_ rfl
    simp only [ly];refine rP rfl rfl (fun xw hC hd K hK=>?_) (fun v6=>?_)
    ·skip
     go_simp;exact hK _ _ hC K_ rfl
    simp only [ly];refine rP rfl rfl (fun xw hC hd K hK=>?_) (fun v7=>?_)
    ·skip
     go_simp;exact hK _ _ hC K_ rfl
    simp only [ly];refine rP rfl rfl (fun xw hC hd K hK=>?_) (fun v8=>?_)
    ·obtain rfl:v7=_:=hd 7 (by kernel_rfl);have hC':PC 3 2 2 S W w w bt X R none _ _ _ _ _ _ _ C xw∧_:=hC;go_simp
     go_at_call 7
     refine (next_t _ W xw bt (by omega) (by omega) hC'.1.tp).mono ?_;rintro e w1 ⟨y,rfl,y0,y1,hT,hg⟩;exact hK _ _ ⟨hC'.1.keep hg hT,grownBy_trans hC'.2 hg⟩ (ks_gb hg (fun h=>hn h.1)) ⟨y.toNat,by rw [Int.toNat_of_nonneg y0],by omega⟩
    simp only [ly];refine rP rfl rfl (fun xw hC hd K hK=>?_) (fun v9=>?_)
    ·obtain ⟨k8,rfl,b8⟩:=hd 8 (by kernel_rfl);go_simp;exact hK _ _ hC K_ ⟨_,rfl⟩
    simp only [ly];refine rP rfl rfl (fun xw hC hd K hK=>?_) (fun v10=>?_)
    ·have hC':PC 3 2 2 S W w w bt X R none _ _ _ _ _ _ _ C xw∧_:=hC;obtain rfl:v0=_:=hd 0 (by kernel_rfl);obtain ⟨k2,rfl,b2⟩:=hd 2 (by kernel_rfl);obtain ⟨k4,rfl,b4⟩:=hd 4 (by kernel_rfl);obtain rfl:v5=_:=hd 5 (by kernel_rfl);obtain rfl:v6=_:=hd 6 (by kernel_rfl);obtain ⟨k9,rfl⟩:=hd 9 (by kernel_rfl);go_simp
     go_at_call 57
     refine CM (enter_i C fn _ _ _ _ _ _ _ (Sx S X R none) xw hC'.1.at_ hC'.1.inv hfn hC'.1.fresh k2 k4 pn k9 (by omega) (by omega) hpn) ?_;rintro e w1 ⟨C1,er,a1,b1,c1,d1,e1,f1,g1,hI1,rfl,hc1,hb⟩;exact hK _ _ ⟨hC'.1.step hb,grownBy_trans hC'.2 (gb_of_below hb _)⟩ (KeepS.of_below hb) ⟨C1,a1,b1,c1,d1,e1,f1,g1,er,rfl,hI1,hc1⟩
    simp only [ly];refine rP rfl rfl (fun xw hC hd K hK=>?_) (fun v11=>?_)
    ·obtain ⟨C1,a1,b1,c1,d1,e1,f1,g1,er,ev,hI1,hc1⟩:=hd 10 (by kernel_rfl);obtain rfl:v10=_:=ev;go_simp;exact hK _ _ hC K_ ⟨C1,a1,b1,c1,d1,e1,f1,g1,er,rfl,hI1,hc1⟩
    simp only [ly];refine rP rfl rfl (fun xw hC hd K hK=>?_) (fun v12=>?_)
    ·obtain ⟨C1,a1,b1,c1,d1,e1,f1,g1,er,ev,hI1,hc1⟩:=hd 11 (by kernel_rfl);obtain rfl:v11=_:=ev;go_simp;exact hK _ _ hC K_ ⟨C1,a1,b1,c1,d1,e1,f1,g1,rfl,hI1,hc1⟩
    simp only [ly];refine rA rfl (fun w=>KeepS.refl w) (fun xw hd K hK=>?_) (fun v13=>?_)
    ·obtain ⟨C1,a1,b1,c1,d1,e1,f1,g1,er,ev,hI1,hc1⟩:=hd 11 (by kernel_rfl);obtain rfl:v11=_:=ev;go_simp;exact hK _ ⟨_,rfl⟩
    simp only [ly];refine rS (fun xw hC hd K hK=>?_) (fun v14=>?_)
    ·obtain ⟨C1,a1,b1,c1,d1,e1,f1,g1,ev,hI1,hc1⟩:=hd 12 (by kernel_rfl);obtain rfl:v12=_:=ev;have hC':PC 3 2 2 S W w w bt X R none _ _ _ _ _ _ _ C xw∧_:=hC;obtain ⟨E1,u1,n1,E2,u2,n2,E3,u3,n3,E4,u4,n4,E5,u5,n5,E6,u6,n6,E7,u7,n7,rfl,rfl,rfl,rfl,rfl,rfl,rfl⟩:=CkAt.caps hc1;refine wp_store_row rfl 30 (.tmp 3) (.tmp 219) rfl rfl X #[.slice E1 u1 n1,.slice E2 u2 n2,.slice E3 u3 n3,.slice E4 u4 n4,.slice E5 u5 n5,.slice E6 u6 n6,.slice E7 u7 n7] rfl rfl 30 _ hC'.1.box ck_size rfl (ck_one _ _ _ _ _ _ _ _ _ _ _ _ _ _ _ _ _ _ _ _ _) ?_;exact hK undef _ ⟨_,_,_,_,_,_,_,_,hC'.1.store hI1 hc1⟩ (KeepS.of_setRow _ _ _ (fun h=>h.2.1 rfl)) trivial
    simp only [ly];refine relWalkA_nil ?_;intro wz hD hG;clear hG;go_wp2;go_meet
    case rel=>exact hD
 case rest=>
  clear HP HM1 HM2;obtain ⟨a',b',c',d',e',f',g',C',hP⟩:=hcut;obtain ⟨E1,u1,n1,E2,u2,n2,E3,u3,n3,E4,u4,n4,E5,u5,n5,E6,u6,n6,E7,u7,n7,rfl,rfl,rfl,rfl,rfl,rfl,rfl⟩:=CkAt.caps hP.at_;have HP:=H_ hP;clear hP;have hP:=HP.out;obtain ⟨x0,x1,x2,x3,x4,x5,x6⟩:=cs7 hP.box;clear hP
  go_wp2_with (refine st_ck rfl (.tmp 4) (.tmp 221) rfl rfl R rfl rfl HP.out.res rfl ?_)
  show bodyPost Tryz.prog Tryz.f25 _ _ _ _
  refine bodyPost_ret (ck_res rfl _ _ R _ _ _ _ _ _ _ _ _ rfl (setRow_heap _ _ _ _ _ _ HP.out.res)) rfl ?_;obtain ⟨q1,q2,q3⟩:=HP.out.done;exact ⟨C',_,_,_,_,_,_,_,HP.out.inv,rfl,q1,q2,q3⟩
end
end Go.Proofs.YthhekebemmckcaaGreatDoor
