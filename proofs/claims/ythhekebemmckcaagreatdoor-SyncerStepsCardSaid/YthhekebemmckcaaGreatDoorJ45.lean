/-
  Lemmas and contracts for the laws of synchronisations (layer 43), part 45; several texts joined by a program.
-/
import Derived.Test.YthhekebemmckcaaGreatDoorJ01
import Derived.Test.YthhekebemmckcaaGreatDoorJ16
import Derived.Test.YthhekebemmckcaaGreatDoorJ44
namespace Go.Proofs.YthhekebemmckcaaGreatDoor
set_option linter.unusedVariables false
set_option linter.unusedSimpArgs false
set_option maxRecDepth 100000
set_option maxHeartbeats 16000000
open Go.RowKit
section
theorem syncerSteps_walk (a0:Option Addr) (len0 cap0:Nat) (z0:List Int) (a1:Option Addr) (len1 cap1:Nat) (z1:List Int) (w:World) (w0:IsRow .i64 w a0 len0 cap0 z0) (w1:IsRow .i64 w a1 len1 cap1 z1) (hbt:BitsAt w) :
  Calls Tryz.prog 3 #[.slice a0 len0 cap0,.slice a1 len1 cap1] w fun e w'=>e = .returned (.bool true)∧Below w.heap.size w w':=by
 have HT:=H_ (Tp.start w0);have HR1:=H_ w1;have HBT:=H_ (fun w' (hb:Below w.heap.size w w')=>hbt.step hb);clear w0 w1 hbt;go_enter Tryz.func3,Tryz.ntmps3
 go_upto_region 1 with fail
 go_cut [5] (fun s5 wx=>∃X a b c d e f g C,s5 = .pointer (some ⟨X,0,none⟩)∧w.heap.size≤X∧Inv 3 2 2 C∧CS w.heap.size X a b c d e f g C wx∧Below w.heap.size w wx)
 case first=>
  go_wp2_with (first
   | (go_at_call 6;go_loud (refine CM (cache_t w _ _ HT.out) ?_);rintro e w3 ⟨C,a1,b1,c1,d1,e1,f1,g1,hI,rfl,hc1,hT3,hg3⟩;obtain ⟨E1,uu1,n1,E2,uu2,n2,E3,uu3,n3,E4,uu4,n4,E5,uu5,n5,E6,uu6,n6,E7,uu7,n7,rfl,rfl,rfl,rfl,rfl,rfl,rfl⟩:=CkAt.caps hc1;have HC3:=H_ hc1;have HT3:=H_ hT3;have HI:=H_ hI;have HZ:=H_ (heap_at_new w3 (oCZ) w3.heap.size rfl);clear hc1 hT3 hI hg3)
   | (refine st_ck rfl (.tmp 5) (.tmp 22) rfl rfl w3.heap.size rfl rfl HZ.out rfl ?_))
  go_meet
  case rel=>exact ⟨w3.heap.size,_,_,_,_,_,_,_,C,rfl,by have:=HT3.out.lt;omega,HI.out,CS.new HC3.out HT3.out.lt,HT3.out.below.trans ((bl_new _ _).mono (by have:=HT3.out.below.size;omega))⟩
 case rest=>
  clear HT;obtain ⟨X,a,b,c,d,e,f,g,C,rfl,hX,hI,hc,hb⟩:=hcut;have HI:=H_ hI;have HC:=H_ hc;have HB:=H_ hb;clear hI hc hb
  go_upto_region 2 with fail
  go_cut [6] (fun s6 wx=>∃t,s6 = .pointer (some ⟨t,0,none⟩)∧TpP w t wx∧CS t X a b c d e f g C wx)
  case first=>
   go_wp2;go_meet
   case rel=>exact ⟨wc.heap.size,rfl,TpP.start HR1.out HB.out,HC.out.retape _⟩
  case rest=>
   clear HC HB HR1;obtain ⟨t,rfl,hT,hc⟩:=hcut;obtain ⟨E1,uu1,n1,E2,uu2,n2,E3,uu3,n3,E4,uu4,n4,E5,uu5,n5,E6,uu6,n6,E7,uu7,n7,rfl,rfl,rfl,rfl,rfl,rfl,rfl⟩:=CkAt.caps hc.a;have HT:=H_ hT;have HC:=H_ hc;clear hT hc
   go_upto_region 3 with fail
   go_cut [7] (fun s7 wx=>∃fi:Int,s7 = .int .i64 fi∧TpP w t wx∧CS t X (.slice E1 uu1 n1) (.slice E2 uu2 n2) (.slice E3 uu3 n3) (.slice E4 uu4 n4) (.slice E5 uu5 n5) (.slice E6 uu6 n6) (.slice E7 uu7 n7) C wx)
   case first=>
    go_wp2_with (go_at_call 7;go_loud (refine CM (next_p 5 w _ t (by omega) (by omega) HT.out) ?_);rintro e w3 ⟨x,rfl,q0,q1,hT3,hg3⟩)
    go_meet
    case rel=>exact ⟨_,rfl,hT3,HC.out.keep hg3⟩
   case rest=>
    clear HT HC;obtain ⟨fi,rfl,hT,hc⟩:=hcut;have HT:=H_ hT;have HC:=H_ hc;clear hT hc;have hst:=pStartA_w C fi _ _ _ _ _ _ _ (fun z=>z≠t) wc HC.out.arg HI.out (HBT.out _ HT.out.2.1) (fun z hz=>by have:=HT.out.lt;omega);obtain ⟨x0,x1,x2,x3,x4,x5,x6⟩:=cs7 HC.out.x
    go_upto_region 4 with fail
    go_cut [8,9] (fun s8 s9 wx=>∃A v1 v2,s8 = .pointer (some ⟨A,0,none⟩)∧s9 = .int .i64 (stE C fi)∧BP (fun z=>z≠t) A v1 v2 (stS C fi) wx∧A≠t∧TpP w t wx∧CS t X (.slice E1 uu1 n1) (.slice E2 uu2 n2) (.slice E3 uu3 n3) (.slice E4 uu4 n4) (.slice E5 uu5 n5) (.slice E6 uu6 n6) (.slice E7 uu7 n7) C wx)
    case first=>
     have htw:=HT.out.lt
     go_wp2_with (first
      | (go_at_call 8;go_loud (refine CM (hst) ?_);rintro e w7 ⟨v1',v2',rfl,ha7,hb7⟩;obtain ⟨B1,m1',c1',rfl⟩:=ha7.t.cap;obtain ⟨B2,m2',c2',rfl⟩:=ha7.g.cap;have HA7:=H_ ha7;have HB7:=H_ hb7;clear ha7 hb7;have HZ:=H_ (heap_at_new w7 (oSZ) w7.heap.size rfl))
      | (refine st_sy rfl (.tmp 8) (.tmp 33) rfl rfl w7.heap.size rfl rfl HZ.out rfl ?_))
     go_meet
     case rel=>exact ⟨w7.heap.size,_,_,rfl,rfl,BP.new HA7.out (fun z hz h=>h),by have:=HB7.out.size;omega,(HT.out.step HB7.out).step (bl_new _ _),(HC.out.step HB7.out).step (bl_new _ _)⟩
    case rest=>
     clear HT HC x0 x1 x2 x3 x4 x5 x6 hst;obtain ⟨A,v1,v2,rfl,rfl,ha,hat,hT,hc⟩:=hcut;have HA:=H_ ha;have HT:=H_ hT;have HC:=H_ hc;clear ha hT hc;have hst:=rStartA_w C fi _ _ _ _ _ _ _ (fun z=>z≠t) wc HC.out.arg HI.out (fun z hz=>by have:=HT.out.lt;omega);obtain ⟨x0,x1,x2,x3,x4,x5,x6⟩:=cs7 HC.out.x
     go_upto_region 5 with fail
     go_cut [10,11] (fun s10 s11 wx=>∃Y u1 u2,s10 = .pointer (some ⟨Y,0,none⟩)∧s11 = .int .i64 (stE C fi)∧BP (fun z=>z≠t) A v1 v2 (stS C fi) wx∧LB w t Y (fun z=>z≠t∧z≠Y) u1 u2 (stS C fi) wx)
     case first=>
      have htw:=HT.out.lt;have hws:=HT.out.2.1.size
      go_wp2_with (first
       | (go_at_call 9;go_loud (refine CM (hst) ?_);rintro e w7 ⟨v1',v2',rfl,ha7,hb7⟩;obtain ⟨B1,m1',c1',rfl⟩:=ha7.t.cap;obtain ⟨B2,m2',c2',rfl⟩:=ha7.g.cap;have HA7:=H_ ha7;have HB7:=H_ hb7;clear ha7 hb7;have HZ:=H_ (heap_at_new w7 (oSZ) w7.heap.size rfl))
       | (refine st_sy rfl (.tmp 10) (.tmp 39) rfl rfl w7.heap.size rfl rfl HZ.out rfl ?_))
      go_meet
      case rel=>
       have hs7:=HB7.out.size;exact ⟨w7.heap.size,_,_,rfl,rfl,(HA.out.step HB7.out).step (bl_new _ _),BP.new HA7.out (fun z hz h=>⟨h,by omega⟩),(HT.out.step HB7.out).step (bl_new _ _),fun h=>h.1 rfl,fun h=>h.2 rfl,by omega,by omega⟩
     case rest=>
      clear HT HC x0 x1 x2 x3 x4 x5 x6 hst HA HI;obtain ⟨Y,w1,w2,rfl,rfl,ha,hl⟩:=hcut;obtain ⟨A1,m1,c1,rfl⟩:=ha.a.t.cap;obtain ⟨A2,m2,c2,rfl⟩:=ha.a.g.cap;obtain ⟨A3,m3,c3,rfl⟩:=hl.y.a.t.cap;obtain ⟨A4,m4,c4,rfl⟩:=hl.y.a.g.cap;obtain ⟨s,hs⟩:∃s,s=stS C fi:=⟨_,rfl⟩;have HOK:=H_ (show SyOk s by rw [hs];exact stS_ok _ _);rw [←hs] at ha hl;clear hs;obtain ⟨er,her⟩:∃er,er=stE C fi:=⟨_,rfl⟩;rw [←her];clear her;have HA:=H_ ha;have HL:=H_ hl;clear ha hl;have hsm:=rSame_w43 s s _ _ _ _ (fun z=>z≠t) wc HA.out.a (HL.out.y.a.weak (fun z _ h=>h.1));rw [sameS_self] at hsm;have hx:=(HA.out).x;(try dsimp only at hx);obtain ⟨x0,x1,x2,x3,x4,x5⟩:=cs6 hx;clear hx;have hx:=(HL.out.y).x;(try dsimp only at hx);obtain ⟨y0,y1,y2,y3,y4,y5⟩:=cs6 hx;clear hx;have d0:(er != er)=false:=by simp
      go_upto_region 6 with fail
      go_cut [49] (fun s49 wx=>s49 = .bool false∧LB w t Y (fun z=>z≠t∧z≠Y) (.slice A3 m3 c3) (.slice A4 m4 c4) s wx)
      case first=>
       go_wp2_with (go_at_call 10;go_loud (refine CM hsm ?_);rintro e w3 ⟨rfl,hb3⟩)
       go_meet
       case rel=>exact ⟨rfl,HL.out.step hb3⟩
      case rest=>
       clear HL HA x0 x1 x2 x3 x4 x5 y0 y1 y2 y3 y4 y5 d0 hsm;obtain ⟨rfl,hl⟩:=hcut;have HL:=H_ hl;clear hl
       go_upto_region 8 with fail
       go_cut [52] (fun s52 wx=>∃q,s52 = .bool q∧LB w t Y (fun z=>z≠t∧z≠Y) (.slice A3 m3 c3) (.slice A4 m4 c4) s wx)
       case first=>
        go_wp2_with (go_at_call 7;go_loud (refine CM (next_p 6 w _ t (by omega) (by omega) HL.out.tp) ?_);rintro e w3 ⟨x,rfl,q0,q1,hT3,hg3⟩)
        go_meet
        case rel=>exact ⟨_,rfl,HL.out.read hg3 hT3⟩
       case rest=>
        clear HL;obtain ⟨q,rfl,hl⟩:=hcut;have HL:=H_ hl;clear hl
        go_upto_if 52 with fail
        go_cut [] (fun wx=>∃s,SyOk s∧LB w t Y (fun z=>z≠t∧z≠Y) (.slice A3 m3 c3) (.slice A4 m4 c4) s wx)
        case first=>
         cases q with
         | false=>
          go_wp2;go_meet
          case rel=>exact ⟨s,HOK.out,HL.out⟩
         | true=>
          go_wp2_with ((go_at_call 7;go_loud (refine CM (next_p 5 w _ t (by omega) (by omega) HL.out.tp) ?_);rintro e w3 ⟨x,rfl,q0,q1,hT3,hg3⟩);have HL3:=H_ (HL.out.read hg3 hT3);have hx3:=HL3.out.y.x;have y2:=cells_at hx3 2;have f2:=free_at hx3 2;simp only [List.getElem?_toArray,List.getElem?_cons_zero,List.getElem?_cons_succ] at y2;clear hx3)
          go_meet
          case rel=>exact ⟨_,HOK.out.stage x,HL3.out.stage x⟩
        case rest=>
         clear HL HOK;obtain ⟨s,hok,hl⟩:=hcut;have HOK:=H_ hok;have HL:=H_ hl;clear hok hl;go_wp2
         go_loopw [12] (fun s12 wx=>∃(k:Nat) (v1 v2:Value) (s:Sy),s12 = .int .i64 (k:Int)∧k≤12∧SyOk s∧LB w t Y (fun z=>z≠t∧z≠Y) v1 v2 s wx) (fun s12 _=>12 - (intOf s12).toNat)
         case atStart=>exact ⟨0,_,_,s,rfl,by omega,HOK.out,HL.out⟩
         case round=>
          clear HL HOK;obtain ⟨k,v1,v2,s,rfl,hk,hok,hl⟩:=hrel;have HOK:=H_ hok;have HL:=H_ hl;clear hok hl
          by_cases hlt:k<12
          ·go_upto_region 11 with fail
           go_cut [62] (fun s62 wx=>∃q,s62 = .bool q∧LB w t Y (fun z=>z≠t∧z≠Y) v1 v2 s wx)
           case first=>
            go_wp2_with (go_at_call 11;go_loud (refine CM (end_p w _ t HL.out.tp) ?_);rintro e w3 ⟨q,rfl,hb3⟩)
            go_meet
            case rel=>exact ⟨_,rfl,HL.out.step hb3⟩
           case rest=>
            clear HL;obtain ⟨q,rfl,hl⟩:=hcut;have HL:=H_ hl;clear hl
            cases q with
            | false=>
             go_wp2_with (go_at_call 22;go_loud (refine CM (awake_w _ (HBT.out _ HL.out.tp.2.1)) ?_);rintro e w8 ⟨rfl,hb8⟩)
             go_ret;exact ⟨rfl,HL.out.tp.2.1.trans (hb8.mono HL.out.tp.2.1.size)⟩
            | true=>
             go_upto_region 13 with fail
             go_cut [13,14] (fun s13 s14 wx=>∃p er:Int,s13 = .int .i64 p∧s14 = .int .i64 er∧LB w t Y (fun z=>z≠t∧z≠Y) v1 v2 s wx)
             case first=>
              refine wp_region_relC 134 9 (fun i=>decide (i≤8)) (fun _ x=>LB w t Y (fun z=>z≠t∧z≠Y) v1 v2 s x) (fun x y=>x.grownBy y (some t)) (GT (b:=t) [TQ.eq (.pointer (some ⟨t,0,none⟩)),TQ.int 0 10,TQ.some',TQ.row errL 38,TQ.eq (.pointer (some ⟨t,0,none⟩)),TQ.nat 3,TQ.at_ errL 38,TQ.some',TQ.some',TQ.some']) (by kernel_rfl) (by kernel_rfl) rfl (HL.out.step (B_.drew)) (fun x y hr=>GT.keep hr) ?_ ?_
              ·intro i o ho hd
               exfalso
               have hi:=(Array.getElem?_eq_some_iff.1 ho).1;simp at hi;obtain rfl | rfl | rfl | rfl | rfl | rfl | rfl | rfl | rfl | rfl:i=0∨i=1∨i=2∨i=3∨i=4∨i=5∨i=6∨i=7∨i=8∨i=9:=by omega
               all_goals (simp at ho;subst ho;cases hd)
              refine rP rfl rfl (fun xw hC hd K hK=>?_) (fun v0=>?_)
              ·go_simp;exact hK _ _ hC (World.grownBy.refl _ _) rfl
              simp only [ly];refine rP rfl rfl (fun xw hC hd K hK=>?_) (fun v1'=>?_)
              ·obtain rfl:v0=_:=hd 0 (by kernel_rfl);go_simp
               go_at_call 7
               go_loud (refine CM (next_p 10 w _ t (by omega) (by omega) hC.tp) ?_)
               rintro e w3 ⟨x,rfl,q0,q1,hT3,hg3⟩;exact hK _ _ (hC.read hg3 hT3) hg3 ⟨x,rfl,q0,q1⟩
              simp only [ly];refine rP rfl rfl (fun xw hC hd K hK=>?_) (fun v2'=>?_)
              ·obtain ⟨y,rfl,y0,y1⟩:=hd 1 (by kernel_rfl);have hw:=w64 (x:=y - 1) (by omega);go_simp;exact hK _ _ hC (World.grownBy.refl _ _) ⟨_,rfl⟩
              simp only [ly];refine rP rfl rfl (fun xw hC hd K hK=>?_) (fun v3=>?_)
              ·go_simp;exact hK _ _ (hC.step (bl_alloc B_ _)) (World.grownBy_alloc _ _ _) ⟨_,rfl,by have:=hC.tp.lt;omega,heap_alloc_new _ _⟩
              simp only [ly];refine rP rfl rfl (fun xw hC hd K hK=>?_) (fun v4=>?_)
              ·go_simp;exact hK _ _ hC (World.grownBy.refl _ _) rfl
              simp only [ly];refine rP rfl rfl (fun xw hC hd K hK=>?_) (fun v5=>?_)
              ·obtain rfl:v4=_:=hd 4 (by kernel_rfl);go_simp
               go_at_call 7
               go_loud (refine CM (next_p 3 w _ t (by omega) (by omega) hC.tp) ?_)
               rintro e w3 ⟨x,rfl,q0,q1,hT3,hg3⟩;exact hK _ _ (hC.read hg3 hT3) hg3 ⟨x.toNat,by rw [Int.toNat_of_nonneg q0],by omega⟩
              simp only [ly];refine rP rfl rfl (fun xw hC hd K hK=>?_) (fun v6=>?_)
              ·obtain ⟨g,rfl,hn,hlr⟩:=hd 3 (by kernel_rfl);obtain ⟨i,rfl,hi⟩:=hd 5 (by kernel_rfl);have hi':(i:Int)<3:=by omega
               rw [show errL.length=3 from rfl];go_simp;exact hK _ _ hC (World.grownBy.refl _ _) ⟨g,i,rfl,hi,hn,hlr⟩
              simp only [ly];refine rP rfl rfl (fun xw hC hd K hK=>?_) (fun v7=>?_)
              ·obtain ⟨g,i,rfl,hi,hn,hlr⟩:=hd 6 (by kernel_rfl);obtain ⟨y,hy,hcc⟩:=row_at hlr hi;clear hy;go_simp;exact hK _ _ hC (World.grownBy.refl _ _) ⟨_,rfl⟩
              simp only [ly];refine rP rfl rfl (fun xw hC hd K hK=>?_) (fun v8=>?_)
              ·obtain ⟨y,rfl⟩:=hd 2 (by kernel_rfl);go_simp;exact hK _ _ hC (World.grownBy.refl _ _) ⟨_,rfl⟩
              simp only [ly];refine rS (fun xw hC hd K hK=>?_) (fun v9=>?_)
              ·obtain ⟨y,rfl⟩:=hd 7 (by kernel_rfl);go_simp;exact hK _ _ hC (World.grownBy.refl _ _) ⟨_,rfl⟩
              simp only [ly];refine relWalkA_nil ?_;intro wz hD hG;obtain ⟨p,e8⟩:=hG 8 (by decide);obtain rfl:v8=_:=e8;obtain ⟨er,e9⟩:=hG 9 (by decide);obtain rfl:v9=_:=e9;clear hG;go_wp2;go_meet
              case rel=>exact ⟨p,er,rfl,rfl,hD⟩
             case rest=>
              clear HL;obtain ⟨p,er,rfl,rfl,hl⟩:=hcut;obtain ⟨A5,m5,c5,rfl⟩:=hl.y.a.t.cap;obtain ⟨A6,m6,c6,rfl⟩:=hl.y.a.g.cap;have HL:=H_ hl;clear hl
              go_upto_region 14 with fail
              go_cut [15,16] (fun s15 s16 wx=>∃X Z,s15 = .pointer (some ⟨X,0,none⟩)∧s16 = .pointer (some ⟨Z,0,none⟩)∧RX w t Y X Z (fun z=>z≠t∧z≠Y∧z≠X∧z≠Z) (.slice A5 m5 c5) (.slice A6 m6 c6) s wx)
              case first=>
               obtain ⟨n0,hn0⟩:∃n0,n0=wc.heap.size:=⟨_,rfl⟩;have hYn:Y<n0:=by have:=bk_lt HL.out.y.x;omega
               have htn:t<n0:=by have:=HL.out.tp.lt;omega
               have hwn:w.heap.size≤n0:=by have:=HL.out.tp.2.1.size;omega
               have HL0:=H_ (HL.out.weak (Q':=fun z=>z≠t∧z≠Y∧z<n0) (fun z hz h=>⟨h.1,h.2,by omega⟩) (fun h=>h.1 rfl) (fun h=>h.2.1 rfl));have hn1:n0≤wc.heap.size:=by omega
               clear hn0;refine wp_region_relE (Γ:=Option Nat × Option Nat) 134 5 (fun i=>decide (i≤4)) (TwC w t Y n0 (fun z=>z≠t∧z≠Y∧z<n0) (.slice A5 m5 c5) (.slice A6 m6 c6) s) (TwG (.slice A5 m5 c5) (.slice A6 m6 c6) s) (none,none) (by kernel_rfl) (by kernel_rfl) rfl ⟨HL0.out.step (B_.drew),hn1,fun _=>rfl,fun _=>rfl,fun X h=>(by cases h),fun X h=>(by cases h),fun X Z h=>(by cases h)⟩ ?_ ?_
               ·intro i o ho hd g v x hg
                match i,ho,hg with
                | 0,ho,hg=>simp at ho;subst ho;cases hd
                | 1,ho,hg=>simp at ho;subst ho;cases hd
                | 2,ho,hg=>simp at ho;subst ho;cases hd
                | 3,ho,hg=>simp at ho;subst ho;cases hd
                | _+4,_,_=>trivial
               refine rE (fun g d xw hn hp hC hd K hK=>?_) (fun v0=>?_)
               ·have hx:=(hC.b.y).x;(try dsimp only at hx);obtain ⟨x0,x1,x2,x3,x4,x5⟩:=cs6 hx;clear hx;go_simp;exact hK g _ xw (hC.pure 0 rfl rfl) (fun _ _ h=>h) rfl
               simp only [ly];refine rE (fun g d xw hn hp hC hd K hK=>?_) (fun v1'=>?_)
               ·have hx:=(hC.b.y).x;(try dsimp only at hx);obtain ⟨x0,x1,x2,x3,x4,x5⟩:=cs6 hx;clear hx;go_simp;exact hK g _ xw (hC.pure 1 rfl rfl) (fun _ _ h=>h) rfl
               simp only [ly];refine rE (fun g d xw hn hp hC hd K hK=>?_) (fun v2'=>?_)
               ·have hna:=hC.na hn;go_simp;exact hK (some xw.heap.size,g.2) _ _ hC.mk1 (TwG.mk1 hna) ⟨_,rfl,rfl⟩
               simp only [ly];refine rE (fun g d xw hn hp hC hd K hK=>?_) (fun v3=>?_)
               ·have hnb:=hC.nb hn;go_simp;exact hK (g.1,some xw.heap.size) _ _ hC.mk2 (TwG.mk2 hnb) ⟨_,rfl,rfl⟩
               simp only [ly];refine rE (fun g d xw hn hp hC hd K hK=>?_) (fun v4=>?_)
               ·obtain rfl:v0=_:=hd 0 (by kernel_rfl);obtain ⟨X,hX,e2⟩:=hd 2 (by kernel_rfl);obtain rfl:v2'=_:=e2;have ha:=hC.a1 X hX;obtain ⟨cs,hx1,hx2⟩:=ha.1;have hq:=ha.2;refine wp_store_row rfl 37 (.tmp 15) (.tmp 73) rfl rfl X #[.int .i64 s.file,.int .i64 s.size,.int .i64 s.stage,.slice A5 m5 c5,.slice A6 m6 c6,.bool s.failed] rfl rfl 37 cs hx1 sy_size hx2 (sy_one _ _ _ _ _ _ _ _ _ _) ?_;exact hK g undef _ (hC.sto 4 rfl rfl ha (fun h=>by omega) hYn ⟨hwn,htn⟩ rfl) (fun j u h=>TwG.any j u h) trivial
               simp only [ly];refine rE (fun g d xw hn hp hC hd K hK=>?_) (fun v5=>?_)
               ·obtain rfl:v1'=_:=hd 1 (by kernel_rfl);obtain ⟨X,hX,e2⟩:=hd 3 (by kernel_rfl);obtain rfl:v3=_:=e2;have ha:=hC.a2 X hX;obtain ⟨cs,hx1,hx2⟩:=ha.1;have hq:=ha.2;refine wp_store_row rfl 37 (.tmp 16) (.tmp 74) rfl rfl X #[.int .i64 s.file,.int .i64 s.size,.int .i64 s.stage,.slice A5 m5 c5,.slice A6 m6 c6,.bool s.failed] rfl rfl 37 cs hx1 sy_size hx2 (sy_one _ _ _ _ _ _ _ _ _ _) ?_;exact hK g undef _ (hC.sto 5 rfl rfl ha (fun h=>by omega) hYn ⟨hwn,htn⟩ rfl) (fun j u h=>TwG.any j u h) trivial
               simp only [ly];refine relWalkE_nil ?_;intro g d wz hdone hC hG;obtain ⟨X,hX,e2⟩:=hG 2 (by simp);obtain rfl:v2'=_:=e2;obtain ⟨Z,hZ,e3⟩:=hG 3 (by simp);obtain rfl:v3=_:=e3;have hne:=hC.ne X Z hX hZ;have b1:=hC.a1 X hX;have b2:=hC.a2 Z hZ;have b3:=b1.2;have b4:=b2.2;have b5:=b1.1.lt;have b6:=b2.1.lt;have HR:=H_ (show RX w t Y X Z (fun z=>z≠t∧z≠Y∧z≠X∧z≠Z) (.slice A5 m5 c5) (.slice A6 m6 c6) s wz from
                ⟨hC.b.weak (fun z hz h=>⟨h.1,h.2.1,by omega,by omega⟩) (fun h=>h.1 rfl) (fun h=>h.2.1 rfl),b1.1,b2.1,fun h=>h.2.2.1 rfl,fun h=>h.2.2.2 rfl,hne,by omega,by omega,by omega,by omega,by omega,by omega,fun z hz=>by omega⟩)
               clear hG hC hdone hne b1 b2 b3 b4 b5 b6;go_wp2;go_meet
               case rel=>exact ⟨X,Z,rfl,rfl,HR.out⟩
              case rest=>
               clear HL;obtain ⟨X,Z,rfl,rfl,hx⟩:=hcut;have HY:=H_ hx;clear hx
               go_upto_region 16 with fail
               go_cut [76] (fun s76 wx=>∃q:Int,s76 = .int .i64 q∧0≤q∧q<5∧RX w t Y X Z (fun z=>z≠t∧z≠Y∧z≠X∧z≠Z) (.slice A5 m5 c5) (.slice A6 m6 c6) s wx)
               case first=>
                go_wp2_with (go_at_call 7;go_loud (refine CM (next_p 5 w _ t (by omega) (by omega) HY.out.b.tp) ?_);rintro e w3 ⟨x,rfl,q0,q1,hT3,hg3⟩)
                go_meet
                case rel=>exact ⟨_,rfl,q0,q1,HY.out.read hg3 hT3⟩
               case rest=>
                clear HY;obtain ⟨q,rfl,hq0,hq1,hx⟩:=hcut;have HY:=H_ hx;clear hx
                go_upto_block 2 with fail
                go_cut [17,18] (fun s17 s18 wx=>∃(e:Int) (x1 x2 z1 z2:Value) (s':Sy),s17 = .int .i64 e∧s18 = .int .i64 e∧SyOk s'∧RY w t Y X Z (fun z=>z≠t∧z≠Y∧z≠X∧z≠Z) (.slice A5 m5 c5) (.slice A6 m6 c6) x1 x2 z1 z2 s s' wx)
                case first=>
                 obtain rfl | rfl | rfl | rfl | rfl:q=0∨q=1∨q=2∨q=3∨q=4:=by omega
                 ·as_aux_lemma=>
                  go_upto_region 18 with fail
                  refine wp_region_sp 6 134 [SP.eq (syV s (.slice A5 m5 c5) (.slice A6 m6 c6)),SP.eq (.int .i64 p),SP.syQ (fun z=>z≠t∧z≠Y∧z≠X∧z≠Z) (begunS s p),SP.eq (syV s (.slice A5 m5 c5) (.slice A6 m6 c6)),SP.eq (.int .i64 p),SP.syQ (fun z=>z≠t∧z≠Y∧z≠X∧z≠Z) (begunS s p)] (by kernel_rfl) (by kernel_rfl) rfl ?_;simp only [List.take_succ_cons,List.take_zero,List.drop_succ_cons,List.drop_zero];refine rC (fun x hC hd K hK=>?_) (fun v0=>?_)
                  ·have hbx:=bk_step HY.out.b.y.x hC
                   (try dsimp only at hbx)
                   obtain ⟨x0,x1,x2,x3,x4,x5⟩:=cs6 hbx;clear hbx;go_simp;exact hK _ _ hC B_ rfl
                  simp only [ly];refine rC (fun x hC hd K hK=>?_) (fun v1=>?_)
                  ·go_simp;exact hK _ _ hC B_ rfl
                  simp only [ly];refine rC (fun x hC hd K hK=>?_) (fun v2=>?_)
                  ·obtain rfl:v0=_:=hd 0 (by kernel_rfl);obtain rfl:v1=_:=hd 1 (by kernel_rfl);go_simp
                   go_at_call 12
                   go_loud (refine CM (pBegun_w s p _ _ (fun z=>z≠t∧z≠Y∧z≠X∧z≠Z) x (HY.out.b.y.a.step hC) (by have:=HOK.out.few;omega) HOK.out.g (fun z hz=>HY.out.ge z (Nat.le_trans hC.size hz))) ?_)
                   rintro e w1 ⟨y1,y2,rfl,ha1,hb1⟩;exact hK _ _ (hC.trans (hb1.mono hC.size)) hb1 ⟨_,_,rfl,ha1⟩
                  simp only [ly];refine rC (fun x hC hd K hK=>?_) (fun v3=>?_)
                  ·have hbx:=bk_step HY.out.b.y.x hC
                   (try dsimp only at hbx)
                   obtain ⟨x0,x1,x2,x3,x4,x5⟩:=cs6 hbx;clear hbx;go_simp;exact hK _ _ hC B_ rfl
                  simp only [ly];refine rC (fun x hC hd K hK=>?_) (fun v4=>?_)
                  ·go_simp;exact hK _ _ hC B_ rfl
                  simp only [ly];refine rC (fun x hC hd K hK=>?_) (fun v5=>?_)
                  ·obtain rfl:v3=_:=hd 3 (by kernel_rfl);obtain rfl:v4=_:=hd 4 (by kernel_rfl);go_simp
                   go_at_call 13
                   go_loud (refine CM (rBegun_w s p _ _ (fun z=>z≠t∧z≠Y∧z≠X∧z≠Z) x (HY.out.b.y.a.step hC) (by have:=HOK.out.few;omega) (fun z hz=>HY.out.ge z (Nat.le_trans hC.size hz))) ?_)
                   rintro e w1 ⟨y1,y2,rfl,ha1,hb1⟩;exact hK _ _ (hC.trans (hb1.mono hC.size)) hb1 ⟨_,_,rfl,ha1⟩
                  simp only [ly];refine relWalk_nil ?_;intro x hC hG;obtain ⟨x1,x2,e1,hxa⟩:=hG 2 (by omega);obtain rfl:v2=_:=e1;obtain ⟨z1,z2,e2,hza⟩:=hG 5 (by omega);obtain rfl:v5=_:=e2;obtain ⟨B1,m1',c1',rfl⟩:=hxa.t.cap;obtain ⟨B2,m2',c2',rfl⟩:=hxa.g.cap;obtain ⟨D1,p1',k1',rfl⟩:=hza.t.cap;obtain ⟨D2,p2',k2',rfl⟩:=hza.g.cap;have HY2:=H_ (HY.out.step hC);have HXA:=H_ hxa;have HZA:=H_ hza;obtain ⟨csx,hx1,hx2⟩:=HY2.out.x;obtain ⟨csz,hz1,hz2⟩:=HY2.out.z;have hz1':=fun cs=>(setRow_other x X Z cs (Ne.symm HY2.out.xz)).trans hz1;clear hG hxa hza hC;have HX1:=H_ hx1;have HZ1:=H_ hz1';clear hx1 hz1 hz1'
                  go_wp2_with (first
                   | (refine st_sy rfl (.tmp 15) (.tmp 81) rfl rfl X rfl rfl HX1.out hx2 ?_)
                   | (refine st_sy rfl (.tmp 16) (.tmp 84) rfl rfl Z rfl rfl (HZ1.out _) hz2 ?_))
                  go_meet
                  case rel=>exact ⟨0,_,_,_,_,_,rfl,rfl,HOK.out.begun p,HY2.out.two HXA.out HZA.out⟩
                 ·as_aux_lemma=>
                  go_upto_region 20 with fail
                  refine wp_region_sp 8 134 [SP.eq (syV s (.slice A5 m5 c5) (.slice A6 m6 c6)),SP.eq (.int .i64 p),SP.eq (.int .i64 er),SP.syQ (fun z=>z≠t∧z≠Y∧z≠X∧z≠Z) (endedS s p er),SP.eq (syV s (.slice A5 m5 c5) (.slice A6 m6 c6)),SP.eq (.int .i64 p),SP.eq (.int .i64 er),SP.syQ (fun z=>z≠t∧z≠Y∧z≠X∧z≠Z) (endedS s p er)] (by kernel_rfl) (by kernel_rfl) rfl ?_;simp only [List.take_succ_cons,List.take_zero,List.drop_succ_cons,List.drop_zero];refine rC (fun x hC hd K hK=>?_) (fun v0=>?_)
                  ·have hbx:=bk_step HY.out.b.y.x hC
                   (try dsimp only at hbx)
                   obtain ⟨x0,x1,x2,x3,x4,x5⟩:=cs6 hbx;clear hbx;go_simp;exact hK _ _ hC B_ rfl
                  simp only [ly];refine rC (fun x hC hd K hK=>?_) (fun v1=>?_)
                  ·go_simp;exact hK _ _ hC B_ rfl
                  simp only [ly];refine rC (fun x hC hd K hK=>?_) (fun v2=>?_)
                  ·go_simp;exact hK _ _ hC B_ rfl
                  simp only [ly];refine rC (fun x hC hd K hK=>?_) (fun v3=>?_)
                  ·obtain rfl:v0=_:=hd 0 (by kernel_rfl);obtain rfl:v1=_:=hd 1 (by kernel_rfl);obtain rfl:v2=_:=hd 2 (by kernel_rfl);go_simp
                   go_at_call 14
                   go_loud (refine CM (pEnded_w s p er _ _ (fun z=>z≠t∧z≠Y∧z≠X∧z≠Z) x (HY.out.b.y.a.step hC) (fun z hz=>HY.out.ge z (Nat.le_trans hC.size hz))) ?_)
                   rintro e w1 ⟨y1,y2,rfl,ha1,hb1⟩;exact hK _ _ (hC.trans (hb1.mono hC.size)) hb1 ⟨_,_,rfl,ha1⟩
                  simp only [ly];refine rC (fun x hC hd K hK=>?_) (fun v4=>?_)
                  ·have hbx:=bk_step HY.out.b.y.x hC
                   (try dsimp only at hbx)
                   obtain ⟨x0,x1,x2,x3,x4,x5⟩:=cs6 hbx;clear hbx;go_simp;exact hK _ _ hC B_ rfl
                  simp only [ly];refine rC (fun x hC hd K hK=>?_) (fun v5=>?_)
                  ·go_simp;exact hK _ _ hC B_ rfl
                  simp only [ly];refine rC (fun x hC hd K hK=>?_) (fun v6=>?_)
                  ·go_simp;exact hK _ _ hC B_ rfl
                  simp only [ly];refine rC (fun x hC hd K hK=>?_) (fun v7=>?_)
                  ·obtain rfl:v4=_:=hd 4 (by kernel_rfl);obtain rfl:v5=_:=hd 5 (by kernel_rfl);obtain rfl:v6=_:=hd 6 (by kernel_rfl);go_simp
                   go_at_call 15
                   go_loud (refine CM (rEnded_w s p er _ _ (fun z=>z≠t∧z≠Y∧z≠X∧z≠Z) x (HY.out.b.y.a.step hC) (fun z hz=>HY.out.ge z (Nat.le_trans hC.size hz))) ?_)
                   rintro e w1 ⟨y1,y2,rfl,ha1,hb1⟩;exact hK _ _ (hC.trans (hb1.mono hC.size)) hb1 ⟨_,_,rfl,ha1⟩
                  simp only [ly];refine relWalk_nil ?_;intro x hC hG;obtain ⟨x1,x2,e1,hxa⟩:=hG 3 (by omega);obtain rfl:v3=_:=e1;obtain ⟨z1,z2,e2,hza⟩:=hG 7 (by omega);obtain rfl:v7=_:=e2;obtain ⟨B1,m1',c1',rfl⟩:=hxa.t.cap;obtain ⟨B2,m2',c2',rfl⟩:=hxa.g.cap;obtain ⟨D1,p1',k1',rfl⟩:=hza.t.cap;obtain ⟨D2,p2',k2',rfl⟩:=hza.g.cap;have HY2:=H_ (HY.out.step hC);have HXA:=H_ hxa;have HZA:=H_ hza;obtain ⟨csx,hx1,hx2⟩:=HY2.out.x;obtain ⟨csz,hz1,hz2⟩:=HY2.out.z;have hz1':=fun cs=>(setRow_other x X Z cs (Ne.symm HY2.out.xz)).trans hz1;clear hG hxa hza hC;have HX1:=H_ hx1;have HZ1:=H_ hz1';clear hx1 hz1 hz1'
                  go_wp2_with (first
                   | (refine st_sy rfl (.tmp 15) (.tmp 90) rfl rfl X rfl rfl HX1.out hx2 ?_)
                   | (refine st_sy rfl (.tmp 16) (.tmp 94) rfl rfl Z rfl rfl (HZ1.out _) hz2 ?_))
                  go_meet
                  case rel=>exact ⟨0,_,_,_,_,_,rfl,rfl,HOK.out.ended p er,HY2.out.two HXA.out HZA.out⟩
                 ·as_aux_lemma=>
                  go_upto_region 22 with fail
                  refine wp_region_sp 6 134 [SP.eq (syV s (.slice A5 m5 c5) (.slice A6 m6 c6)),SP.eq (.int .i64 p),SP.syQ (fun z=>z≠t∧z≠Y∧z≠X∧z≠Z) (goneS s p),SP.eq (syV s (.slice A5 m5 c5) (.slice A6 m6 c6)),SP.eq (.int .i64 p),SP.syQ (fun z=>z≠t∧z≠Y∧z≠X∧z≠Z) (goneS s p)] (by kernel_rfl) (by kernel_rfl) rfl ?_;simp only [List.take_succ_cons,List.take_zero,List.drop_succ_cons,List.drop_zero];refine rC (fun x hC hd K hK=>?_) (fun v0=>?_)
                  ·have hbx:=bk_step HY.out.b.y.x hC
                   (try dsimp only at hbx)
                   obtain ⟨x0,x1,x2,x3,x4,x5⟩:=cs6 hbx;clear hbx;go_simp;exact hK _ _ hC B_ rfl
                  simp only [ly];refine rC (fun x hC hd K hK=>?_) (fun v1=>?_)
                  ·go_simp;exact hK _ _ hC B_ rfl
                  simp only [ly];refine rC (fun x hC hd K hK=>?_) (fun v2=>?_)
                  ·obtain rfl:v0=_:=hd 0 (by kernel_rfl);obtain rfl:v1=_:=hd 1 (by kernel_rfl);go_simp
                   go_at_call 16
                   go_loud (refine CM (pGone_w s p _ _ (fun z=>z≠t∧z≠Y∧z≠X∧z≠Z) x (HY.out.b.y.a.step hC) (fun z hz=>HY.out.ge z (Nat.le_trans hC.size hz))) ?_)
                   rintro e w1 ⟨y1,y2,rfl,ha1,hb1⟩;exact hK _ _ (hC.trans (hb1.mono hC.size)) hb1 ⟨_,_,rfl,ha1⟩
                  simp only [ly];refine rC (fun x hC hd K hK=>?_) (fun v3=>?_)
                  ·have hbx:=bk_step HY.out.b.y.x hC
                   (try dsimp only at hbx)
                   obtain ⟨x0,x1,x2,x3,x4,x5⟩:=cs6 hbx;clear hbx;go_simp;exact hK _ _ hC B_ rfl
                  simp only [ly];refine rC (fun x hC hd K hK=>?_) (fun v4=>?_)
                  ·go_simp;exact hK _ _ hC B_ rfl
                  simp only [ly];refine rC (fun x hC hd K hK=>?_) (fun v5=>?_)
                  ·obtain rfl:v3=_:=hd 3 (by kernel_rfl);obtain rfl:v4=_:=hd 4 (by kernel_rfl);go_simp
                   go_at_call 17
                   go_loud (refine CM (rGone_w s p _ _ (fun z=>z≠t∧z≠Y∧z≠X∧z≠Z) x (HY.out.b.y.a.step hC) (fun z hz=>HY.out.ge z (Nat.le_trans hC.size hz))) ?_)
                   rintro e w1 ⟨y1,y2,rfl,ha1,hb1⟩;exact hK _ _ (hC.trans (hb1.mono hC.size)) hb1 ⟨_,_,rfl,ha1⟩
                  simp only [ly];refine relWalk_nil ?_;intro x hC hG;obtain ⟨x1,x2,e1,hxa⟩:=hG 2 (by omega);obtain rfl:v2=_:=e1;obtain ⟨z1,z2,e2,hza⟩:=hG 5 (by omega);obtain rfl:v5=_:=e2;obtain ⟨B1,m1',c1',rfl⟩:=hxa.t.cap;obtain ⟨B2,m2',c2',rfl⟩:=hxa.g.cap;obtain ⟨D1,p1',k1',rfl⟩:=hza.t.cap;obtain ⟨D2,p2',k2',rfl⟩:=hza.g.cap;have HY2:=H_ (HY.out.step hC);have HXA:=H_ hxa;have HZA:=H_ hza;obtain ⟨csx,hx1,hx2⟩:=HY2.out.x;obtain ⟨csz,hz1,hz2⟩:=HY2.out.z;have hz1':=fun cs=>(setRow_other x X Z cs (Ne.symm HY2.out.xz)).trans hz1;clear hG hxa hza hC;have HX1:=H_ hx1;have HZ1:=H_ hz1';clear hx1 hz1 hz1'
                  go_wp2_with (first
                   | (refine st_sy rfl (.tmp 15) (.tmp 99) rfl rfl X rfl rfl HX1.out hx2 ?_)
                   | (refine st_sy rfl (.tmp 16) (.tmp 102) rfl rfl Z rfl rfl (HZ1.out _) hz2 ?_))
                  go_meet
                  case rel=>exact ⟨0,_,_,_,_,_,rfl,rfl,HOK.out.gone p,HY2.out.two HXA.out HZA.out⟩
                 ·as_aux_lemma=>
                  go_upto_region 24 with fail
                  refine wp_region_sp 4 134 [SP.eq (syV s (.slice A5 m5 c5) (.slice A6 m6 c6)),SP.syQ (fun z=>z≠t∧z≠Y∧z≠X∧z≠Z) (nextS s),SP.eq (syV s (.slice A5 m5 c5) (.slice A6 m6 c6)),SP.syQ (fun z=>z≠t∧z≠Y∧z≠X∧z≠Z) (nextS s)] (by kernel_rfl) (by kernel_rfl) rfl ?_;simp only [List.take_succ_cons,List.take_zero,List.drop_succ_cons,List.drop_zero];refine rC (fun x hC hd K hK=>?_) (fun v0=>?_)
                  ·have hbx:=bk_step HY.out.b.y.x hC
                   (try dsimp only at hbx)
                   obtain ⟨x0,x1,x2,x3,x4,x5⟩:=cs6 hbx;clear hbx;go_simp;exact hK _ _ hC B_ rfl
                  simp only [ly];refine rC (fun x hC hd K hK=>?_) (fun v1=>?_)
                  ·obtain rfl:v0=_:=hd 0 (by kernel_rfl);go_simp
                   go_at_call 18
                   go_loud (refine CM (pNext_w43 s _ _ (fun z=>z≠t∧z≠Y∧z≠X∧z≠Z) x (HY.out.b.y.a.step hC) (fun z hz=>HY.out.ge z (Nat.le_trans hC.size hz))) ?_)
                   rintro e w1 ⟨y1,y2,rfl,ha1,hb1⟩;exact hK _ _ (hC.trans (hb1.mono hC.size)) hb1 ⟨_,_,rfl,ha1⟩
                  simp only [ly];refine rC (fun x hC hd K hK=>?_) (fun v2=>?_)
                  ·have hbx:=bk_step HY.out.b.y.x hC
                   (try dsimp only at hbx)
                   obtain ⟨x0,x1,x2,x3,x4,x5⟩:=cs6 hbx;clear hbx;go_simp;exact hK _ _ hC B_ rfl
                  simp only [ly];refine rC (fun x hC hd K hK=>?_) (fun v3=>?_)
                  ·obtain rfl:v2=_:=hd 2 (by kernel_rfl);go_simp
                   go_at_call 19
                   go_loud (refine CM (rNext_w43 s _ _ (fun z=>z≠t∧z≠Y∧z≠X∧z≠Z) x (HY.out.b.y.a.step hC) (fun z hz=>HY.out.ge z (Nat.le_trans hC.size hz))) ?_)
                   rintro e w1 ⟨y1,y2,rfl,ha1,hb1⟩;exact hK _ _ (hC.trans (hb1.mono hC.size)) hb1 ⟨_,_,rfl,ha1⟩
                  simp only [ly];refine relWalk_nil ?_;intro x hC hG;obtain ⟨x1,x2,e1,hxa⟩:=hG 1 (by omega);obtain rfl:v1=_:=e1;obtain ⟨z1,z2,e2,hza⟩:=hG 3 (by omega);obtain rfl:v3=_:=e2;obtain ⟨B1,m1',c1',rfl⟩:=hxa.t.cap;obtain ⟨B2,m2',c2',rfl⟩:=hxa.g.cap;obtain ⟨D1,p1',k1',rfl⟩:=hza.t.cap;obtain ⟨D2,p2',k2',rfl⟩:=hza.g.cap;have HY2:=H_ (HY.out.step hC);have HXA:=H_ hxa;have HZA:=H_ hza;obtain ⟨csx,hx1,hx2⟩:=HY2.out.x;obtain ⟨csz,hz1,hz2⟩:=HY2.out.z;have hz1':=fun cs=>(setRow_other x X Z cs (Ne.symm HY2.out.xz)).trans hz1;clear hG hxa hza hC;have HX1:=H_ hx1;have HZ1:=H_ hz1';clear hx1 hz1 hz1'
                  go_wp2_with (first
                   | (refine st_sy rfl (.tmp 15) (.tmp 106) rfl rfl X rfl rfl HX1.out hx2 ?_)
                   | (refine st_sy rfl (.tmp 16) (.tmp 108) rfl rfl Z rfl rfl (HZ1.out _) hz2 ?_))
                  go_meet
                  case rel=>exact ⟨0,_,_,_,_,_,rfl,rfl,HOK.out.next,HY2.out.two HXA.out HZA.out⟩
                 ·as_aux_lemma=>
                  have hpf:=pFin_w s er _ _ (fun z=>z≠t∧z≠Y∧z≠X∧z≠Z) wc HY.out.b.y.a HY.out.ge;have hx:=(HY.out.b.y).x;(try dsimp only at hx);obtain ⟨y0,y1,y2,y3,y4,y5⟩:=cs6 hx;clear hx
                  go_upto_region 26 with fail
                  go_cut [17] (fun s17 wx=>∃x1 x2,s17 = .int .i64 (finS s er).2∧RX w t Y X Z (fun z=>z≠t∧z≠Y∧z≠X∧z≠Z) (.slice A5 m5 c5) (.slice A6 m6 c6) s wx∧BP (fun z=>z≠t∧z≠Y∧z≠X∧z≠Z) X x1 x2 (finS s er).1 wx)
                  case first=>
                   go_wp2_with (first
                    | (go_at_call 20;go_loud (refine CM hpf ?_);rintro e w1 ⟨x1,x2,rfl,hxa,hb1⟩;obtain ⟨B1,m1',c1',rfl⟩:=hxa.t.cap;obtain ⟨B2,m2',c2',rfl⟩:=hxa.g.cap;have HXA:=H_ hxa;have HY2:=H_ (HY.out.step hb1);obtain ⟨csx,hx1,hx2⟩:=HY2.out.x;have HX1:=H_ hx1;clear hxa hb1 hx1)
                    | (refine st_sy rfl (.tmp 15) (.tmp 115) rfl rfl X rfl rfl HX1.out hx2 ?_))
                   go_meet
                   case rel=>exact ⟨_,_,rfl,(HY2.out.one HXA.out).1,(HY2.out.one HXA.out).2⟩
                  case rest=>
                   clear HY y0 y1 y2 y3 y4 y5 hpf;obtain ⟨x1,x2,rfl,hx,hbx⟩:=hcut;have HY:=H_ hx;have HBX:=H_ hbx;clear hx hbx;have hpf:=rFin_w s er _ _ (fun z=>z≠t∧z≠Y∧z≠X∧z≠Z) wc HY.out.b.y.a HY.out.ge;have hx:=(HY.out.b.y).x;(try dsimp only at hx);obtain ⟨y0,y1,y2,y3,y4,y5⟩:=cs6 hx;clear hx
                   go_wp2_with (first
                    | (go_at_call 21;go_loud (refine CM hpf ?_);rintro e w1 ⟨z1,z2,rfl,hxa,hb1⟩;obtain ⟨B1,m1',c1',rfl⟩:=hxa.t.cap;obtain ⟨B2,m2',c2',rfl⟩:=hxa.g.cap;have HXA:=H_ hxa;have HY2:=H_ (HY.out.step hb1);have HBX2:=H_ (HBX.out.step hb1);obtain ⟨csx,hx1,hx2⟩:=HY2.out.z;have HX1:=H_ hx1;clear hxa hb1 hx1)
                    | (refine st_sy rfl (.tmp 16) (.tmp 121) rfl rfl Z rfl rfl HX1.out hx2 ?_))
                   go_meet
                   case rel=>exact ⟨_,_,_,_,_,_,rfl,rfl,HOK.out.fin er,HY2.out.last HBX2.out HXA.out⟩
                case rest=>
                 clear HY HOK hq0 hq1;obtain ⟨e,x1,x2,z1,z2,s',rfl,rfl,hok,hy⟩:=hcut;obtain ⟨B1,m1',c1',rfl⟩:=hy.x.a.t.cap;obtain ⟨B2,m2',c2',rfl⟩:=hy.x.a.g.cap;obtain ⟨D1,p1',k1',rfl⟩:=hy.z.a.t.cap;obtain ⟨D2,p2',k2',rfl⟩:=hy.z.a.g.cap;have HOK:=H_ hok;have HY:=H_ hy;clear hok hy;have hsm:=rSame_w43 s' s' _ _ _ _ (fun z=>z≠t∧z≠Y∧z≠X∧z≠Z) wc HY.out.x.a HY.out.z.a;rw [sameS_self] at hsm;have d0:(e != e)=false:=by simp
                 have hx:=(HY.out.x).x;(try dsimp only at hx);obtain ⟨x0,x1,x2,x3,x4,x5⟩:=cs6 hx;clear hx;have hx:=(HY.out.z).x;(try dsimp only at hx);obtain ⟨y0,y1,y2,y3,y4,y5⟩:=cs6 hx;clear hx
                 go_wp2_with (first
                  | (go_at_call 10;go_loud (refine CM hsm ?_);rintro e w3 ⟨rfl,hb3⟩;have HY3:=H_ (HY.out.step hb3);have hyy:=HY3.out.b.y.x;have hx:=HY3.out.z.x;(try dsimp only at hx);obtain ⟨z0,z1,z2,z3,z4,z5⟩:=cs6 hx;clear hx)
                  | (refine st_sy rfl (.tmp 10) (.tmp 132) rfl rfl Y rfl rfl hyy rfl ?_))
                 go_roundw
                 case rel=>exact ⟨k+1,_,_,s',by go_num,by omega,HOK.out,(HY3.out.b.put HY3.out.z.a).weak (fun z hz h=>⟨h.1,h.2.1⟩) (fun h=>h.1 rfl) (fun h=>h.2 rfl)⟩
                 case measure=>simp [intOf];omega
          ·go_wp2_with (go_at_call 22;go_loud (refine CM (awake_w _ (HBT.out _ HL.out.tp.2.1)) ?_);rintro e w8 ⟨rfl,hb8⟩)
           go_ret;exact ⟨rfl,HL.out.tp.2.1.trans (hb8.mono HL.out.tp.2.1.size)⟩
end
end Go.Proofs.YthhekebemmckcaaGreatDoor
