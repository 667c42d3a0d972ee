/-
  Lemmas and contracts for the laws of synchronisations (layer 43), part 47; several texts joined by a program.
-/
import Derived.Test.YthhekebemmckcaaGreatDoorJ01
import Derived.Test.YthhekebemmckcaaGreatDoorJ16
import Derived.Test.YthhekebemmckcaaGreatDoorJ43
namespace Go.Proofs.YthhekebemmckcaaGreatDoor
set_option linter.unusedVariables false
set_option linter.unusedSimpArgs false
set_option maxRecDepth 100000
set_option maxHeartbeats 16000000
open Go.RowKit
section
def fromL (k:Nat) (l:List Int):List Int:=l.filter (fun x=>decide ((k:Int)≤x))
def frS (s:Sy) (k:Nat):Sy:={s with todo:=fromL k s.todo,going:=fromL k s.going}
theorem fromL_out (k:Nat) (l:List Int):outL (fromL k l) k=fromL (k+1) l:=by
 unfold outL fromL;rw [List.filter_filter]
 congr 1
 funext x
 have e1:(x != (k:Int)&&decide ((k:Int)≤x))=decide (((k+1:Nat):Int)≤x):=by
  by_cases h:x=k
  ·rw [bne_eq_false_iff_eq.2 h,Bool.false_and,dF (by omega)]
  ·rw [bne_iff_ne.2 h,Bool.true_and]
   by_cases h2:(k:Int)≤x
   ·rw [decide_eq_true h2,dT (by omega)]
   ·rw [decide_eq_false h2,dF (by omega)]
 first | exact e1 | (rw [←e1,Bool.and_comm])
theorem outL_no {p:Int} {l:List Int} (h:p ∉ l):outL l p=l:=by
 unfold outL;exact List.filter_eq_self.2 fun x hx=>bne_iff_ne.2 fun e=>h (e ▸ hx)
theorem outL_twice (p:Int) (l:List Int):outL (outL l p) p=outL l p:=by
 unfold outL;rw [List.filter_filter]
 congr 1
 funext x
 simp
theorem outL_putL (p:Int):∀l,outL (putL p l) p=outL l p
 | []=>by simp [putL,outL]
 | x :: l=>by
  unfold putL
  split
  ·show outL (p :: outL (x :: l) p) p=_
   have e:outL (p :: outL (x :: l) p) p=outL (outL (x :: l) p) p:=by show List.filter _ _=_;rw [List.filter_cons,if_neg (by simp)];rfl
   rw [e,outL_twice]
  ·have hne:x≠p:=by omega
   have e:∀m,outL (x :: m) p=x :: outL m p:=fun m=>by show List.filter _ _=_;rw [List.filter_cons,if_pos (bne_iff_ne.2 hne)];rfl
   rw [e,e,outL_putL p l]
theorem mem_from {k:Nat} {l:List Int}:(k:Int) ∈ fromL k l↔(k:Int) ∈ l:=by simp [fromL]
theorem ended_zero {s:Sy} {p:Int} (hs:s.stage=1):endedS s p 0={s with going:=outL s.going p}:=by
 unfold endedS
 by_cases h:p ∈ s.going
 ·rw [if_pos ⟨hs,h⟩];simp
 ·rw [if_neg (fun h'=>h h'.2),outL_no h]
theorem ended_same {s:Sy} {p:Int} (h:p ∉ s.going) (e:Int):endedS s p e=s:=by unfold endedS;rw [if_neg (fun h'=>h h'.2)]
theorem later_y {s:Sy} {p:Int} (hs:s.stage=1):endedS (begunS {s with going:=outL s.going p} p) p 0={s with todo:=outL s.todo p,going:=outL s.going p}:=by
 unfold begunS
 by_cases h:p ∈ s.todo
 ·rw [if_pos ⟨hs,h⟩,ended_zero (by exact hs)]
  show ({s with todo:=outL s.todo p,going:=outL (putL p (outL s.going p)) p}:Sy)=_
  rw [outL_putL,outL_twice]
 ·rw [if_neg (fun h'=>h h'.2),ended_zero (by exact hs),outL_no h]
  show ({s with going:=outL (outL s.going p) p}:Sy)=_
  rw [outL_twice]
theorem frS_succ (s:Sy) (k:Nat):{frS s k with todo:=outL (frS s k).todo k,going:=outL (frS s k).going k}=frS s (k+1):=by
 show ({s with todo:=outL (fromL k s.todo) k,going:=outL (fromL k s.going) k}:Sy)=_
 rw [fromL_out,fromL_out]
 rfl
theorem frS_start (C:Ck) (i:Nat) (y:Fl):frS (startS C i y) 0=startS C i y:=by
 have h:∀f:Nat→Bool,fromL 0 (listP f 8)=listP f 8:=fun f=>List.filter_eq_self.2 fun x hx=>by
  obtain ⟨j,_,rfl,_⟩:=listP_mem hx;exact dT (by omega)
 unfold frS
 show ({startS C i y with todo:=fromL 0 (listP (todoC C y) 8),going:=fromL 0 (listP (goingC C y) 8)}:Sy)=_
 rw [h,h]
 rfl
theorem later_mem (C:Ck) (i:Nat) (y:Fl) {j:Nat} (h:j<8):((j:Int) ∈ (frS (startS C i y) j).todo↔todoC C y j=true)∧((j:Int) ∈ (frS (startS C i y) j).going↔goingC C y j=true):=
 ⟨mem_from.trans (listP_in h),mem_from.trans (listP_in h)⟩
theorem fromL_len (k:Nat) (l:List Int):(fromL k l).length≤l.length:=List.length_filter_le _ _
theorem SyOk.fr {s:Sy} (h:SyOk s) (k:Nat):SyOk (frS s k):=⟨h.t.filter _,h.g.filter _,by have:=fromL_len k s.todo;have:=fromL_len k s.going;have:=h.few;show (fromL k s.todo).length+(fromL k s.going).length≤16;omega⟩
theorem frS_end (C:Ck) (i:Nat) (y:Fl):frS (startS C i y) 8=⟨i,y.size,1,[],[],false⟩:=by
 have h:∀f:Nat→Bool,fromL 8 (listP f 8)=[]:=fun f=>List.filter_eq_nil_iff.2 fun x hx=>by
  obtain ⟨j,hj,rfl,_⟩:=listP_mem hx;simp;omega
 show ({startS C i y with todo:=fromL 8 (listP (todoC C y) 8),going:=fromL 8 (listP (goingC C y) 8)}:Sy)=_
 rw [h,h]
 rfl
end
section
theorem syncerLater_walk (a0:Option Addr) (len0 cap0:Nat) (z0:List Int) (a1:Option Addr) (len1 cap1:Nat) (z1:List Int) (w:World) (w0:IsRow .i64 w a0 len0 cap0 z0) (w1:IsRow .i64 w a1 len1 cap1 z1) (hbt:BitsAt w) :
  Calls Tryz.prog 5 #[.slice a0 len0 cap0,.slice a1 len1 cap1] w fun e w'=>e = .returned (.bool true)∧Below w.heap.size w w':=by
 have HT:=H_ (Tp.start w0);have HR1:=H_ w1;have HBT:=H_ (fun w' (hb:Below w.heap.size w w')=>hbt.step hb);clear w0 w1 hbt;go_enter Tryz.func5,Tryz.ntmps5
 go_upto_region 1 with fail
 go_cut [5] (fun s5 wx=>∃X a b c d e f g C,s5 = .pointer (some ⟨X,0,none⟩)∧w.heap.size≤X∧Inv 3 2 2 C∧CS w.heap.size X a b c d e f g C wx∧Below w.heap.size w wx)
 case first=>
  go_wp2_with (first
   | (go_at_call 6;go_loud (refine CM (cache_t w _ _ HT.out) ?_);rintro e w3 ⟨C,a1,b1,c1,d1,e1,f1,g1,hI,rfl,hc1,hT3,hg3⟩;obtain ⟨E1,uu1,n1,E2,uu2,n2,E3,uu3,n3,E4,uu4,n4,E5,uu5,n5,E6,uu6,n6,E7,uu7,n7,rfl,rfl,rfl,rfl,rfl,rfl,rfl⟩:=CkAt.caps hc1;have HC3:=H_ hc1;have HT3:=H_ hT3;have HI:=H_ hI;have HZ:=H_ (heap_at_new w3 (oCZ) w3.heap.size rfl);clear hc1 hT3 hI hg3)
   | (refine st_ck rfl (.tmp 5) (.tmp 21) rfl rfl w3.heap.size rfl rfl HZ.out rfl ?_))
  go_meet
  case rel=>exact ⟨w3.heap.size,_,_,_,_,_,_,_,C,rfl,by have:=HT3.out.lt;omega,HI.out,CS.new HC3.out HT3.out.lt,HT3.out.below.trans ((bl_new _ _).mono (by have:=HT3.out.below.size;omega))⟩
 case rest=>
  clear HT;obtain ⟨X,a,b,c,d,e,f,g,C,rfl,hX,hI,hc,hb⟩:=hcut;have HI:=H_ hI;have HC:=H_ hc;have HB:=H_ hb;clear hI hc hb
  go_upto_region 2 with fail
  go_cut [6] (fun s6 wx=>∃t,s6 = .pointer (some ⟨t,0,none⟩)∧TpP w t wx∧CS t X a b c d e f g C wx)
  case first=>
   go_wp2;go_meet
   case rel=>exact ⟨wc.heap.size,rfl,TpP.start HR1.out HB.out,HC.out.retape _⟩
  case rest=>
   clear HC HB HR1;obtain ⟨t,rfl,hT,hc⟩:=hcut;have HT:=H_ hT;obtain ⟨E1,uu1,n1,rfl⟩:=hc.a.files.cap;have e1:uu1=C.files.length:=by obtain ⟨_,_,e3,_,_⟩:=hc.a.files.form;injection e3
   have E1':=H_ e1;have e2:1≤uu1∧uu1≤3:=by rw [e1,HI.out.nf];omega
   have HC:=H_ hc;clear hT hc e1;have hx:=HC.out.x;have x0:=cs1 hx;clear hx
   go_upto_region 3 with fail
   go_cut [7] (fun s7 wx=>∃k:Nat,s7 = .int .i64 (k:Int)∧k<uu1∧TpP w t wx∧CS t X (.slice E1 uu1 n1) b c d e f g C wx)
   case first=>
    go_wp2_with (go_at_call 7;go_loud (refine CM (next_p (uu1:Int) w _ t (by omega) (by omega) HT.out) ?_);rintro e w3 ⟨x,rfl,q0,q1,hT3,hg3⟩)
    obtain ⟨x,rfl⟩:=Int.eq_ofNat_of_zero_le q0;go_meet
    case rel=>exact ⟨x,rfl,by omega,hT3,HC.out.keep hg3⟩
   case rest=>
    clear HT HC x0;obtain ⟨k,rfl,hk,hT,hc⟩:=hcut;have HT:=H_ hT;obtain ⟨E2,uu2,n2,rfl⟩:=hc.a.frames.cap;obtain ⟨E3,uu3,n3,rfl⟩:=hc.a.zones.cap;obtain ⟨E4,uu4,n4,rfl⟩:=hc.a.groups.cap;obtain ⟨E5,uu5,n5,rfl⟩:=hc.a.lists.cap;obtain ⟨E6,uu6,n6,rfl⟩:=hc.a.clocks.cap;obtain ⟨E7,uu7,n7,rfl⟩:=hc.a.ptes.cap;have HC:=H_ hc;clear hT hc;obtain ⟨y,hy⟩:∃y,C.files[k]?=some y:=⟨_,List.getElem?_eq_getElem (by rw [←E1'.out];exact hk)⟩;have hst:=pStart_w C k y _ _ _ _ _ _ _ (fun z=>z≠t) wc HC.out.arg HI.out hy (HBT.out _ HT.out.2.1) (fun z hz=>by have:=HT.out.lt;omega);have HYY:=H_ hy;clear hy;obtain ⟨x0,x1,x2,x3,x4,x5,x6⟩:=cs7 HC.out.x
    go_upto_region 4 with fail
    go_cut [8,9] (fun s8 s9 wx=>∃Y v1 v2,s8 = .pointer (some ⟨Y,0,none⟩)∧s9 = .int .i64 0∧LSy w t X Y v1 v2 (startS C k y) (.slice E1 uu1 n1) (.slice E2 uu2 n2) (.slice E3 uu3 n3) (.slice E4 uu4 n4) (.slice E5 uu5 n5) (.slice E6 uu6 n6) (.slice E7 uu7 n7) C wx)
    case first=>
     have htw:=HT.out.lt
     go_wp2_with (first
      | (go_at_call 8;go_loud (refine CM hst ?_);rintro e w7 ⟨v1,v2,rfl,ha,hb7⟩;obtain ⟨A1,m1,c1,rfl⟩:=ha.t.cap;obtain ⟨A2,m2,c2,rfl⟩:=ha.g.cap;have HA:=H_ ha;have HB7:=H_ hb7;clear ha hb7;have HZ:=H_ (heap_at_new w7 (oSZ) w7.heap.size rfl))
      | (refine st_sy rfl (.tmp 8) (.tmp 34) rfl rfl w7.heap.size rfl rfl HZ.out rfl ?_))
     go_meet
     case rel=>exact ⟨w7.heap.size,_,_,rfl,rfl,LSy.new HC.out HT.out HB7.out HA.out⟩
    case rest=>
     clear HT HC x0 x1 x2 x3 x4 x5 x6 hst;obtain ⟨Y,v1,v2,rfl,rfl,hl⟩:=hcut;rw [←frS_start] at hl;have HL:=H_ hl;clear hl;go_wp2
     go_loopw [10] (fun s10 wx=>∃(j:Nat) (v1 v2:Value),s10 = .int .i64 (j:Int)∧j≤8∧LSy w t X Y v1 v2 (frS (startS C k y) j) (.slice E1 uu1 n1) (.slice E2 uu2 n2) (.slice E3 uu3 n3) (.slice E4 uu4 n4) (.slice E5 uu5 n5) (.slice E6 uu6 n6) (.slice E7 uu7 n7) C wx) (fun s10 _=>8 - (intOf s10).toNat)
     case atStart=>exact ⟨0,_,_,rfl,by omega,HL.out⟩
     case round=>
      clear HL;obtain ⟨j,v1,v2,rfl,hj,hl⟩:=hrel
      by_cases hlt:j<8
      ·obtain ⟨s,hs⟩:∃s,s=frS (startS C k y) j:=⟨_,rfl⟩;rw [←hs] at hl;have h1:s.stage=1:=by rw [hs];rfl
       have h0:SyOk s:=by rw [hs];exact (SyOk.start C k y).fr j
       have hm:=later_mem C k y hlt;rw [←hs] at hm;have hn:{s with todo:=outL s.todo j,going:=outL s.going j}=frS (startS C k y) (j+1):=by rw [hs];exact frS_succ _ _
       obtain ⟨sN,hsN⟩:∃sN,sN=frS (startS C k y) (j+1):=⟨_,rfl⟩;rw [←hsN] at hn;have HSN:=H_ hsN;have HN:=H_ hn;have HO:=H_ h0;have H1:=H_ h1;have HL:=H_ hl;clear hs h1 h0 hn hl hsN;have hfi:=find_w40 C k y j _ _ _ _ _ _ _ (fun z=>z≠t∧z≠Y) wr HL.out.c.a HYY.out;obtain ⟨gv,hgv⟩:∃gv,gv=getR y.c j:=⟨_,rfl⟩;obtain ⟨dj,hdj⟩:∃dj,dj=dirtyV C gv:=⟨_,rfl⟩;obtain ⟨gj,hgj⟩:∃gj,gj=writV C gv:=⟨_,rfl⟩;have HFK:=H_ (HI.out.find k y j HYY.out);rw [←hgv] at hfi HFK;have HDJ:=H_ hdj;have HGJ:=H_ hgj;have HMD:=H_ (show (j:Int) ∈ s.todo↔dj=true by rw [hm.1,hdj,hgv];rfl);have HMG:=H_ (show (j:Int) ∈ s.going↔gj=true by rw [hm.2,hgj,hgv];rfl);clear hgv hdj hgj hm;have hx:=HL.out.c.x;obtain ⟨x0,x1,x2,x3,x4,x5,x6⟩:=cs7 hx;clear hx
       go_upto_region 10 with fail
       go_cut [11,12] (fun s11 s12 wx=>∃(m:Int) (b:Bool),s11 = .int .i64 m∧s12 = .bool b∧b=decide (0<gv)∧(0<gv→m=gv)∧LSy w t X Y v1 v2 s (.slice E1 uu1 n1) (.slice E2 uu2 n2) (.slice E3 uu3 n3) (.slice E4 uu4 n4) (.slice E5 uu5 n5) (.slice E6 uu6 n6) (.slice E7 uu7 n7) C wx)
       case first=>
        unfold RetFd fdV at hfi
        by_cases hg0:gv≤0
        ·rw [if_pos hg0] at hfi;have HG0:=H_ hg0;clear hg0
         go_wp2_with (go_at_call 23;go_loud (refine CM hfi ?_);rintro e w7 ⟨rfl,hb7⟩)
         go_meet
         case rel=>exact ⟨_,_,rfl,rfl,(decide_eq_false (by have:=HG0.out;omega)).symm,fun h=>by have:=HG0.out;omega,HL.out.step hb7⟩
        ·rw [if_neg hg0] at hfi;have HG0:=H_ hg0;clear hg0
         go_wp2_with (go_at_call 23;go_loud (refine CM hfi ?_);rintro e w7 ⟨rfl,hb7⟩)
         go_meet
         case rel=>exact ⟨_,_,rfl,rfl,(decide_eq_true (by have:=HG0.out;omega)).symm,fun _=>rfl,HL.out.step hb7⟩
       case rest=>
        clear HL x0 x1 x2 x3 x4 x5 x6 hfi;obtain ⟨mv,bv,rfl,rfl,hbv,hmv,hl⟩:=hcut;have HL:=H_ hl;have HBV:=H_ hbv;have HMV:=H_ hmv;clear hl hbv hmv;have hx:=HL.out.c.x;obtain ⟨x0,x1,x2,x3,x4,x5,x6⟩:=cs7 hx;clear hx
        go_upto_region 11 with fail
        go_cut [13] (fun s13 wx=>s13 = .bool dj∧LSy w t X Y v1 v2 s (.slice E1 uu1 n1) (.slice E2 uu2 n2) (.slice E3 uu3 n3) (.slice E4 uu4 n4) (.slice E5 uu5 n5) (.slice E6 uu6 n6) (.slice E7 uu7 n7) C wx)
        case first=>
         by_cases hg0:gv≤0
         ·have hd:decide (0<gv)=false:=dF (by omega);obtain rfl:dj=false:=by rw [HDJ.out];unfold dirtyV;rw [hd];rfl
          obtain rfl:bv=false:=HBV.out.trans hd;clear hd hg0;go_wp2;go_meet
          case rel=>exact ⟨rfl,HL.out⟩
         ·obtain ⟨ix,x,hx1,hx2,hx3,hx4⟩:=HFK.out (by omega);have hd:decide (0<gv)=true:=dT (by omega);have hdj:dj=(x.pg.dirty != 0):=by rw [HDJ.out];unfold dirtyV;rw [hd,show (gv - 1).toNat=ix by omega,hx2];rfl
          obtain rfl:bv=true:=HBV.out.trans hd;obtain rfl:mv=gv:=HMV.out (by omega);obtain ⟨fb,fo,e9,hfb,_,_,_,_,y4,_,_,_,y8⟩:=FrA.cells HL.out.c.a.frames hx2;have i3:ix<uu2:=by have:=(g_l hx2);obtain ⟨_,_,e3,_,_⟩:=HL.out.c.a.frames.form;injection e3 with _ e3 _;omega
          have i4:(ix:Int)<(uu2:Int):=by omega
          have i5:ix<64:=by have:=(g_l hx2);have:=HI.out.nr.2;omega
          obtain rfl:mv=(ix:Int)+1:=by omega
          obtain ⟨dv,hdv⟩:∃dv,dv=x.pg.dirty:=⟨_,rfl⟩;rw [←hdv] at y4 hdj;subst hdj;subst e9;clear hdv y8 hx1 hx2 hx3 hx4 hg0 hd;go_wp2;go_meet
          case rel=>exact ⟨rfl,HL.out⟩
        case rest=>
         clear HL x0 x1 x2 x3 x4 x5 x6;obtain ⟨rfl,hl⟩:=hcut;have HL:=H_ hl;clear hl;have hx:=HL.out.c.x;obtain ⟨x0,x1,x2,x3,x4,x5,x6⟩:=cs7 hx;clear hx
         go_upto_region 12 with fail
         go_cut [14] (fun s14 wx=>s14 = .bool gj∧LSy w t X Y v1 v2 s (.slice E1 uu1 n1) (.slice E2 uu2 n2) (.slice E3 uu3 n3) (.slice E4 uu4 n4) (.slice E5 uu5 n5) (.slice E6 uu6 n6) (.slice E7 uu7 n7) C wx)
         case first=>
          by_cases hg0:gv≤0
          ·have hd:decide (0<gv)=false:=dF (by omega);obtain rfl:gj=false:=by rw [HGJ.out];unfold writV;rw [hd];rfl
           obtain rfl:bv=false:=HBV.out.trans hd;clear hd hg0;go_wp2;go_meet
           case rel=>exact ⟨rfl,HL.out⟩
          ·obtain ⟨ix,x,hx1,hx2,hx3,hx4⟩:=HFK.out (by omega);have hd:decide (0<gv)=true:=dT (by omega);have hdj:gj=(x.writing != 0):=by rw [HGJ.out];unfold writV;rw [hd,show (gv - 1).toNat=ix by omega,hx2];rfl
           obtain rfl:bv=true:=HBV.out.trans hd;obtain rfl:mv=gv:=HMV.out (by omega);obtain ⟨fb,fo,e9,hfb,_,_,_,_,y4,_,_,_,y8⟩:=FrA.cells HL.out.c.a.frames hx2;have i3:ix<uu2:=by have:=(g_l hx2);obtain ⟨_,_,e3,_,_⟩:=HL.out.c.a.frames.form;injection e3 with _ e3 _;omega
           have i4:(ix:Int)<(uu2:Int):=by omega
           have i5:ix<64:=by have:=(g_l hx2);have:=HI.out.nr.2;omega
           obtain rfl:mv=(ix:Int)+1:=by omega
           obtain ⟨dv,hdv⟩:∃dv,dv=x.writing:=⟨_,rfl⟩;rw [←hdv] at y8 hdj;subst hdj;subst e9;clear hdv y4 hx1 hx2 hx3 hx4 hg0 hd;go_wp2;go_meet
           case rel=>exact ⟨rfl,HL.out⟩
         case rest=>
          clear HL x0 x1 x2 x3 x4 x5 x6 HDJ HGJ HFK;obtain ⟨rfl,hl⟩:=hcut;obtain ⟨A1,m1,c1,rfl⟩:=hl.y.a.t.cap;obtain ⟨A2,m2,c2,rfl⟩:=hl.y.a.g.cap;have hm1:=hl.y.a.m1;have hm2:=hl.y.a.m2;have HL:=H_ hl;clear hl;have hx:=(HL.out.y).x;(try dsimp only at hx);obtain ⟨y0,y1,y2,y3,y4,y5⟩:=cs6 hx;clear hx
          go_upto_region 13 with fail
          go_cut [77] (fun s77 wx=>∃b:Bool,s77 = .bool b∧b=(!dj&&!gj)∧LSy w t X Y (.slice A1 m1 c1) (.slice A2 m2 c2) s (.slice E1 uu1 n1) (.slice E2 uu2 n2) (.slice E3 uu3 n3) (.slice E4 uu4 n4) (.slice E5 uu5 n5) (.slice E6 uu6 n6) (.slice E7 uu7 n7) C wx)
          case first=>
           cases dj with
           | true=>
            go_wp2;go_meet
            case rel=>exact ⟨_,rfl,rfl,HL.out⟩
           | false=>
            cases gj with
            | true=>
             go_wp2;go_meet
             case rel=>exact ⟨_,rfl,rfl,HL.out⟩
            | false=>
             go_wp2;go_meet
             case rel=>exact ⟨_,rfl,rfl,HL.out⟩
          case rest=>
          clear HL y0 y1 y2 y3 y4 y5;obtain ⟨b7,rfl,hb7,hl⟩:=hcut;obtain ⟨V,hV⟩:∃V,V=wc:=⟨_,rfl⟩;subst hV;have HL:=H_ hl;clear hl;have hx:=(HL.out.y).x;(try dsimp only at hx);obtain ⟨y0,y1,y2,y3,y4,y5⟩:=cs6 hx;clear hx
          by_cases hno:dj=false∧gj=false
          ·obtain ⟨rfl,rfl⟩:=hno;obtain rfl:b7=true:=hb7;have n1:(j:Int) ∉ s.todo:=fun h=>by have:=HMD.out.1 h;cases this
           have n2:(j:Int) ∉ s.going:=fun h=>by have:=HMG.out.1 h;cases this
           have es:sN=s:=by rw [←HN.out,outL_no n1,outL_no n2]
           have eb:begunS s j=s:=by unfold begunS;rw [if_neg (fun h=>n1 h.2)]
           have hbg:=pBegun_w s j _ _ (fun z=>z≠t∧z≠Y) V HL.out.y.a (by have:=HO.out.few;omega) HO.out.g HL.out.ge;rw [eb] at hbg;have hen:=fun (u1 u2:Value) (W:World) (ha:SyA W (fun z=>z≠t∧z≠Y) u1 u2 s) (hb:V.heap.size≤W.heap.size)=>pEnded_w s j 10 u1 u2 (fun z=>z≠t∧z≠Y) W ha (fun z hz=>HL.out.ge z (by omega));rw [ended_same n2] at hen;have ES:=H_ es;clear n1 n2 eb es hm1 hm2
           go_upto_region 14 with fail
           go_cut [15] (fun s15 wx=>∃X5 b1 b2,s15 = .pointer (some ⟨X5,0,none⟩)∧BP (fun z=>z≠t∧z≠Y) X5 b1 b2 s wx∧LSy w t X Y (.slice A1 m1 c1) (.slice A2 m2 c2) s (.slice E1 uu1 n1) (.slice E2 uu2 n2) (.slice E3 uu3 n3) (.slice E4 uu4 n4) (.slice E5 uu5 n5) (.slice E6 uu6 n6) (.slice E7 uu7 n7) C wx)
           case first=>
            go_wp2_with (first
             | (go_at_call 12;go_loud (refine CM (hbg) ?_);rintro e w1 ⟨u1,u2,rfl,ha1,hb1⟩;have HA1:=H_ ha1;have HB1:=H_ hb1;clear ha1 hb1)
             | (go_at_call 14;go_loud (refine CM (hen _ _ w1 HA1.out HB1.out.size) ?_);rintro e w2 ⟨v1',v2',rfl,ha2,hb2⟩;obtain ⟨B1,m1',c1',rfl⟩:=ha2.t.cap;obtain ⟨B2,m2',c2',rfl⟩:=ha2.g.cap;have HA2:=H_ ha2;have HB2:=H_ hb2;clear ha2 hb2;have HZ:=H_ (heap_at_new w2 (oSZ) w2.heap.size rfl))
             | (refine st_sy rfl (.tmp 15) (.tmp 82) rfl rfl w2.heap.size rfl rfl HZ.out rfl ?_))
            go_meet
            case rel=>exact ⟨w2.heap.size,_,_,rfl,BP.new HA2.out (fun z hz h=>h),((HL.out.step HB1.out).step HB2.out).step (bl_new _ _)⟩
           case rest=>
            clear HL hbg hen y0 y1 y2 y3 y4 y5;obtain ⟨X5,b1,b2,rfl,hx5,hl⟩:=hcut;obtain ⟨B1,n1',k1',rfl⟩:=hx5.a.t.cap;obtain ⟨B2,n2',k2',rfl⟩:=hx5.a.g.cap;have HL:=H_ hl;have HX5:=H_ hx5;clear hl hx5;have hsm:=rSame_w43 s s _ _ _ _ (fun z=>z≠t∧z≠Y) wc HX5.out.a HL.out.y.a;rw [sameS_self] at hsm;have hx:=(HL.out.y).x;(try dsimp only at hx);obtain ⟨y0,y1,y2,y3,y4,y5⟩:=cs6 hx;clear hx;have hx:=(HX5.out).x;(try dsimp only at hx);obtain ⟨z0,z1,z2,z3,z4,z5⟩:=cs6 hx;clear hx
            go_wp2_with (go_at_call 10;go_loud (refine CM hsm ?_);rintro e w3 ⟨rfl,hb3⟩)
            go_roundw
            case rel=>exact ⟨j+1,_,_,by go_num,by omega,by rw [←HSN.out,ES.out];exact HL.out.step hb3⟩
            case measure=>simp [intOf];omega
          ·obtain rfl:b7=false:=by rw [hb7];cases dj <;> cases gj <;> first | rfl | exact absurd ⟨rfl,rfl⟩ hno
           clear hb7;obtain ⟨sx,hsx⟩:∃sx,sx={s with going:=outL s.going j}:=⟨_,rfl⟩
           have hen:=fun (u1 u2:Value) (W:World) (ha:SyA W (fun z=>z≠t∧z≠Y) u1 u2 s) (hb:V.heap.size≤W.heap.size)=>pEnded_w s j 0 u1 u2 (fun z=>z≠t∧z≠Y) W ha (fun z hz=>HL.out.ge z (by omega));rw [ended_zero H1.out,←hsx] at hen;have hox:SyOk sx:=by rw [hsx,←ended_zero H1.out];exact HO.out.ended _ _
           obtain ⟨sb,hsb⟩:∃sb,sb=begunS sx j:=⟨_,rfl⟩;have hbg:=fun (u1 u2:Value) (W:World) (ha:SyA W (fun z=>z≠t∧z≠Y) u1 u2 sx) (hb:V.heap.size≤W.heap.size)=>pBegun_w sx j u1 u2 (fun z=>z≠t∧z≠Y) W ha (by have:=hox.few;omega) hox.g (fun z hz=>HL.out.ge z (by omega));rw [←hsb] at hbg;have hen2:=fun (u1 u2:Value) (W:World) (ha:SyA W (fun z=>z≠t∧z≠Y) u1 u2 sb) (hb:V.heap.size≤W.heap.size)=>pEnded_w sb j 0 u1 u2 (fun z=>z≠t∧z≠Y) W ha (fun z hz=>HL.out.ge z (by omega));rw [show endedS sb j 0=sN by rw [hsb,hsx,later_y H1.out];exact HN.out] at hen2;have l1:sN.todo.length≤s.todo.length:=by rw [←HN.out];exact outL_len _ _
           have l2:sN.going.length≤s.going.length:=by rw [←HN.out];exact outL_len _ _
           have l3:sN.todo.length+sN.going.length<s.todo.length+s.going.length:=by
            cases dj with
            | true=>
             have:=outL_lt (HMD.out.2 rfl);rw [←HN.out] at l2 ⊢
             show (outL s.todo j).length+(outL s.going j).length<_
             have l2:(outL s.going j).length≤s.going.length:=l2;omega
            | false=>
             cases gj with
             | true=>
              have:=outL_lt (HMG.out.2 rfl);rw [←HN.out] at l1 ⊢
              show (outL s.todo j).length+(outL s.going j).length<_
              have l1:(outL s.todo j).length≤s.todo.length:=l1;omega
             | false=>exact absurd ⟨rfl,rfl⟩ hno
           have l4:=HO.out.few;have hes:gj=false→sx=s:=fun hg=>by rw [hsx,outL_no (fun h=>by have:=HMG.out.1 h;rw [hg] at this;cases this)]
           have HES:=H_ hes;have LEN:=H_ (And.intro l1 (And.intro l2 (And.intro l3 l4)));have HM1:=H_ hm1;have HM2:=H_ hm2;clear hsx hsb hox hes l1 l2 l3 l4 hm1 hm2
           go_upto_region 17 with fail
           go_cut [16] (fun s16 wx=>∃X6 b1 b2,s16 = .pointer (some ⟨X6,0,none⟩)∧BP (fun z=>z≠t∧z≠Y) X6 b1 b2 sx wx∧LSy w t X Y (.slice A1 m1 c1) (.slice A2 m2 c2) s (.slice E1 uu1 n1) (.slice E2 uu2 n2) (.slice E3 uu3 n3) (.slice E4 uu4 n4) (.slice E5 uu5 n5) (.slice E6 uu6 n6) (.slice E7 uu7 n7) C wx∧Below V.heap.size V wx)
           case first=>
            have hen0:=hen _ _ V HL.out.y.a (Nat.le_refl _)
            go_wp2_with (first
             | (go_at_call 14;go_loud (refine CM (hen0) ?_);rintro e w2 ⟨v1',v2',rfl,ha2,hb2⟩;obtain ⟨B1,m1',c1',rfl⟩:=ha2.t.cap;obtain ⟨B2,m2',c2',rfl⟩:=ha2.g.cap;have HA2:=H_ ha2;have HB2:=H_ hb2;clear ha2 hb2;have HZ:=H_ (heap_at_new w2 (oSZ) w2.heap.size rfl))
             | (refine st_sy rfl (.tmp 16) (.tmp 89) rfl rfl w2.heap.size rfl rfl HZ.out rfl ?_))
            go_meet
            case rel=>exact ⟨w2.heap.size,_,_,rfl,BP.new HA2.out (fun z hz h=>h),(HL.out.step HB2.out).step (bl_new _ _),HB2.out.trans ((bl_new _ _).mono HB2.out.size)⟩
           case rest=>
            clear HL y0 y1 y2 y3 y4 y5 hen;obtain ⟨X6,b1,b2,rfl,hx6,hl,hbV⟩:=hcut;obtain ⟨B1,n1',k1',rfl⟩:=hx6.a.t.cap;obtain ⟨B2,n2',k2',rfl⟩:=hx6.a.g.cap;have HL:=H_ hl;have HX6:=H_ hx6;have HBV:=H_ hbV;clear hl hx6 hbV;have hx:=(HL.out.y).x;(try dsimp only at hx);obtain ⟨y0,y1,y2,y3,y4,y5⟩:=cs6 hx;clear hx;have hx:=(HX6.out).x;(try dsimp only at hx);obtain ⟨z0,z1,z2,z3,z4,z5⟩:=cs6 hx;clear hx
            go_upto_region 18 with fail
            go_cut [100] (fun s100 wx=>s100 = .bool false∧BP (fun z=>z≠t∧z≠Y) X6 (.slice B1 n1' k1') (.slice B2 n2' k2') sx wx∧LSy w t X Y (.slice A1 m1 c1) (.slice A2 m2 c2) s (.slice E1 uu1 n1) (.slice E2 uu2 n2) (.slice E3 uu3 n3) (.slice E4 uu4 n4) (.slice E5 uu5 n5) (.slice E6 uu6 n6) (.slice E7 uu7 n7) C wx∧Below V.heap.size V wx)
            case first=>
             cases gj with
             | true=>
              cases dj with
              | true=>
               go_wp2;go_meet
               case rel=>exact ⟨rfl,HX6.out,HL.out,HBV.out⟩
              | false=>
               go_wp2;go_meet
               case rel=>exact ⟨rfl,HX6.out,HL.out,HBV.out⟩
             | false=>
              cases dj with
              | true=>
               have hsm:=rSame_w43 sx s _ _ _ _ (fun z=>z≠t∧z≠Y) wc HX6.out.a HL.out.y.a;rw [show sameS sx s=true by rw [HES.out rfl];exact sameS_self s] at hsm
               go_wp2_with (go_at_call 10;go_loud (refine CM hsm ?_);rintro e w3 ⟨rfl,hb3⟩)
               go_meet
               case rel=>exact ⟨rfl,HX6.out.step hb3,HL.out.step hb3,HBV.out.trans (hb3.mono HBV.out.size)⟩
              | false=>exact absurd ⟨rfl,rfl⟩ hno
            case rest=>
             clear HL HX6 HBV y0 y1 y2 y3 y4 y5 z0 z1 z2 z3 z4 z5;obtain ⟨rfl,hx6,hl,hbV⟩:=hcut;have HL:=H_ hl;have HX6:=H_ hx6;have HBV:=H_ hbV;clear hl hx6 hbV;have hx:=(HX6.out).x;(try dsimp only at hx);obtain ⟨z0,z1,z2,z3,z4,z5⟩:=cs6 hx;clear hx;have hbg0:=hbg _ _ wc HX6.out.a HBV.out.size
             go_upto_region 20 with fail
             go_cut [17] (fun s17 wx=>∃X7 b1 b2,s17 = .pointer (some ⟨X7,0,none⟩)∧BP (fun z=>z≠t∧z≠Y) X7 b1 b2 sN wx∧LSy w t X Y (.slice A1 m1 c1) (.slice A2 m2 c2) s (.slice E1 uu1 n1) (.slice E2 uu2 n2) (.slice E3 uu3 n3) (.slice E4 uu4 n4) (.slice E5 uu5 n5) (.slice E6 uu6 n6) (.slice E7 uu7 n7) C wx)
             case first=>
              have hbs:=HBV.out.size
              go_wp2_with (first
               | (go_at_call 12;go_loud (refine CM (hbg0) ?_);rintro e w1 ⟨u1,u2,rfl,ha1,hb1⟩;have HA1:=H_ ha1;have HB1:=H_ hb1;clear ha1 hb1)
               | (go_at_call 14;go_loud (refine CM (hen2 _ _ w1 HA1.out (Nat.le_trans hbs HB1.out.size)) ?_);rintro e w2 ⟨v1',v2',rfl,ha2,hb2⟩;obtain ⟨B1,m1',c1',rfl⟩:=ha2.t.cap;obtain ⟨B2,m2',c2',rfl⟩:=ha2.g.cap;have HA2:=H_ ha2;have HB2:=H_ hb2;clear ha2 hb2;have HZ:=H_ (heap_at_new w2 (oSZ) w2.heap.size rfl))
               | (refine st_sy rfl (.tmp 17) (.tmp 105) rfl rfl w2.heap.size rfl rfl HZ.out rfl ?_))
              go_meet
              case rel=>exact ⟨w2.heap.size,_,_,rfl,BP.new HA2.out (fun z hz h=>h),((HL.out.step HB1.out).step HB2.out).step (bl_new _ _)⟩
             case rest=>
              clear HL HX6 HBV z0 z1 z2 z3 z4 z5 hbg hbg0 hen2;obtain ⟨X7,b1,b2,rfl,hx7,hl⟩:=hcut;obtain ⟨D1,p1,k1,rfl⟩:=hx7.a.t.cap;obtain ⟨D2,p2,k2,rfl⟩:=hx7.a.g.cap;have hp1:p1=sN.todo.length:=hx7.a.m1;have hp2:p2=sN.going.length:=hx7.a.m2;have HL:=H_ hl;have HX7:=H_ hx7;clear hl hx7;have q1:p1≤m1:=by rw [hp1,HM1.out];exact LEN.out.1
              have q2:p2≤m2:=by rw [hp2,HM2.out];exact LEN.out.2.1
              have q3:p1+p2<m1+m2:=by rw [hp1,hp2,HM1.out,HM2.out];exact LEN.out.2.2.1
              have q4:m1+m2≤16:=by rw [HM1.out,HM2.out];exact LEN.out.2.2.2
              clear hp1 hp2;have t1:decide ((m1:Int)+(m2:Int)≤(p1:Int)+(p2:Int))=false:=dF (by omega);have t2:decide ((m1:Int)<(p1:Int))=false:=dF (by omega);have t3:decide ((m2:Int)<(p2:Int))=false:=dF (by omega);have hx:=(HL.out.y).x;(try dsimp only at hx);obtain ⟨y0,y1,y2,y3,y4,y5⟩:=cs6 hx;clear hx;have hx:=(HX7.out).x;(try dsimp only at hx);obtain ⟨z0,z1,z2,z3,z4,z5⟩:=cs6 hx;clear hx;have hYb:=HL.out.y.x
              go_wp2_with (refine st_sy rfl (.tmp 8) (.tmp 139) rfl rfl Y rfl rfl hYb rfl ?_)
              go_roundw
              case rel=>exact ⟨j+1,_,_,by go_num,by omega,by rw [←HSN.out];exact HL.out.put HX7.out.a⟩
              case measure=>simp [intOf];omega
      ·obtain rfl:j=8:=by omega
       rw [frS_end] at hl;obtain ⟨A1,m1,c1,rfl⟩:=hl.y.a.t.cap;obtain ⟨A2,m2,c2,rfl⟩:=hl.y.a.g.cap;have em1:m1=0:=hl.y.a.m1;have em2:m2=0:=hl.y.a.m2;subst em1 em2;have hx:=hl.y.x
       (try dsimp only at hx)
       obtain ⟨x0,x1,x2,x3,x4,x5⟩:=cs6 hx;have hnx:Calls Tryz.prog 18 #[syV ⟨k,y.size,1,[],[],false⟩ (.slice A1 0 c1) (.slice A2 0 c2)] wr (RetSy ⟨k,y.size,2,[],[],false⟩ (fun z=>z≠t∧z≠Y) wr):=pNext_w43 ⟨k,y.size,1,[],[],false⟩ _ _ (fun z=>z≠t∧z≠Y) wr hl.y.a hl.ge;have HT:=H_ hl.tp;have hfl:=fun (v1 v2:Value) w=>sfld_w k y.size 2 v1 v2 false w;clear hx hl
       go_wp2_with (first
        | (go_at_call 18;go_loud (refine CM hnx ?_);rintro e w7 ⟨v1,v2,rfl,ha,hb7⟩;have HB7:=H_ (HT.out.2.1.trans (hb7.mono HT.out.2.1.size));clear ha hb7;unfold syV)
        | (go_at_call 22;go_loud (refine CM (awake_w _ (HBT.out _ HB7.out)) ?_);rintro e w8 ⟨rfl,hb8⟩))
       go_ret;exact ⟨rfl,HB7.out.trans (hb8.mono HB7.out.size)⟩
end
end Go.Proofs.YthhekebemmckcaaGreatDoor
