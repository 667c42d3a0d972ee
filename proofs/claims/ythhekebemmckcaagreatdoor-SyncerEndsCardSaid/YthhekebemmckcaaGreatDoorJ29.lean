/-
  Lemmas and contracts for the laws of synchronisations (layer 43), part 29; several texts joined by a program.
-/
import Derived.Test.YthhekebemmckcaaGreatDoorJ01
import Derived.Test.YthhekebemmckcaaGreatDoorJ06
import Derived.Test.YthhekebemmckcaaGreatDoorJ17
import Derived.Test.YthhekebemmckcaaGreatDoorJ26
import Derived.Test.YthhekebemmckcaaGreatDoorJ28
namespace Go.Proofs.YthhekebemmckcaaGreatDoor
set_option linter.unusedVariables false
set_option linter.unusedSimpArgs false
set_option maxRecDepth 100000
set_option maxHeartbeats 16000000
open Go.RowKit
section
def putL (p:Int):List Int→List Int
 | []=>[p]
 | x :: l=>if p≤x then p :: outL (x :: l) p else x :: putL p l
theorem putL_len (p:Int):∀l,(putL p l).length≤l.length+1
 | []=>by simp [putL]
 | x :: l=>by
  unfold putL
  split
  ·have:=outL_len (x :: l) p;simp at this ⊢;omega
  ·have:=putL_len p l;simp;omega
def restL (p:Int) (t:Bool) (l:List Int):List Int:=if t then outL l p else putL p l
def begunS (s:Sy) (p:Int):Sy:=if s.stage=1∧p ∈ s.todo then {s with todo:=outL s.todo p,going:=putL p s.going} else s
theorem restL_place {p x:Int} {l:List Int} (h:p≤x):restL p false (x :: l)=p :: restL p true (x :: l):=by
 unfold restL putL;rw [if_pos h];rfl
theorem restL_take {p x:Int} {l:List Int} {t:Bool} (hne:x≠p) (h:t=false→x<p):restL p t (x :: l)=x :: restL p t l:=by
 unfold restL
 cases t with
 | true=>show outL (x :: l) p=_;unfold outL;rw [List.filter_cons,if_pos (bne_iff_ne.2 hne)];rfl
 | false=>show putL p (x :: l)=_;rw [putL,if_neg (by have:=h rfl;omega)];rfl
theorem restL_skip {p:Int} {l:List Int}:restL p true (p :: l)=restL p true l:=by
 show outL (p :: l) p=outL l p
 unfold outL;rw [List.filter_cons,if_neg (by simp)]
theorem SyB.grown {w W W':World} {S1:Nat→Prop} {v1 v2:Value} {s:Sy} (h:SyB w S1 v1 v2 s W) {r:Option Nat} (hg:W.grownBy W' r) (hr:∀b,r=some b→¬S1 b∧w.heap.size+1<b):SyB w S1 v1 v2 s W':=
 ⟨(hg.block _ (bk_lt h.x) (fun e=>by have:=(hr _ e.symm).2;omega)).trans h.x,(hg.block _ (bk_lt h.r) (fun e=>by have:=(hr _ e.symm).2;omega)).trans h.r,h.a.kept ⟨hg.size,fun z hz hl=>hg.block z hl fun e=>(hr z e.symm).1 hz⟩,h.b.grown hg h.b.size (fun b hb=>by have:=(hr b hb).2;omega),h.s1⟩
theorem SyB.weak {w W:World} {S1 S2:Nat→Prop} {v1 v2:Value} {s:Sy} (h:SyB w S1 v1 v2 s W) (hS:∀z,z<W.heap.size→S1 z→S2 z) (hs:∀z,S2 z→z≠w.heap.size∧z≠w.heap.size+1):SyB w S2 v1 v2 s W:=⟨h.x,h.r,h.a.weak hS,h.b,hs⟩
theorem LO.base_size {α:Type} {k:Nat} {R:RR α k} {e:TypeId} {w:World} {base:Nat} {S:Nat→Prop} {v:Value} {L:List α} (_:LO R e w base S v L) {n:Nat} (hb:n≤w.heap.size):n≤w.heap.size:=hb
theorem rBegun_w (s:Sy) (p:Int) (v1 v2:Value) (S:Nat→Prop) (w:World) (h:SyA w S v1 v2 s) (hg64:s.going.length≤64) (hS:∀z,w.heap.size≤z→S z):Calls Tryz.prog 13 #[syV s v1 v2,.int .i64 p] w (RetSy (begunS s p) S w):=by
 obtain ⟨A1,m1,c1,e1⟩:=h.t.cap;obtain ⟨A2,m2,c2,e2⟩:=h.g.cap;subst e1 e2;have HM1:=H_ h.m1;have HM2:=H_ h.m2;obtain ⟨S1,s1,s2,s3⟩:=s1set hS;replace h:=h.weak s3;clear s3;have hlt:=h.lt;have hlg:=h.lg;have HS:=H_ (SyB.start h (fun z hz=>(s1 z hz).2));clear h;have hat:=fun W' (hb:SyB w S1 (.slice A1 m1 c1) (.slice A2 m2 c2) s W')=>at_w s.todo p (.slice A1 m1 c1) S1 W' hb.a.t;go_enter Tryz.func13,Tryz.ntmps13
 go_upto_region 1 with fail
 generalize (w.alloc _).alloc _=W at HS;obtain ⟨x0,x1,x2,x3,x4,x5⟩:=cs6 HS.out.x
 by_cases hst:s.stage=1
 ·have d1:(s.stage != 1)=false:=by simp [hst]
  by_cases hm:p ∈ s.todo
  ·have HG:=H_ (show begunS s p={s with todo:=outL s.todo p,going:=putL p s.going} by unfold begunS;rw [if_pos ⟨hst,hm⟩])
   have d2:¬atL s.todo p<0:=fun h=>mem_at.1 h hm;generalize atL s.todo p=q at hat d2;have hwo:=without43_w s.todo p (.slice A1 m1 c1) S1 W HS.out.a.t (by omega) (fun z hz=>s2 z (by have:=HS.out.fresh;omega));have ha0:=hat W HS.out;clear hst hm hat
   go_upto_region 4 with (first
    | (go_at_call 35;(with_reducible refine CM ha0 ?_);rintro e w1 ⟨rfl,rfl⟩)
    | (go_at_call 36;go_loud (refine CM hwo ?_);rintro e w1 ⟨u,rfl,hu,hb1⟩;obtain ⟨B1,n1,k1,rfl⟩:=hu.cap;have HS1:=H_ (HS.out.step hb1);have hX1:=HS1.out.x;have y3:=cells_at hX1 3;have fz:=free_at hX1 3;simp only [List.getElem?_toArray,List.getElem?_cons_zero,List.getElem?_cons_succ] at y3;clear hX1))
   have HS2:=H_ (HS1.out.set 3 (.slice B1 n1 k1) (s':={s with todo:=outL s.todo p}) ⟨hu,HS1.out.a.g,Nat.le_trans (outL_len _ _) hlt,hlg⟩ rfl)
   clear hu hb1 x0 x1 x2 x3 x4 x5 y3 fz;generalize w1.setCell _ _=W2 at HS2;obtain ⟨N,hN0⟩:∃N,N=W2.heap.size:=⟨_,rfl⟩;have hNw:w.heap.size+1<N:=by have:=HS2.out.fresh;omega
   have HS3:=H_ (HS2.out.weak (S2:=fun z=>S1 z∧z<N) (fun z hz h=>⟨h,by omega⟩) (fun z hz=>(s1 z hz.1).2));have hm2:=HM2.out;have hm64:m2≤64:=by omega
   have HM:=H_ hm2;have HNN:=H_ hN0;clear HS HS1 HS2 hN0 hm2;go_wp2
   go_loopw [5,6,7] (fun s5 s6 s7 wx=>∃(k:Nat) (t:Bool) (acc:List Int),s7 = .int .i64 (k:Int)∧k≤m2∧s6 = .bool t∧acc ++ restL p t (s.going.drop k)=putL p s.going∧acc.length≤2*k∧LO IntR 3 wx N (fun _=>False) s5 acc∧N≤wx.heap.size∧SyB w (fun z=>S1 z∧z<N) (.slice B1 n1 k1) (.slice A2 m2 c2) {s with todo:=outL s.todo p} wx) (fun _ _ s7 _=>m2 - (intOf s7).toNat)
   case atStart=>exact ⟨0,false,[],rfl,by omega,rfl,rfl,by simp,LO.nil _ _ _ _ _,by rw [HNN.out];exact Nat.le_refl _,HS3.out⟩
   case round=>
    clear HS3;obtain ⟨V5,hV5⟩:∃V5,V5=u5:=⟨_,rfl⟩;subst hV5;obtain ⟨k,t,acc,rfl,hk,rfl,hac,hal,ho,hN,hSB⟩:=hrel;have HAC:=H_ hac;have HO:=H_ ho;have HB:=H_ hSB;have hX:=hSB.x
    dsimp only at hX
    obtain ⟨x0,x1,x2,x3,x4,x5⟩:=cs6 hX;clear hac ho hSB hX
    by_cases hlt':k<m2
    ·obtain ⟨x,hx⟩:∃x,s.going[k]?=some x:=⟨_,List.getElem?_eq_getElem (by rw [←HM.out];exact hlt')⟩;have HD:=H_ (show s.going.drop k=x :: s.going.drop (k+1) from by obtain ⟨h1,h2⟩:=List.getElem?_eq_some_iff.1 hx;rw [←h2];exact List.drop_eq_getElem_cons h1);have HXX:=H_ hx;obtain ⟨b8,o8,cap8,hv8,_,_,hb8,_,c0⟩:=IL.cell HB.out.a.g hx;injection hv8 with e1 e2 e3
     subst e1 e3;clear e2 hx;obtain ⟨l',hl'⟩:∃l',l'=s.going.drop (k+1):=⟨_,rfl⟩;rw [←hl'] at HD;have HL:=H_ hl';rw [HD.out] at HAC;clear hl'
     go_upto_region 9 with fail
     go_cut [41] (fun s41 wy=>s41 = .bool (!t&&decide (p≤x))∧LO IntR 3 wy N (fun _=>False) V5 acc∧N≤wy.heap.size∧SyB w (fun z=>S1 z∧z<N) (.slice B1 n1 k1) (.slice (some ⟨b8,o8,none⟩) m2 c2) {s with todo:=outL s.todo p} wy)
     case first=>
      cases t with
      | true=>
       go_wp2;go_meet
       case rel=>exact ⟨rfl,HO.out,hN,HB.out⟩
      | false=>
       by_cases hxp:p≤x
       ·go_wp2;go_meet
        case rel=>exact ⟨by simp [hxp],HO.out,hN,HB.out⟩
       ·have hxp':x<p:=by omega
        go_wp2;go_meet
        case rel=>exact ⟨by simp [hxp],HO.out,hN,HB.out⟩
     case rest=>
      clear HO HB hN;obtain ⟨rfl,ho,hN,hSB⟩:=hcut;have HO:=H_ ho;have HB:=H_ hSB;clear x0 x1 x2 x3 x4 x5 c0 ho hSB
      go_upto_if 41 with fail
      go_cut [5,6] (fun s5 s6 wy=>∃(t':Bool) (acc':List Int),s6 = .bool t'∧acc' ++ restL p t' (x :: l')=putL p s.going∧(t'=false→x<p)∧acc'.length≤2*k+1∧LO IntR 3 wy N (fun _=>False) s5 acc'∧N≤wy.heap.size∧SyB w (fun z=>S1 z∧z<N) (.slice B1 n1 k1) (.slice (some ⟨b8,o8,none⟩) m2 c2) {s with todo:=outL s.todo p} wy)
      case first=>
       cases hc:(!t&&decide (p≤x)) with
       | true=>
        obtain ⟨h1,h2⟩:=Bool.and_eq_true_iff.1 hc;obtain rfl:t=false:=by cases t with | true=>cases h1 | false=>rfl
        have HR:=H_ (restL_place (l:=l') (of_decide_eq_true h2));clear hc h1 h2
        go_wp2_with (at_builtin;go_loud (refine wpList_push IntR int_el rfl (.tmp 42) (.tmp 44) rfl _ N (fun _=>False) acc rfl (HO.out.alloc _) (by have:=HO.out.base_size hN;simp;omega) (by omega) _ #[.int .i64 p] rfl _ (heap_at_new _ _ _ rfl) p rfl ?_);intro v4 w4 hown4 hg4 hat4)
        go_meet
        case rel=>exact ⟨true,acc ++ [p],rfl,by rw [List.append_assoc,←HAC.out,HR.out];rfl,(fun h=>by cases h),by simp;omega,hown4,by have:=hg4.size;simp at this;omega,(HB.out.step (bl_alloc B_ _)).grown hg4 (fun b hb=>by have:=(HO.out.own hb).1;exact ⟨fun h=>by omega,by omega⟩)⟩
       | false=>
        have HXP:=H_ (show t=false→x<p from fun h=>by rw [h] at hc;have:=of_decide_eq_false hc;omega);clear hc;go_wp2;go_meet
        case rel=>exact ⟨t,acc,rfl,HAC.out,HXP.out,by omega,HO.out,hN,HB.out⟩
      case rest=>
       clear HO HB HAC hN;obtain ⟨t',acc',rfl,hac,htp,hal',ho,hN,hSB⟩:=hcut;have HAC:=H_ hac;have HTP:=H_ htp;have HO:=H_ ho;have HB:=H_ hSB;have hX:=hSB.x
       dsimp only at hX
       obtain ⟨x0,x1,x2,x3,x4,x5⟩:=cs6 hX;obtain ⟨b9,o9,cap9,hv9,_,_,hb9,_,c0⟩:=IL.cell hSB.a.g HXX.out;injection hv9 with e1 e2 e3
       injection e1 with e1
       injection e1 with e4 e5
       subst e4 e5;clear e2 e3 hac ho hSB hX htp hb8
       by_cases hxp:x=p
       ·subst hxp;obtain rfl:t'=true:=by cases t' with | true=>rfl | false=>exact absurd (HTP.out rfl) (Int.lt_irrefl _)
        have HR:=H_ (restL_skip (p:=x) (l:=l'));clear HTP;go_wp2;go_roundw
        case rel=>exact ⟨k+1,true,acc',by go_num,by omega,rfl,by rw [←HL.out,←HR.out];exact HAC.out,by omega,HO.out,hN,HB.out⟩
        case measure=>simp [intOf];omega
       ·have HR:=H_ (restL_take (l:=l') (t:=t') hxp HTP.out);clear HTP
        go_wp2_with (at_builtin;go_loud (refine wpList_push IntR int_el rfl (.tmp 53) (.tmp 59) rfl _ N (fun _=>False) acc' rfl (HO.out.alloc _) (by have:=HO.out.base_size hN;simp;omega) (by omega) _ #[.int .i64 x] rfl _ (heap_at_new _ _ _ rfl) x rfl ?_);intro v4 w4 hown4 hg4 hat4)
        go_roundw
        case rel=>exact ⟨k+1,t',acc' ++ [x],by go_num,by omega,rfl,by rw [←HL.out,List.append_assoc,←HAC.out,HR.out];rfl,by simp;omega,hown4,by have:=hg4.size;simp at this;omega,(HB.out.step (bl_alloc B_ _)).grown hg4 (fun b hb=>by have:=(HO.out.own hb).1;exact ⟨fun h=>by omega,by omega⟩)⟩
        case measure=>simp [intOf];omega
    ·obtain rfl:k=m2:=by omega
     rw [show s.going.drop k=[] from List.drop_eq_nil_of_le (by rw [←HM.out];exact Nat.le_refl _)] at HAC
     go_upto_if 62 with fail
     go_cut [5] (fun s5 wy=>LO IntR 3 wy N (fun _=>False) s5 (putL p s.going)∧N≤wy.heap.size∧SyB w (fun z=>S1 z∧z<N) (.slice B1 n1 k1) (.slice A2 k c2) {s with todo:=outL s.todo p} wy)
     case first=>
      cases t with
      | true=>
       have hE:=HAC.out;rw [show restL p true []=[] from rfl,List.append_nil] at hE;rw [hE] at HO;clear hE;go_wp2;go_meet
       case rel=>exact ⟨HO.out,hN,HB.out⟩
      | false=>
       have HE:=H_ (show acc ++ [p]=putL p s.going from HAC.out)
       go_wp2_with (at_builtin;go_loud (refine wpList_push IntR int_el rfl (.tmp 63) (.tmp 65) rfl _ N (fun _=>False) acc rfl (HO.out.alloc _) (by have:=HO.out.base_size hN;simp;omega) (by omega) _ #[.int .i64 p] rfl _ (heap_at_new _ _ _ rfl) p rfl ?_);intro v4 w4 hown4 hg4 hat4)
       go_meet
       case rel=>exact ⟨by rw [←HE.out];exact hown4,by have:=hg4.size;simp at this;omega,(HB.out.step (bl_alloc B_ _)).grown hg4 (fun b hb=>by have:=(HO.out.own hb).1;exact ⟨fun h=>by omega,by omega⟩)⟩
     case rest=>
      clear HO HB HAC x0 x1 x2 x3 x4 x5;obtain ⟨ho,hN',hSB⟩:=hcut;obtain ⟨wz,hwz⟩:∃z,z=wc:=⟨_,rfl⟩;subst hwz;have hog:=ho.la (S':=S1) (fun _ _ h=>h.elim) (fun z hz=>s2 z (by omega));obtain ⟨C2,n2,k2,rfl⟩:=hog.cap;have HSB:=H_ (hSB.weak (S2:=S1) (fun z hz h=>h.1) (fun z hz=>(s1 z hz).2));have hX:=HSB.out.x
      dsimp only at hX
      have fz:=free_at hX 4;have HS5:=H_ (HSB.out.set 4 (.slice C2 n2 k2) (s':={s with todo:=outL s.todo p,going:=putL p s.going}) ⟨HSB.out.a.t,hog,HSB.out.a.lt,Nat.le_trans (putL_len p s.going) (by omega)⟩ rfl)
      obtain ⟨x0,x1,x2,x3,x4,x5⟩:=cs6 hX;clear hX ho hSB
      go_upto_region 17 with fail
      generalize World.setCell wz _ _=W5 at HS5;have hX:=HS5.out.x
      dsimp only at hX
      obtain ⟨x0,x1,x2,x3,x4,x5⟩:=cs6 hX;clear hX
      go_wp2_with (refine st_sy rfl (.tmp 4) (.tmp 69) rfl rfl (w.heap.size+1) rfl rfl (HS5.out).r rfl ?_)
      show bodyPost Tryz.prog Tryz.f13 _ _ _ _
      refine bodyPost_ret (sy_res rfl _ _ (w.heap.size+1) _ _ _ _ _ _ _ _ rfl (setRow_heap _ _ _ _ _ _ (HS5.out).r)) rfl ?_;obtain ⟨r1,r2⟩:=(HS5.out).back (fun z hz=>(s1 z hz).1) #[.int .i64 s.file,.int .i64 s.size,.int .i64 s.stage,.slice B1 n1 k1,.slice C2 n2 k2,.bool s.failed];rw [HG.out];exact ⟨_,_,rfl,r1,r2⟩
  ·have HG:=H_ (show begunS s p=s by unfold begunS;rw [if_neg (fun h=>hm h.2)]);have d2:atL s.todo p<0:=mem_at.2 hm;generalize atL s.todo p=q at hat d2;have ha0:=hat W HS.out;clear hst hm hat
   go_wp2_with (first
    | (go_at_call 35;(with_reducible refine CM ha0 ?_);rintro e w1 ⟨rfl,rfl⟩)
    | (refine st_sy rfl (.tmp 4) (.tmp 18) rfl rfl (w.heap.size+1) rfl rfl (HS.out).r rfl ?_))
   show bodyPost Tryz.prog Tryz.f13 _ _ _ _
   refine bodyPost_ret (sy_res rfl _ _ (w.heap.size+1) _ _ _ _ _ _ _ _ rfl (setRow_heap _ _ _ _ _ _ (HS.out).r)) rfl ?_;obtain ⟨r1,r2⟩:=(HS.out).back (fun z hz=>(s1 z hz).1) #[.int .i64 s.file,.int .i64 s.size,.int .i64 s.stage,.slice A1 m1 c1,.slice A2 m2 c2,.bool s.failed];rw [HG.out];exact ⟨_,_,rfl,r1,r2⟩
 ·have HG:=H_ (show begunS s p=s by unfold begunS;rw [if_neg (fun h=>hst h.1)]);have d1:(s.stage != 1)=true:=bne_iff_ne.2 hst;clear hst
  go_wp2_with (refine st_sy rfl (.tmp 4) (.tmp 18) rfl rfl (w.heap.size+1) rfl rfl (HS.out).r rfl ?_)
  show bodyPost Tryz.prog Tryz.f13 _ _ _ _
  refine bodyPost_ret (sy_res rfl _ _ (w.heap.size+1) _ _ _ _ _ _ _ _ rfl (setRow_heap _ _ _ _ _ _ (HS.out).r)) rfl ?_;obtain ⟨r1,r2⟩:=(HS.out).back (fun z hz=>(s1 z hz).1) #[.int .i64 s.file,.int .i64 s.size,.int .i64 s.stage,.slice A1 m1 c1,.slice A2 m2 c2,.bool s.failed];rw [HG.out];exact ⟨_,_,rfl,r1,r2⟩
end
section
theorem putL_perm (p:Int):∀l,(putL p l).Perm (outL l p ++ [p])
 | []=>List.Perm.refl _
 | x :: l=>by
  unfold putL
  split
  ·exact (List.perm_append_singleton p _).symm
  ·have hne:x≠p:=by omega
   have e:outL (x :: l) p=x :: outL l p:=by unfold outL;rw [List.filter_cons,if_pos (bne_iff_ne.2 hne)]
   rw [e];exact (putL_perm p l).cons x
theorem putL_mem {p x:Int} {l:List Int}:x ∈ putL p l↔x=p∨x ∈ l:=by
 rw [(putL_perm p l).mem_iff,List.mem_append,outL,List.mem_filter,List.mem_singleton,bne_iff_ne]
 constructor
 ·rintro (h | h)
  ·exact .inr h.1
  ·exact .inl h
 ·rintro (h | h)
  ·exact .inr h
  ·by_cases e:x=p
   ·exact .inr e
   ·exact .inl ⟨h,e⟩
theorem outL_asc {p:Int} {l:List Int} (h:l.Pairwise (·<·)):(outL l p).Pairwise (·<·):=h.filter _
theorem putL_asc {p:Int}:∀{l:List Int},l.Pairwise (·<·)→(putL p l).Pairwise (·<·)
 | [],_=>by unfold putL;exact List.pairwise_singleton _ _
 | x :: l,h=>by
  obtain ⟨h1,h2⟩:=List.pairwise_cons.1 h;unfold putL
  split
  ·rename_i hpx
   refine List.pairwise_cons.2 ⟨fun y hy=>?_,outL_asc h⟩;obtain ⟨m1,m2⟩:=List.mem_filter.1 hy;have m2:=bne_iff_ne.1 m2
   rcases List.mem_cons.1 m1 with rfl | m1
   ·omega
   ·have:=h1 y m1;omega
  ·refine List.pairwise_cons.2 ⟨fun y hy=>?_,putL_asc h2⟩
   rcases putL_mem.1 hy with rfl | hy
   ·omega
   ·exact h1 y hy
theorem sort_putL {p:Int} {l:List Int} (h:l.Pairwise (·<·)):(outL l p ++ [p]).mergeSort (fun x y=>decide (x≤y))=putL p l:=by
 refine List.Perm.eq_of_pairwise (le:=fun a b=>decide (a≤b)=true) (fun a b _ _ h1 h2=>by simp only [decide_eq_true_eq] at h1 h2;omega) (List.pairwise_mergeSort (fun a b c h1 h2=>by simp only [decide_eq_true_eq] at h1 h2 ⊢;omega) (fun a b=>by simp only [Bool.or_eq_true,decide_eq_true_eq];omega) _) ((putL_asc h).imp fun {a b} h=>by simp only [decide_eq_true_eq];omega) ((List.mergeSort_perm _ _).trans (putL_perm p l).symm)
theorem pBegun_w (s:Sy) (p:Int) (v1 v2:Value) (S:Nat→Prop) (w:World) (h:SyA w S v1 v2 s) (hg64:s.going.length≤64) (hasc:s.going.Pairwise (·<·)) (hS:∀z,w.heap.size≤z→S z):Calls Tryz.prog 12 #[syV s v1 v2,.int .i64 p] w (RetSy (begunS s p) S w):=by
 have HSO:=H_ (sort_putL (p:=p) hasc);clear hasc;obtain ⟨A1,m1,c1,e1⟩:=h.t.cap;obtain ⟨A2,m2,c2,e2⟩:=h.g.cap;subst e1 e2;have HM1:=H_ h.m1;have HM2:=H_ h.m2;obtain ⟨S1,s1,s2,s3⟩:=s1set hS;replace h:=h.weak s3;clear s3;have hlt:=h.lt;have hlg:=h.lg;have HS:=H_ (SyB.start h (fun z hz=>(s1 z hz).2));clear h;go_enter Tryz.func12,Tryz.ntmps12
 go_upto_region 1 with fail
 generalize (w.alloc _).alloc _=W at HS;obtain ⟨x0,x1,x2,x3,x4,x5⟩:=cs6 HS.out.x;clear x0 x1 x2 x3 x4 x5;obtain ⟨x0,x1,x2,x3,x4,x5⟩:=cs6 HS.out.x
 go_upto_region 2 with (first
  | (go_at_call 31;go_loud (refine CM (same_w43 s _ _ S1 W HS.out.a (fun z hz=>s2 z (by have:=HS.out.fresh;omega))) ?_);rintro e w1 ⟨v1',v2',rfl,ha1,hb1⟩;obtain ⟨A1,m1,c1,rfl⟩:=ha1.t.cap;obtain ⟨A2,m2,c2,rfl⟩:=ha1.g.cap;have HS1:=H_ (HS.out.step hb1))
  | (refine st_sy rfl (.tmp 2) (.tmp 6) rfl rfl w.heap.size rfl rfl HS1.out.x rfl ?_))
 have HS2:=H_ (HS1.out.row ha1);have HM1:=H_ ha1.m1;have HM2:=H_ ha1.m2;clear HS HS1 x0 x1 x2 x3 x4 x5 ha1 hb1;have HS:=HS2;clear HS2;generalize w1.setRow _ _=W at HS;obtain ⟨x0,x1,x2,x3,x4,x5⟩:=cs6 HS.out.x;have hat:=fun W' (hb:SyB w S1 (.slice A1 m1 c1) (.slice A2 m2 c2) s W')=>contains_w s.todo p (.slice A1 m1 c1) S1 W' hb.a.t
 by_cases hst:s.stage=1
 ·have d1:(s.stage != 1)=false:=by simp [hst]
  by_cases hm:p ∈ s.todo
  ·have HG:=H_ (show begunS s p={s with todo:=outL s.todo p,going:=putL p s.going} by unfold begunS;rw [if_pos ⟨hst,hm⟩])
   have d2:decide (0≤atL s.todo p)=true:=decide_eq_true (by have:=mt mem_at.1 (fun h=>h hm);omega);generalize atL s.todo p=q at hat d2;have hwo:=pwithout_la s.todo p (.slice A1 m1 c1) S1 W HS.out.a.t (by omega) (fun z hz=>s2 z (by have:=HS.out.fresh;omega));have ha0:=hat W HS.out;clear hst hm hat
   go_upto_region 5 with (first
    | (go_at_call 32;(with_reducible refine CM ha0 ?_);rintro e w1 ⟨rfl,rfl⟩)
    | (go_at_call 33;go_loud (refine CM hwo ?_);rintro e w1 ⟨u,rfl,hu,hb1⟩;obtain ⟨B1,n1,k1,rfl⟩:=hu.cap;have HS1:=H_ (HS.out.step hb1);have hX1:=HS1.out.x;have y3:=cells_at hX1 3;have fz:=free_at hX1 3;simp only [List.getElem?_toArray,List.getElem?_cons_zero,List.getElem?_cons_succ] at y3;clear hX1))
   have HS2:=H_ (HS1.out.set 3 (.slice B1 n1 k1) (s':={s with todo:=outL s.todo p}) ⟨hu,HS1.out.a.g,Nat.le_trans (outL_len _ _) hlt,hlg⟩ rfl)
   clear hu hb1 x0 x1 x2 x3 x4 x5 y3 fz hwo ha0;generalize w1.setCell _ _=W2 at HS2;obtain ⟨N,hN0⟩:∃N,N=W2.heap.size:=⟨_,rfl⟩;have hNw:w.heap.size+1<N:=by have:=HS2.out.fresh;omega
   have HS3:=H_ (HS2.out.weak (S2:=fun z=>S1 z∧z<N) (fun z hz h=>⟨h,by omega⟩) (fun z hz=>(s1 z hz.1).2));have hwo:=pwithout_w s.going p (.slice A2 m2 c2) S1 W2 HS2.out.a.g (by omega);rw [←hN0] at hwo;have hX:=HS3.out.x
   dsimp only at hX
   obtain ⟨x0,x1,x2,x3,x4,x5⟩:=cs6 hX;clear hX;have hol:=outL_len s.going p;have hN:N≤W2.heap.size:=by omega
   go_upto_region 6 with (first
    | (go_at_call 33;go_loud (refine CM hwo ?_);rintro e w3 ⟨u,rfl,hu,hb3⟩;have HU:=H_ (OwnZ.lo (S:=fun _=>False) hu);have hb3s:N≤w3.heap.size:=by have:=(HU.out.own (b:=0));rw [hN0];exact hb3.size)
    | (at_builtin;go_loud (refine wpList_push IntR int_el rfl (.tmp 26) (.tmp 28) rfl _ N (fun _=>False) (outL s.going p) rfl (HU.out.alloc _) (by simp;omega) (by omega) _ #[.int .i64 p] rfl _ (heap_at_new _ _ _ rfl) p rfl ?_);intro v4 w4 hown4 hg4 hat4;obtain ⟨C2,n2,k2,rfl⟩:=hown4.cap;have HS4:=H_ (((HS3.out.step (by rw [←hN0];exact hb3)).step (bl_alloc B_ (.cells #[.int .i64 p] 3))).grown hg4 (fun b hb=>by have:=(HU.out.own hb).1;exact ⟨fun h=>by omega,by omega⟩));have hX4:=HS4.out.x;dsimp only at hX4;have y4:=cells_at hX4 4;have fz:=free_at hX4 4;simp only [List.getElem?_toArray,List.getElem?_cons_zero,List.getElem?_cons_succ] at y4;clear hX4;have hs4:=hg4.size))
   have HOW:=H_ (OwnZ.of_lo hown4);have hog:=hown4.la (S':=S1) (fun _ _ h=>h.elim) (fun z hz=>s2 z (by omega));have HSW:=H_ (HS4.out.weak (S2:=S1) (fun z hz h=>h.1) (fun z hz=>(s1 z hz).2));have hln:(outL s.going p ++ [p]).length≤100:=by simp;omega
   have HS5:=H_ (HSW.out.set 4 (.slice C2 n2 k2) (s':={s with todo:=outL s.todo p,going:=outL s.going p ++ [p]}) ⟨HSW.out.a.t,hog,HSW.out.a.lt,hln⟩ rfl)
   have HT:=H_ (HS4.out.a.t.kept (w':=w4.setCell ⟨w.heap.size,4,none⟩ (.slice C2 n2 k2)) ⟨by simp [World.setCell],fun z hz _=>Below.heap_setCell w4 ⟨w.heap.size,4,none⟩ _ z (by show z≠w.heap.size;exact (s1 z hz.1).2.1)⟩);have HOW:=H_ (ownsRow_setCell_below (OwnZ.of_lo hown4) (a:=⟨w.heap.size,4,none⟩) (by show w.heap.size<N;omega) (.slice C2 n2 k2));have hN5:N≤(w4.setCell ⟨w.heap.size,4,none⟩ (.slice C2 n2 k2)).heap.size:=by have:=hb3.size;simp at hs4;simp [World.setCell];omega
   clear hown4 hg4 hat4 HS4 HSW x0 x1 x2 x3 x4 x5 y4 fz hog hs4 hwo;generalize w4.setCell _ _=W5 at HS5 HT HOW hN5;have hX:=HS5.out.x
   dsimp only at hX
   obtain ⟨x0,x1,x2,x3,x4,x5⟩:=cs6 hX;clear hX;have hso:=sort_own N (.slice C2 n2 k2) (outL s.going p ++ [p]) W5 HOW.out hN5 (by omega);rw [HSO.out] at hso
   go_upto_region 7 with (go_at_call 34;go_loud (refine CM hso ?_);rintro e w6 ⟨rfl,ho6,hg6⟩)
   have hne:∀z,(Value.slice C2 n2 k2).ownBlock=some z→N≤z:=fun z hz=>((OwnZ.lo (S:=Any) HOW.out).own hz).1;have hpl:=putL_len p s.going;have HS6:=H_ (show SyB w S1 (.slice B1 n1 k1) (.slice C2 n2 k2) {s with todo:=outL s.todo p,going:=putL p s.going} w6 from
    ⟨(hg6.block _ (bk_lt HS5.out.x) (fun e=>by have:=hne _ e.symm;omega)).trans HS5.out.x,(hg6.block _ (bk_lt HS5.out.r) (fun e=>by have:=hne _ e.symm;omega)).trans HS5.out.r,⟨(HT.out.kept ⟨hg6.size,fun z hz hl=>hg6.block z hl (fun e=>by have:=hne _ e.symm;have:=hz.2;omega)⟩).weak (fun z _ h=>h.1),(OwnZ.lo (S:=fun _=>False) ho6).la (fun _ _ h=>h.elim) (fun z hz=>s2 z (by omega)),HS5.out.a.lt,Nat.le_trans hpl (by omega)⟩,HS5.out.b.grown hg6 HS5.out.b.size (fun b hb=>by have:=hne b hb;omega),HS5.out.s1⟩)
   clear ho6 hg6 HS5 HT HOW x0 x1 x2 x3 x4 x5 hso;have hX:=HS6.out.x
   dsimp only at hX
   obtain ⟨x0,x1,x2,x3,x4,x5⟩:=cs6 hX;clear hX
   go_wp2_with (refine st_sy rfl (.tmp 4) (.tmp 34) rfl rfl (w.heap.size+1) rfl rfl (HS6.out).r rfl ?_)
   show bodyPost Tryz.prog Tryz.f12 _ _ _ _
   refine bodyPost_ret (sy_res rfl _ _ (w.heap.size+1) _ _ _ _ _ _ _ _ rfl (setRow_heap _ _ _ _ _ _ (HS6.out).r)) rfl ?_;obtain ⟨r1,r2⟩:=(HS6.out).back (fun z hz=>(s1 z hz).1) #[.int .i64 s.file,.int .i64 s.size,.int .i64 s.stage,.slice B1 n1 k1,.slice C2 n2 k2,.bool s.failed];rw [HG.out];exact ⟨_,_,rfl,r1,r2⟩
  ·have HG:=H_ (show begunS s p=s by unfold begunS;rw [if_neg (fun h=>hm h.2)]);have d2:decide (0≤atL s.todo p)=false:=decide_eq_false (by have:=mem_at.2 hm;omega);generalize atL s.todo p=q at hat d2;have ha0:=hat W HS.out;clear hst hm hat
   go_wp2_with (first
    | (go_at_call 32;(with_reducible refine CM ha0 ?_);rintro e w1 ⟨rfl,rfl⟩)
    | (refine st_sy rfl (.tmp 4) (.tmp 17) rfl rfl (w.heap.size+1) rfl rfl (HS.out).r rfl ?_))
   show bodyPost Tryz.prog Tryz.f12 _ _ _ _
   refine bodyPost_ret (sy_res rfl _ _ (w.heap.size+1) _ _ _ _ _ _ _ _ rfl (setRow_heap _ _ _ _ _ _ (HS.out).r)) rfl ?_;obtain ⟨r1,r2⟩:=(HS.out).back (fun z hz=>(s1 z hz).1) #[.int .i64 s.file,.int .i64 s.size,.int .i64 s.stage,.slice A1 m1 c1,.slice A2 m2 c2,.bool s.failed];rw [HG.out];exact ⟨_,_,rfl,r1,r2⟩
 ·have HG:=H_ (show begunS s p=s by unfold begunS;rw [if_neg (fun h=>hst h.1)]);have d1:(s.stage != 1)=true:=bne_iff_ne.2 hst;clear hst
  go_wp2_with (refine st_sy rfl (.tmp 4) (.tmp 17) rfl rfl (w.heap.size+1) rfl rfl (HS.out).r rfl ?_)
  show bodyPost Tryz.prog Tryz.f12 _ _ _ _
  refine bodyPost_ret (sy_res rfl _ _ (w.heap.size+1) _ _ _ _ _ _ _ _ rfl (setRow_heap _ _ _ _ _ _ (HS.out).r)) rfl ?_;obtain ⟨r1,r2⟩:=(HS.out).back (fun z hz=>(s1 z hz).1) #[.int .i64 s.file,.int .i64 s.size,.int .i64 s.stage,.slice A1 m1 c1,.slice A2 m2 c2,.bool s.failed];rw [HG.out];exact ⟨_,_,rfl,r1,r2⟩
end
section
theorem known_w (C:Ck) (i:Nat) (a b c d e f g:Value) (S:Nat→Prop) (w:World) (h:CkAt w S a b c d e f g C) (hi:i<C.files.length):Calls Tryz.prog 58 #[ckV a b c d e f g,.int .i64 i] w (RetB true w):=by
 obtain ⟨A,cap,rfl,_,_⟩:=h.files.form;have i0:(0:Int)≤(i:Int):=by omega
 have i1:(i:Int)<(C.files.length:Int):=by omega
 clear h;go_enter Tryz.func58,Tryz.ntmps58;go_wp2;go_ret;exact ⟨rfl,bl_alloc B_ _⟩
theorem usedP_w (C:Ck) (i:Nat) (x:Fr) (a b c d e f g:Value) (S:Nat→Prop) (w:World) (h:CkAt w S a b c d e f g C) (hi:C.frames[i]?=some x) (hl:C.frames.length≤100):Calls Tryz.prog 28 #[ckV a b c d e f g,.int .i64 ((i:Int)+1)] w (RetB (decide (0≤x.file)) w):=by
 obtain ⟨A,cap,rfl,q1,q2⟩:=h.frames.form;obtain ⟨bb,o,rfl,hbl,c0,_⟩:=FrA.cells h.frames hi;have hil:=(g_l hi);have HQ:=H_ (show decide (0≤x.file)=decide (0≤x.file) from rfl);have i0:(1:Int)≤(i:Int)+1:=by omega
 have i1:(i:Int)+1≤(C.frames.length:Int):=by omega
 have i2:i<C.frames.length:=hil;have i3:(i:Int)<(C.frames.length:Int):=by omega
 have i4:(i:Int)+1≤100:=by omega
 obtain ⟨fi,rest⟩:∃fi,fi=x.file:=⟨_,rfl⟩;rw [←rest] at c0 ⊢;clear h hi rest HQ;go_enter Tryz.func28,Tryz.ntmps28;go_wp2;go_ret;exact ⟨rfl,bl_alloc B_ _⟩
def RetFdP (v:Int) (w:World) (e:Ending) (w':World):Prop:=e = .returned (.tuple #[.int .i64 (max v 0),.bool (decide (0<v))])∧Below w.heap.size w w'
theorem getC_w (h:Nat) (c:Cn) (A:Option Addr) (cap:Nat) (S:Nat→Prop) (i:Int) (w:World) (hl:leafy c) (ht:TreeOk h c) (hcap:(cano h c).kids.length≤cap) (hk:NK w S A (cano h c).kids):Calls Tryz.prog 59 #[trV h A (cano h c).kids.length cap (cano h c).val (cano h c).marks,.int .i64 i] w (RetI (getR c i) w):=get_w h c A cap S i w hl ht hcap hk
theorem findP_w (C:Ck) (i:Nat) (x:Fl) (p:Int) (a b c d e f g:Value) (S:Nat→Prop) (w:World) (h:CkAt w S a b c d e f g C) (hi:C.files[i]?=some x):Calls Tryz.prog 27 #[ckV a b c d e f g,.int .i64 i,.int .i64 p] w (RetFdP (getR x.c p) w):=by
 have hil:=(g_l hi);have hhf:=fun w' (hb:Below w.heap.size w w')=>known_w C i a b c d e f g S w' (h.step hb) hil;obtain ⟨A,cap,rfl,q1,q2⟩:=h.files.form;obtain ⟨bb,o,t,B,ct,rfl,hbl,k1,k2,k3,k4,hc⟩:=FlA.cells h.files hi;have hge:=fun w' (hb:Below w.heap.size w w')=>getC_w t x.c B ct S p w' k1 k2 k3 (k4.step hb);have y2:w.cell? ⟨bb,o+i*15+2,none⟩=some (.int .i64 t):=hc 2 _ rfl;have y3:=hc 3 _ rfl;have y4:w.cell? ⟨bb,o+i*15+4,none⟩=some (.int .i64 (cano t x.c).val):=hc 4 _ rfl;have y5:w.cell? ⟨bb,o+i*15+5,none⟩=some (.int .i64 (cano t x.c).marks):=hc 5 _ rfl;have HB:=H_ (fun X=>bl_alloc (Below.refl w.heap.size w) X);have i0:(0:Int)≤(i:Int):=by omega
 have i1:(i:Int)<(C.files.length:Int):=by omega
 generalize (cano t x.c).kids.length=kn at *;generalize (cano t x.c).val=kv at *;generalize (cano t x.c).marks=km at *;obtain ⟨gv,hgv⟩:∃gv,gv=getR x.c p:=⟨_,rfl⟩;rw [←hgv] at hge ⊢;clear hc h hi hgv k1 k2 k3 k4;have HX:=H_ (heap_alloc_at w (.cells #[.slice (some ⟨bb,o,none⟩) C.files.length cap,b,c,d,e,f,g] 30));go_enter Tryz.func27,Tryz.ntmps27
 go_upto_region 3 with (go_at_call 58;(with_reducible refine CM (hhf _ (by (repeat (with_reducible first | assumption | exact Below.refl _ _ | refine bl_alloc ?_ _ | apply Below.drew | refine below_drewN ?_ _ | (apply bl_step2;assumption) | (refine Below.setCell ?_ (Nat.le_refl _) _) | (refine Below.setCell ?_ (by first | omega | (simp;done) | (go_simp;done)) _))))) ?_);rintro e w1 ⟨rfl,hb1⟩)
 have HW1:=H_ (bl_step (HB.out _) hb1);have HX1:=bkh HX hb1;obtain ⟨x0,x1,x2,x3,x4,x5,x6⟩:=cs7 HX1.out;clear x1 x2 x3 x4 x5 x6;replace y2:=(cell_kept (HW1.out.block _ hbl)).trans y2;replace y3:=(cell_kept (HW1.out.block _ hbl)).trans y3;replace y4:=(cell_kept (HW1.out.block _ hbl)).trans y4;replace y5:=(cell_kept (HW1.out.block _ hbl)).trans y5;clear hb1
 go_wp2_with (go_at_call 59;(with_reducible refine CM (hge _ HW1.out) ?_);rintro e w2 ⟨rfl,hb2⟩;have HW2:=blh HW1 hb2;clear hb2)
 go_ret2
 exact ⟨rfl,HW2.out⟩
end
section
def BitsAt (w:World):Prop:=∀i:Nat,i<8→w.cell? ⟨0,i,none⟩=some (.int .i64 ((2 ^ i:Nat):Int))
def listP (f:Nat→Bool):Nat→List Int
 | 0=>[]
 | k+1=>listP f k ++ (if f k then [(k:Int)] else [])
def bitsP (f:Nat→Bool):Nat→Nat
 | 0=>0
 | k+1=>bitsP f k+(if f k then 2 ^ k else 0)
theorem listP_len (f:Nat→Bool):∀k,(listP f k).length≤k
 | 0=>Nat.le_refl _
 | k+1=>by have:=listP_len f k;unfold listP;split <;> simp <;> omega
theorem BitsAt.step {w w':World} (h:BitsAt w) (hb:Below w.heap.size w w'):BitsAt w':=fun i hi=>by
 have h1:=h i hi;have h2:(0:Nat)<w.heap.size:=block_lt_of_cell h1;exact (hb.cell (p:=⟨0,i,none⟩) h2).trans h1
theorem idx_w (k:Nat) (hk:k<8) (w:World):(Instr.index 66 (.agg #[.int .i64 1,.int .i64 2,.int .i64 4,.int .i64 8,.int .i64 16,.int .i64 32,.int .i64 64,.int .i64 128]) (.int .i64 (k:Int))).run Tryz.prog w = .ok (.int .i64 ((2 ^ k:Nat):Int)) w:=by
 rcases (show k=0∨k=1∨k=2∨k=3∨k=4∨k=5∨k=6∨k=7 by omega) with rfl | rfl | rfl | rfl | rfl | rfl | rfl | rfl <;> kernel_rfl
theorem andB:∀(x:Fin 256) (k:Fin 8),(bits .and .i64 ((x.val:Nat):Int) ((2:Int) ^ k.val) != 0)=x.val.testBit k.val:=by decide +kernel
theorem orB:∀(x:Fin 256) (k:Fin 8),x.val<2 ^ k.val→bits .or .i64 ((x.val:Nat):Int) ((2:Int) ^ k.val)=((x.val+2 ^ k.val:Nat):Int):=by decide +kernel
theorem bitsP_lt (f:Nat→Bool):∀k,bitsP f k<2 ^ k
 | 0=>by simp [bitsP]
 | k+1=>by
  have:=bitsP_lt f k;unfold bitsP;rw [Nat.pow_succ]
  split <;> omega
theorem bitsP_bit (f:Nat→Bool):∀k j,j<k→(bitsP f k).testBit j=f j
 | 0,_,h=>absurd h (Nat.not_lt_zero _)
 | k+1,j,h=>by
  have hl:=bitsP_lt f k;unfold bitsP
  by_cases e:j=k
  ·subst e
   cases hf:f j with
   | true=>rw [if_pos rfl,Nat.add_comm,Nat.testBit_two_pow_add_eq,Nat.testBit_lt_two_pow hl];rfl
   | false=>rw [if_neg (by simp),Nat.add_zero,Nat.testBit_lt_two_pow hl]
  ·have hj:j<k:=by omega
   cases hf:f k with
   | true=>rw [if_pos rfl,Nat.add_comm,Nat.testBit_two_pow_add_gt hj,bitsP_bit f k j hj]
   | false=>rw [if_neg (by simp),Nat.add_zero,bitsP_bit f k j hj]
theorem listP_congr {f g:Nat→Bool}:∀k,(∀j,j<k→f j=g j)→listP f k=listP g k
 | 0,_=>rfl
 | k+1,h=>by unfold listP;rw [listP_congr k (fun j hj=>h j (by omega)),h k (by omega)]
theorem listP_bits (f:Nat→Bool) (n:Nat):listP (fun k=>(bitsP f n).testBit k) n=listP f n:=listP_congr n (fun j hj=>bitsP_bit f n j hj)
theorem pages_w43 (x:Nat) (hx:x<256) (S:Nat→Prop) (w:World) (hb:BitsAt w) (hS:∀z,w.heap.size≤z→S z):Calls Tryz.prog 29 #[.int .i64 x] w (RetIL (listP (fun k=>x.testBit k) 8) S w):=by
 have b0:=hb 0 (by omega);have b1:=hb 1 (by omega);have b2:=hb 2 (by omega);have b3:=hb 3 (by omega);have b4:=hb 4 (by omega);have b5:=hb 5 (by omega);have b6:=hb 6 (by omega);have b7:=hb 7 (by omega);clear hb;go_enter Tryz.func29,Tryz.ntmps29;go_wp2
 go_loopw [3,7] (fun s3 s7 wx=>∃k:Nat,s7 = .int .i64 (k:Int)∧k≤8∧LO IntR 3 wx w.heap.size (fun _=>False) s3 (listP (fun k=>x.testBit k) k)∧Below w.heap.size w wx) (fun _ s7 _=>8 - (intOf s7).toNat)
 case atStart=>exact ⟨0,rfl,by omega,LO.nil _ _ _ _ _,Below.refl _ _⟩
 case round=>
  obtain ⟨k,rfl,hk,ho,hb⟩:=hrel;have HO:=H_ ho;have HB:=H_ hb;clear ho hb
  by_cases hlt:k<8
  ·have hix:=idx_w k hlt;have hab:=andB ⟨x,hx⟩ ⟨k,hlt⟩
   dsimp only at hab
   have hln:=listP_len (fun k=>x.testBit k) k
   cases ht:x.testBit k with
   | true=>
    have HL:=H_ (show listP (fun k=>x.testBit k) (k+1)=listP (fun k=>x.testBit k) k ++ [(k:Int)] by show _ ++ (if x.testBit k then _ else _)=_;rw [ht,if_pos rfl]);rw [ht] at hab;clear ht
    go_wp2_with (at_builtin;go_loud (refine wpList_push IntR int_el rfl (.tmp 15) (.tmp 17) rfl _ w.heap.size (fun _=>False) (listP (fun k=>x.testBit k) k) rfl (HO.out.alloc _) (by have:=HB.out.size;simp;omega) (by omega) _ #[.int .i64 (k:Int)] rfl _ (heap_at_new _ _ _ rfl) (k:Int) rfl ?_);intro v4 w4 hown4 hg4 hat4)
    go_roundw
    case rel=>exact ⟨k+1,by go_num,by omega,by rw [HL.out];exact hown4,(bl_alloc HB.out _).grown hg4 (bl_alloc HB.out _).size (fun b hb=>(HO.out.own hb).1)⟩
    case measure=>simp [intOf];omega
   | false=>
    have HL:=H_ (show listP (fun k=>x.testBit k) (k+1)=listP (fun k=>x.testBit k) k by show _ ++ (if x.testBit k then _ else _)=_;rw [ht,if_neg (by simp),List.append_nil]);rw [ht] at hab;clear ht;go_wp2;go_roundw
    case rel=>exact ⟨k+1,by go_num,by omega,by rw [HL.out];exact HO.out,HB.out⟩
    case measure=>simp [intOf];omega
  ·obtain rfl:k=8:=by omega
   go_wp2;go_ret
   exact ⟨_,rfl,HO.out.la (fun _ _ h=>h.elim) hS,HB.out⟩
end
end Go.Proofs.YthhekebemmckcaaGreatDoor
