/-
  Lemmas and contracts for the laws of synchronisations (layer 43), part 28; several texts joined by a program.
-/
import Derived.Test.YthhekebemmckcaaGreatDoorJ01
import Derived.Test.YthhekebemmckcaaGreatDoorJ26
import Derived.Test.YthhekebemmckcaaGreatDoorJ27
namespace Go.Proofs.YthhekebemmckcaaGreatDoor
set_option linter.unusedVariables false
set_option linter.unusedSimpArgs false
set_option maxRecDepth 100000
set_option maxHeartbeats 16000000
open Go.RowKit
section
theorem rGone_w (s:Sy) (p:Int) (v1 v2:Value) (S:Nat→Prop) (w:World) (h:SyA w S v1 v2 s) (hS:∀z,w.heap.size≤z→S z):Calls Tryz.prog 17 #[syV s v1 v2,.int .i64 p] w (RetSy (goneS s p) S w):=by
 obtain ⟨A1,m1,c1,e1⟩:=h.t.cap;obtain ⟨A2,m2,c2,e2⟩:=h.g.cap;subst e1 e2;have HM1:=H_ h.m1;have HM2:=H_ h.m2;obtain ⟨S1,s1,s2,s3⟩:=s1set hS;replace h:=h.weak s3;clear s3;have hlt:=h.lt;have hlg:=h.lg;have HS:=H_ (SyB.start h (fun z hz=>(s1 z hz).2));clear h;go_enter Tryz.func17,Tryz.ntmps17
 go_upto_region 1 with fail
 generalize (w.alloc _).alloc _=W at HS;obtain ⟨x0,x1,x2,x3,x4,x5⟩:=cs6 HS.out.x
 by_cases hst:s.stage=1
 ·have HG:=H_ (show goneS s p={s with todo:=outL s.todo p} by unfold goneS;rw [if_pos hst])
  have d1:(s.stage == 1)=true:=by simp [hst]
  have hwo:=without43_w s.todo p (.slice A1 m1 c1) S1 W HS.out.a.t (by omega) (fun z hz=>s2 z (by have:=HS.out.fresh;omega));clear hst
  go_upto_region 3 with (go_at_call 36;go_loud (refine CM hwo ?_);rintro e w1 ⟨u,rfl,hu,hb1⟩;obtain ⟨B1,n1,k1,rfl⟩:=hu.cap;have HS1:=H_ (HS.out.step hb1);have hX1:=HS1.out.x;have y3:=cells_at hX1 3;have fz:=free_at hX1 3;simp only [List.getElem?_toArray,List.getElem?_cons_zero,List.getElem?_cons_succ] at y3;clear hX1)
  have HS2:=H_ (HS1.out.set 3 (.slice B1 n1 k1) (s':={s with todo:=outL s.todo p}) ⟨hu,HS1.out.a.g,Nat.le_trans (outL_len _ _) hlt,hlg⟩ rfl)
  clear hu hb1 x0 x1 x2 x3 x4 x5 y3 fz;generalize w1.setCell _ _=W2 at HS2;have hX:=HS2.out.x
  dsimp only at hX
  obtain ⟨x0,x1,x2,x3,x4,x5⟩:=cs6 hX;clear hX
  go_wp2_with (refine st_sy rfl (.tmp 4) (.tmp 13) rfl rfl (w.heap.size+1) rfl rfl (HS2.out).r rfl ?_)
  show bodyPost Tryz.prog Tryz.f17 _ _ _ _
  refine bodyPost_ret (sy_res rfl _ _ (w.heap.size+1) _ _ _ _ _ _ _ _ rfl (setRow_heap _ _ _ _ _ _ (HS2.out).r)) rfl ?_;obtain ⟨r1,r2⟩:=(HS2.out).back (fun z hz=>(s1 z hz).1) #[.int .i64 s.file,.int .i64 s.size,.int .i64 s.stage,.slice B1 n1 k1,.slice A2 m2 c2,.bool s.failed];rw [HG.out];exact ⟨_,_,rfl,r1,r2⟩
 ·have HG:=H_ (show goneS s p=s by unfold goneS;rw [if_neg hst]);have d1:(s.stage == 1)=false:=by simp [hst]
  clear hst
  go_wp2_with (refine st_sy rfl (.tmp 4) (.tmp 13) rfl rfl (w.heap.size+1) rfl rfl (HS.out).r rfl ?_)
  show bodyPost Tryz.prog Tryz.f17 _ _ _ _
  refine bodyPost_ret (sy_res rfl _ _ (w.heap.size+1) _ _ _ _ _ _ _ _ rfl (setRow_heap _ _ _ _ _ _ (HS.out).r)) rfl ?_;obtain ⟨r1,r2⟩:=(HS.out).back (fun z hz=>(s1 z hz).1) #[.int .i64 s.file,.int .i64 s.size,.int .i64 s.stage,.slice A1 m1 c1,.slice A2 m2 c2,.bool s.failed];rw [HG.out];exact ⟨_,_,rfl,r1,r2⟩
theorem rEnded_w (s:Sy) (p er:Int) (v1 v2:Value) (S:Nat→Prop) (w:World) (h:SyA w S v1 v2 s) (hS:∀z,w.heap.size≤z→S z):Calls Tryz.prog 15 #[syV s v1 v2,.int .i64 p,.int .i64 er] w (RetSy (endedS s p er) S w):=by
 obtain ⟨A1,m1,c1,e1⟩:=h.t.cap;obtain ⟨A2,m2,c2,e2⟩:=h.g.cap;subst e1 e2;have HM1:=H_ h.m1;have HM2:=H_ h.m2;obtain ⟨S1,s1,s2,s3⟩:=s1set hS;replace h:=h.weak s3;clear s3;have hlt:=h.lt;have hlg:=h.lg;have HS:=H_ (SyB.start h (fun z hz=>(s1 z hz).2));clear h;have hat:=fun W' (hb:SyB w S1 (.slice A1 m1 c1) (.slice A2 m2 c2) s W')=>at_w s.going p (.slice A2 m2 c2) S1 W' hb.a.g;go_enter Tryz.func15,Tryz.ntmps15
 go_upto_region 1 with fail
 generalize (w.alloc _).alloc _=W at HS;obtain ⟨x0,x1,x2,x3,x4,x5⟩:=cs6 HS.out.x
 by_cases hst:s.stage=1
 ·have d1:(s.stage != 1)=false:=by simp [hst]
  by_cases hm:p ∈ s.going
  ·have HG:=H_ (show endedS s p er={s with going:=outL s.going p,failed:=s.failed||er != 0} by unfold endedS;rw [if_pos ⟨hst,hm⟩])
   have d2:¬atL s.going p<0:=fun h=>mem_at.1 h hm;generalize atL s.going p=q at hat d2;have hwo:=without43_w s.going p (.slice A2 m2 c2) S1 W HS.out.a.g (by omega) (fun z hz=>s2 z (by have:=HS.out.fresh;omega));have ha0:=hat W HS.out;clear hst hm hat
   go_upto_region 4 with (first
    | (go_at_call 35;(with_reducible refine CM ha0 ?_);rintro e w1 ⟨rfl,rfl⟩)
    | (go_at_call 36;go_loud (refine CM hwo ?_);rintro e w1 ⟨u,rfl,hu,hb1⟩;obtain ⟨B1,n1,k1,rfl⟩:=hu.cap;have HS1:=H_ (HS.out.step hb1);have hX1:=HS1.out.x;have y4:=cells_at hX1 4;have fz:=free_at hX1 4;simp only [List.getElem?_toArray,List.getElem?_cons_zero,List.getElem?_cons_succ] at y4;clear hX1))
   have HS2:=H_ (HS1.out.set 4 (.slice B1 n1 k1) (s':={s with going:=outL s.going p}) ⟨HS1.out.a.t,hu,hlt,Nat.le_trans (outL_len _ _) hlg⟩ rfl)
   clear hu hb1 x0 x1 x2 x3 x4 x5 y4 fz;generalize w1.setCell _ _=W2 at HS2;have hX:=(HS2.out).x
   dsimp only at hX
   obtain ⟨x0,x1,x2,x3,x4,x5⟩:=cs6 hX;clear hX;have fz:=free_at HS2.out.x 5;have HS3:=H_ (HS2.out.set 5 (.bool (s.failed||er != 0)) (s':={s with going:=outL s.going p,failed:=s.failed||er != 0}) HS2.out.a' rfl)
   obtain ⟨W3,hW3⟩:∃W3,W3=W2.setCell ⟨w.heap.size,5,none⟩ (.bool (s.failed||er != 0)):=⟨_,rfl⟩;rw [←hW3] at HS3
   go_cut [] (fun wx=>wx=W3)
   case first=>
    cases hf:s.failed with
    | true=>
     rw [hf] at x5 hW3;go_wp2;go_meet
     case rel=>exact hW3.symm
    | false=>
     rw [hf] at x5 hW3;go_wp2;go_meet
     case rel=>exact hW3.symm
   case rest=>
    subst hcut;clear HS2 x0 x1 x2 x3 x4 x5 fz hW3;have hX:=(HS3.out).x
    dsimp only at hX
    obtain ⟨x0,x1,x2,x3,x4,x5⟩:=cs6 hX;clear hX
    go_wp2_with (refine st_sy rfl (.tmp 6) (.tmp 30) rfl rfl (w.heap.size+1) rfl rfl (HS3.out).r rfl ?_)
    show bodyPost Tryz.prog Tryz.f15 _ _ _ _
    refine bodyPost_ret (sy_res rfl _ _ (w.heap.size+1) _ _ _ _ _ _ _ _ rfl (setRow_heap _ _ _ _ _ _ (HS3.out).r)) rfl ?_;obtain ⟨r1,r2⟩:=(HS3.out).back (fun z hz=>(s1 z hz).1) #[.int .i64 s.file,.int .i64 s.size,.int .i64 s.stage,.slice A1 m1 c1,.slice B1 n1 k1,.bool (s.failed||er != 0)];rw [HG.out];exact ⟨_,_,rfl,r1,r2⟩
  ·have HG:=H_ (show endedS s p er=s by unfold endedS;rw [if_neg (fun h=>hm h.2)]);have d2:atL s.going p<0:=mem_at.2 hm;generalize atL s.going p=q at hat d2;have ha0:=hat W HS.out;clear hst hm hat
   go_wp2_with (first
    | (go_at_call 35;(with_reducible refine CM ha0 ?_);rintro e w1 ⟨rfl,rfl⟩)
    | (refine st_sy rfl (.tmp 6) (.tmp 17) rfl rfl (w.heap.size+1) rfl rfl (HS.out).r rfl ?_))
   show bodyPost Tryz.prog Tryz.f15 _ _ _ _
   refine bodyPost_ret (sy_res rfl _ _ (w.heap.size+1) _ _ _ _ _ _ _ _ rfl (setRow_heap _ _ _ _ _ _ (HS.out).r)) rfl ?_;obtain ⟨r1,r2⟩:=(HS.out).back (fun z hz=>(s1 z hz).1) #[.int .i64 s.file,.int .i64 s.size,.int .i64 s.stage,.slice A1 m1 c1,.slice A2 m2 c2,.bool s.failed];rw [HG.out];exact ⟨_,_,rfl,r1,r2⟩
 ·have HG:=H_ (show endedS s p er=s by unfold endedS;rw [if_neg (fun h=>hst h.1)]);have d1:(s.stage != 1)=true:=bne_iff_ne.2 hst;clear hst
  go_wp2_with (refine st_sy rfl (.tmp 6) (.tmp 17) rfl rfl (w.heap.size+1) rfl rfl (HS.out).r rfl ?_)
  show bodyPost Tryz.prog Tryz.f15 _ _ _ _
  refine bodyPost_ret (sy_res rfl _ _ (w.heap.size+1) _ _ _ _ _ _ _ _ rfl (setRow_heap _ _ _ _ _ _ (HS.out).r)) rfl ?_;obtain ⟨r1,r2⟩:=(HS.out).back (fun z hz=>(s1 z hz).1) #[.int .i64 s.file,.int .i64 s.size,.int .i64 s.stage,.slice A1 m1 c1,.slice A2 m2 c2,.bool s.failed];rw [HG.out];exact ⟨_,_,rfl,r1,r2⟩
end
section
theorem rNext_w43 (s:Sy) (v1 v2:Value) (S:Nat→Prop) (w:World) (h:SyA w S v1 v2 s) (hS:∀z,w.heap.size≤z→S z):Calls Tryz.prog 19 #[syV s v1 v2] w (RetSy (nextS s) S w):=by
 obtain ⟨A1,m1,c1,e1⟩:=h.t.cap;obtain ⟨A2,m2,c2,e2⟩:=h.g.cap;subst e1 e2;have HM1:=H_ h.m1;have HM2:=H_ h.m2;obtain ⟨S1,s1,s2,s3⟩:=s1set hS;replace h:=h.weak s3;clear s3;have hlt:=h.lt;have hlg:=h.lg;have HS:=H_ (SyB.start h (fun z hz=>(s1 z hz).2));clear h;go_enter Tryz.func19,Tryz.ntmps19
 go_upto_region 1 with fail
 generalize (w.alloc _).alloc _=W at HS;obtain ⟨x0,x1,x2,x3,x4,x5⟩:=cs6 HS.out.x
 by_cases hst:s.stage=1
 ·have d1:(s.stage != 1)=false:=by simp [hst]
  by_cases ht:m1=0
  ·have HT:=H_ (show s.todo=[] from List.length_eq_zero_iff.1 (by rw [←HM1.out];exact ht))
   by_cases hg:m2=0
   ·have HGG:=H_ (show s.going=[] from List.length_eq_zero_iff.1 (by rw [←HM2.out];exact hg));have HG:=H_ (show nextS s={s with stage:=if s.failed then 3 else 2} by unfold nextS;rw [if_pos ⟨hst,HT.out,HGG.out⟩])
    subst ht hg;have f2:=free_at HS.out.x 2;clear hst
    go_upto_region 4 with fail
    have HS2:=H_ (HS.out.set 2 (.int .i64 2) (s':={s with stage:=2}) HS.out.a' rfl)
    clear x0 x1 x2 x3 x4 x5 f2;generalize W.setCell _ _=W2 at HS2;have hX:=(HS2.out).x
    dsimp only at hX
    obtain ⟨x0,x1,x2,x3,x4,x5⟩:=cs6 hX;clear hX;obtain ⟨fl,hf⟩:∃fl,s.failed=fl:=⟨_,rfl⟩;have HF:=H_ hf;rw [hf] at x5;clear hf
    cases fl with
    | true=>
     have f2:=free_at HS2.out.x 2
     go_upto_region 6 with fail
     have HS3:=H_ (HS2.out.set 2 (.int .i64 3) (s':={s with stage:=3}) HS2.out.a' rfl)
     clear HS2 x0 x1 x2 x3 x4 x5 f2;generalize W2.setCell _ _=W3 at HS3;have hX:=(HS3.out).x
     dsimp only at hX
     obtain ⟨x0,x1,x2,x3,x4,x5⟩:=cs6 hX;clear hX
     go_wp2_with (refine st_sy rfl (.tmp 2) (.tmp 23) rfl rfl (w.heap.size+1) rfl rfl (HS3.out).r rfl ?_)
     show bodyPost Tryz.prog Tryz.f19 _ _ _ _
     refine bodyPost_ret (sy_res rfl _ _ (w.heap.size+1) _ _ _ _ _ _ _ _ rfl (setRow_heap _ _ _ _ _ _ (HS3.out).r)) rfl ?_;obtain ⟨r1,r2⟩:=(HS3.out).back (fun z hz=>(s1 z hz).1) #[.int .i64 s.file,.int .i64 s.size,.int .i64 3,.slice A1 0 c1,.slice A2 0 c2,.bool s.failed];rw [HG.out,if_pos HF.out];exact ⟨_,_,rfl,r1,r2⟩
    | false=>
     go_wp2_with (refine st_sy rfl (.tmp 2) (.tmp 23) rfl rfl (w.heap.size+1) rfl rfl (HS2.out).r rfl ?_)
     show bodyPost Tryz.prog Tryz.f19 _ _ _ _
     refine bodyPost_ret (sy_res rfl _ _ (w.heap.size+1) _ _ _ _ _ _ _ _ rfl (setRow_heap _ _ _ _ _ _ (HS2.out).r)) rfl ?_;obtain ⟨r1,r2⟩:=(HS2.out).back (fun z hz=>(s1 z hz).1) #[.int .i64 s.file,.int .i64 s.size,.int .i64 2,.slice A1 0 c1,.slice A2 0 c2,.bool false];rw [HG.out,if_neg (by rw [HF.out];simp)];refine ⟨_,_,?_,r1,r2⟩;rw [syV]
     dsimp only
     rw [HF.out]
   ·have HG:=H_ (show nextS s=s by unfold nextS;rw [if_neg (fun h=>hg (by rw [HM2.out,h.2.2];rfl))]);have d3:(0:Int)<(m2:Int):=by omega
    clear hst hg;obtain rfl:m1=0:=ht
    go_wp2_with (refine st_sy rfl (.tmp 2) (.tmp 18) rfl rfl (w.heap.size+1) rfl rfl (HS.out).r rfl ?_)
    show bodyPost Tryz.prog Tryz.f19 _ _ _ _
    refine bodyPost_ret (sy_res rfl _ _ (w.heap.size+1) _ _ _ _ _ _ _ _ rfl (setRow_heap _ _ _ _ _ _ (HS.out).r)) rfl ?_;obtain ⟨r1,r2⟩:=(HS.out).back (fun z hz=>(s1 z hz).1) #[.int .i64 s.file,.int .i64 s.size,.int .i64 s.stage,.slice A1 0 c1,.slice A2 m2 c2,.bool s.failed];rw [HG.out];exact ⟨_,_,rfl,r1,r2⟩
  ·have HG:=H_ (show nextS s=s by unfold nextS;rw [if_neg (fun h=>ht (by rw [HM1.out,h.2.1];rfl))]);have d3:(0:Int)<(m1:Int):=by omega
   clear hst ht
   go_wp2_with (refine st_sy rfl (.tmp 2) (.tmp 18) rfl rfl (w.heap.size+1) rfl rfl (HS.out).r rfl ?_)
   show bodyPost Tryz.prog Tryz.f19 _ _ _ _
   refine bodyPost_ret (sy_res rfl _ _ (w.heap.size+1) _ _ _ _ _ _ _ _ rfl (setRow_heap _ _ _ _ _ _ (HS.out).r)) rfl ?_;obtain ⟨r1,r2⟩:=(HS.out).back (fun z hz=>(s1 z hz).1) #[.int .i64 s.file,.int .i64 s.size,.int .i64 s.stage,.slice A1 m1 c1,.slice A2 m2 c2,.bool s.failed];rw [HG.out];exact ⟨_,_,rfl,r1,r2⟩
 ·have HG:=H_ (show nextS s=s by unfold nextS;rw [if_neg (fun h=>hst h.1)]);have d1:(s.stage != 1)=true:=bne_iff_ne.2 hst;clear hst
  go_wp2_with (refine st_sy rfl (.tmp 2) (.tmp 18) rfl rfl (w.heap.size+1) rfl rfl (HS.out).r rfl ?_)
  show bodyPost Tryz.prog Tryz.f19 _ _ _ _
  refine bodyPost_ret (sy_res rfl _ _ (w.heap.size+1) _ _ _ _ _ _ _ _ rfl (setRow_heap _ _ _ _ _ _ (HS.out).r)) rfl ?_;obtain ⟨r1,r2⟩:=(HS.out).back (fun z hz=>(s1 z hz).1) #[.int .i64 s.file,.int .i64 s.size,.int .i64 s.stage,.slice A1 m1 c1,.slice A2 m2 c2,.bool s.failed];rw [HG.out];exact ⟨_,_,rfl,r1,r2⟩
def RetSyE (r:Sy × Int) (S:Nat→Prop) (w:World) (e:Ending) (w':World):Prop:=∃v1 v2,e = .returned (.tuple #[syV r.1 v1 v2,.int .i64 r.2])∧SyA w' S v1 v2 r.1∧Below w.heap.size w w'
theorem rFin_w (s:Sy) (er:Int) (v1 v2:Value) (S:Nat→Prop) (w:World) (h:SyA w S v1 v2 s) (hS:∀z,w.heap.size≤z→S z):Calls Tryz.prog 21 #[syV s v1 v2,.int .i64 er] w (RetSyE (finS s er) S w):=by
 obtain ⟨A1,m1,c1,e1⟩:=h.t.cap;obtain ⟨A2,m2,c2,e2⟩:=h.g.cap;subst e1 e2;have HM1:=H_ h.m1;have HM2:=H_ h.m2;obtain ⟨S1,s1,s2,s3⟩:=s1set hS;replace h:=h.weak s3;clear s3;have hlt:=h.lt;have hlg:=h.lg;have HS:=H_ (SyB.start h (fun z hz=>(s1 z hz).2));clear h;go_enter Tryz.func21,Tryz.ntmps21
 go_upto_region 1 with fail
 generalize (w.alloc _).alloc _=W at HS;obtain ⟨x0,x1,x2,x3,x4,x5⟩:=cs6 HS.out.x
 by_cases hst:s.stage=2
 ·have d1:(s.stage != 2)=false:=by simp [hst]
  have HG:=H_ (show finS s er=({s with stage:=3,failed:=s.failed||er != 0},0) by unfold finS;rw [if_pos hst])
  have f2:=free_at HS.out.x 2;clear hst
  go_upto_region 4 with fail
  have HS2:=H_ (HS.out.set 2 (.int .i64 3) (s':={s with stage:=3}) HS.out.a' rfl)
  clear x0 x1 x2 x3 x4 x5 f2;generalize W.setCell _ _=W2 at HS2;have hX:=(HS2.out).x
  dsimp only at hX
  obtain ⟨x0,x1,x2,x3,x4,x5⟩:=cs6 hX;clear hX;have fz:=free_at HS2.out.x 5;have HS3:=H_ (HS2.out.set 5 (.bool (s.failed||er != 0)) (s':={s with stage:=3,failed:=s.failed||er != 0}) HS2.out.a' rfl)
  obtain ⟨W3,hW3⟩:∃W3,W3=W2.setCell ⟨w.heap.size,5,none⟩ (.bool (s.failed||er != 0)):=⟨_,rfl⟩;rw [←hW3] at HS3
  go_cut [] (fun wx=>wx=W3)
  case first=>
   cases hf:s.failed with
   | true=>
    rw [hf] at x5 hW3;go_wp2;go_meet
    case rel=>exact hW3.symm
   | false=>
    rw [hf] at x5 hW3;go_wp2;go_meet
    case rel=>exact hW3.symm
  case rest=>
   subst hcut;clear HS2 x0 x1 x2 x3 x4 x5 fz hW3;have hX:=(HS3.out).x
   dsimp only at hX
   obtain ⟨x0,x1,x2,x3,x4,x5⟩:=cs6 hX;clear hX
   go_wp2_with (refine st_sy rfl (.tmp 4) (.tmp 18) rfl rfl (w.heap.size+1) rfl rfl (HS3.out).r rfl ?_)
   show bodyPost Tryz.prog Tryz.f21 _ _ _ _
   refine bodyPost_ret (sy2_res rfl _ _ (w.heap.size+1) _ _ _ _ _ _ _ _ _ rfl rfl (setRow_heap _ _ _ _ _ _ (HS3.out).r)) rfl ?_;obtain ⟨r1,r2⟩:=(HS3.out).back (fun z hz=>(s1 z hz).1) #[.int .i64 s.file,.int .i64 s.size,.int .i64 3,.slice A1 m1 c1,.slice A2 m2 c2,.bool (s.failed||er != 0)];rw [HG.out];exact ⟨_,_,rfl,r1,r2⟩
 ·have HG:=H_ (show finS s er=(s,1) by unfold finS;rw [if_neg hst]);have d1:(s.stage != 2)=true:=bne_iff_ne.2 hst;clear hst
  go_wp2_with (refine st_sy rfl (.tmp 4) (.tmp 9) rfl rfl (w.heap.size+1) rfl rfl (HS.out).r rfl ?_)
  show bodyPost Tryz.prog Tryz.f21 _ _ _ _
  refine bodyPost_ret (sy2_res rfl _ _ (w.heap.size+1) _ _ _ _ _ _ _ _ _ rfl rfl (setRow_heap _ _ _ _ _ _ (HS.out).r)) rfl ?_;obtain ⟨r1,r2⟩:=(HS.out).back (fun z hz=>(s1 z hz).1) #[.int .i64 s.file,.int .i64 s.size,.int .i64 s.stage,.slice A1 m1 c1,.slice A2 m2 c2,.bool s.failed];rw [HG.out];exact ⟨_,_,rfl,r1,r2⟩
theorem rSame_w43 (s t:Sy) (v1 v2 u1 u2:Value) (S:Nat→Prop) (w:World) (h:SyA w S v1 v2 s) (h':SyA w S u1 u2 t):Calls Tryz.prog 10 #[syV s v1 v2,syV t u1 u2] w (RetB (sameS s t) w):=by
 have hs1:=fun w' (hb:Below w.heap.size w w')=>sameInts_w s.todo t.todo v1 u1 S w' (h.t.step hb) (h'.t.step hb);have hs2:=fun w' (hb:Below w.heap.size w w')=>sameInts_w s.going t.going v2 u2 S w' (h.g.step hb) (h'.g.step hb);obtain ⟨A1,m1,c1,e1⟩:=h.t.cap;obtain ⟨A2,m2,c2,e2⟩:=h.g.cap;obtain ⟨B1,n1,d1,e3⟩:=h'.t.cap;obtain ⟨B2,n2,d2,e4⟩:=h'.g.cap;subst e1 e2 e3 e4;have HX:=H_ (bk_alloc (heap_alloc_at w (.cells #[.int .i64 s.file,.int .i64 s.size,.int .i64 s.stage,.slice A1 m1 c1,.slice A2 m2 c2,.bool s.failed] 37)) (.cells #[.int .i64 t.file,.int .i64 t.size,.int .i64 t.stage,.slice B1 n1 d1,.slice B2 n2 d2,.bool t.failed] 37));have HY:=H_ (heap_at_new (w.alloc (.cells #[.int .i64 s.file,.int .i64 s.size,.int .i64 s.stage,.slice A1 m1 c1,.slice A2 m2 c2,.bool s.failed] 37)) (.cells #[.int .i64 t.file,.int .i64 t.size,.int .i64 t.stage,.slice B1 n1 d1,.slice B2 n2 d2,.bool t.failed] 37) (w.heap.size+1) (by simp));have HW:=H_ (bl_alloc (bl_alloc (Below.refl w.heap.size w) (.cells #[.int .i64 s.file,.int .i64 s.size,.int .i64 s.stage,.slice A1 m1 c1,.slice A2 m2 c2,.bool s.failed] 37)) (.cells #[.int .i64 t.file,.int .i64 t.size,.int .i64 t.stage,.slice B1 n1 d1,.slice B2 n2 d2,.bool t.failed] 37));have HQ:=H_ (show sameS s t=(s.file == t.file&&s.size == t.size&&s.stage == t.stage&&s.failed == t.failed&&decide (s.todo=t.todo)&&decide (s.going=t.going)) from rfl);generalize decide (s.todo=t.todo)=b1 at hs1 HQ;generalize decide (s.going=t.going)=b2 at hs2 HQ;clear h h';go_enter Tryz.func10,Tryz.ntmps10
 go_upto_region 1 with fail
 generalize (w.alloc _).alloc _=W at HX HY HW;obtain ⟨x0,x1,x2,x3,x4,x5⟩:=cs6 HX.out;obtain ⟨y0,y1,y2,y3,y4,y5⟩:=cs6 HY.out;have ha0:=hs1 W HW.out
 by_cases e1:s.file=t.file
 ·by_cases e2:s.size=t.size
  ·by_cases e3:s.stage=t.stage
   ·by_cases e4:s.failed=t.failed
    ·have HE:=H_ (And.intro e1 (And.intro e2 (And.intro e3 e4)));have g1:(s.file == t.file)=true:=by simp [e1]
     have g2:(s.size == t.size)=true:=by simp [e2]
     have g3:(s.stage == t.stage)=true:=by simp [e3]
     have g4:(s.failed == t.failed)=true:=by simp [e4]
     clear e1 e2 e3 e4
     cases b1 with
     | true=>
      go_wp2_with (first
       | (go_at_call 30;(with_reducible refine CM (hs1 _ HW.out) ?_);rintro e w1 ⟨rfl,hb1⟩;have HW1:=blh HW hb1;have z4:=(cell_kept (hb1.block _ (bk_lt HX.out))).trans x4;have z5:=(cell_kept (hb1.block _ (bk_lt HY.out))).trans y4;clear hb1 x0 x1 x2 x3 x4 x5 y0 y1 y2 y3 y4 y5)
       | (go_at_call 30;(with_reducible refine CM (hs2 _ HW1.out) ?_);rintro e w2 ⟨rfl,hb2⟩))
      go_ret;refine ⟨ret_bool ?_,bl_step HW1.out hb2⟩
      rw [HQ.out,HE.out.1,HE.out.2.1,HE.out.2.2.1,HE.out.2.2.2];simp
     | false=>
      go_wp2_with (go_at_call 30;(with_reducible refine CM (hs1 _ HW.out) ?_);rintro e w1 ⟨rfl,hb1⟩)
      go_ret;refine ⟨ret_bool ?_,bl_step HW.out hb1⟩
      rw [HQ.out,HE.out.1,HE.out.2.1,HE.out.2.2.1,HE.out.2.2.2];simp
    ·have g1:(s.file == t.file)=true:=by simp [e1]
     have g2:(s.size == t.size)=true:=by simp [e2]
     have g3:(s.stage == t.stage)=true:=by simp [e3]
     have g4:(s.failed == t.failed)=false:=by simp [e4]
     clear e1 e2 e3 e4;rw [g1,g2,g3,g4] at HQ;go_wp2;go_ret;exact ⟨ret_bool (by rw [HQ.out];rfl),HW.out⟩
   ·have g1:(s.file == t.file)=true:=by simp [e1]
    have g2:(s.size == t.size)=true:=by simp [e2]
    have g3:(s.stage == t.stage)=false:=by simp [e3]
    clear e1 e2 e3;rw [g1,g2,g3] at HQ;go_wp2;go_ret;exact ⟨ret_bool (by rw [HQ.out];rfl),HW.out⟩
  ·have g1:(s.file == t.file)=true:=by simp [e1]
   have g2:(s.size == t.size)=false:=by simp [e2]
   clear e1 e2;rw [g1,g2] at HQ;go_wp2;go_ret;exact ⟨ret_bool (by rw [HQ.out];rfl),HW.out⟩
 ·have g1:(s.file == t.file)=false:=by simp [e1]
  clear e1;rw [g1] at HQ;go_wp2;go_ret;exact ⟨ret_bool (by rw [HQ.out];rfl),HW.out⟩
end
section
theorem SyB.row {w W:World} {S1:Nat→Prop} {v1 v2 v1' v2':Value} {s:Sy} (h:SyB w S1 v1 v2 s W) (ha:SyA W S1 v1' v2' s):SyB w S1 v1' v2' s (W.setRow w.heap.size #[.int .i64 s.file,.int .i64 s.size,.int .i64 s.stage,v1',v2',.bool s.failed]):=
 ⟨setRow_heap _ _ _ _ _ _ h.x,(setRow_other _ _ _ _ (by omega)).trans h.r,ha.kept (KeepS.of_setRow W _ _ (fun hz=>(h.s1 _ hz).1 rfl)),bl_setRow h.b (Nat.le_refl _) _,h.s1⟩
theorem pwithout_la (l:List Int) (n:Int) (v:Value) (S:Nat→Prop) (w:World) (h:LA IntR w S v l) (hl:l.length≤1000) (hS:∀b,w.heap.size≤b→S b):Calls Tryz.prog 33 #[v,.int .i64 n] w (RetIL (outL l n) S w):=
 (pwithout_w l n v S w h hl).mono fun e w' ⟨u,he,ho,hb⟩=>⟨u,he,(ho.lo (S:=fun _=>False)).la (fun _ _ h=>h.elim) hS,hb⟩
theorem pGone_w (s:Sy) (p:Int) (v1 v2:Value) (S:Nat→Prop) (w:World) (h:SyA w S v1 v2 s) (hS:∀z,w.heap.size≤z→S z):Calls Tryz.prog 16 #[syV s v1 v2,.int .i64 p] w (RetSy (goneS s p) S w):=by
 obtain ⟨A1,m1,c1,e1⟩:=h.t.cap;obtain ⟨A2,m2,c2,e2⟩:=h.g.cap;subst e1 e2;have HM1:=H_ h.m1;have HM2:=H_ h.m2;obtain ⟨S1,s1,s2,s3⟩:=s1set hS;replace h:=h.weak s3;clear s3;have hlt:=h.lt;have hlg:=h.lg;have HS:=H_ (SyB.start h (fun z hz=>(s1 z hz).2));clear h;go_enter Tryz.func16,Tryz.ntmps16
 go_upto_region 1 with fail
 generalize (w.alloc _).alloc _=W at HS;obtain ⟨x0,x1,x2,x3,x4,x5⟩:=cs6 HS.out.x;clear x0 x1 x2 x3 x4 x5;obtain ⟨x0,x1,x2,x3,x4,x5⟩:=cs6 HS.out.x
 go_upto_region 2 with (first
  | (go_at_call 31;go_loud (refine CM (same_w43 s _ _ S1 W HS.out.a (fun z hz=>s2 z (by have:=HS.out.fresh;omega))) ?_);rintro e w1 ⟨v1',v2',rfl,ha1,hb1⟩;obtain ⟨A1,m1,c1,rfl⟩:=ha1.t.cap;obtain ⟨A2,m2,c2,rfl⟩:=ha1.g.cap;have HS1:=H_ (HS.out.step hb1))
  | (refine st_sy rfl (.tmp 2) (.tmp 6) rfl rfl w.heap.size rfl rfl HS1.out.x rfl ?_))
 have HS2:=H_ (HS1.out.row ha1);have HM1:=H_ ha1.m1;have HM2:=H_ ha1.m2;clear HS HS1 x0 x1 x2 x3 x4 x5 ha1 hb1;have HS:=HS2;clear HS2;generalize w1.setRow _ _=W at HS;obtain ⟨x0,x1,x2,x3,x4,x5⟩:=cs6 HS.out.x
 by_cases hst:s.stage=1
 ·have HG:=H_ (show goneS s p={s with todo:=outL s.todo p} by unfold goneS;rw [if_pos hst])
  have d1:(s.stage == 1)=true:=by simp [hst]
  have hwo:=pwithout_la s.todo p (.slice A1 m1 c1) S1 W HS.out.a.t (by omega) (fun z hz=>s2 z (by have:=HS.out.fresh;omega));clear hst
  go_upto_region 4 with (go_at_call 33;go_loud (refine CM hwo ?_);rintro e w1 ⟨u,rfl,hu,hb1⟩;obtain ⟨B1,n1,k1,rfl⟩:=hu.cap;have HS1:=H_ (HS.out.step hb1);have hX1:=HS1.out.x;have y3:=cells_at hX1 3;have fz:=free_at hX1 3;simp only [List.getElem?_toArray,List.getElem?_cons_zero,List.getElem?_cons_succ] at y3;clear hX1)
  have HS2:=H_ (HS1.out.set 3 (.slice B1 n1 k1) (s':={s with todo:=outL s.todo p}) ⟨hu,HS1.out.a.g,Nat.le_trans (outL_len _ _) hlt,hlg⟩ rfl)
  clear hu hb1 x0 x1 x2 x3 x4 x5 y3 fz;generalize w1.setCell _ _=W2 at HS2;have hX:=HS2.out.x
  dsimp only at hX
  obtain ⟨x0,x1,x2,x3,x4,x5⟩:=cs6 hX;clear hX
  go_wp2_with (refine st_sy rfl (.tmp 4) (.tmp 15) rfl rfl (w.heap.size+1) rfl rfl (HS2.out).r rfl ?_)
  show bodyPost Tryz.prog Tryz.f16 _ _ _ _
  refine bodyPost_ret (sy_res rfl _ _ (w.heap.size+1) _ _ _ _ _ _ _ _ rfl (setRow_heap _ _ _ _ _ _ (HS2.out).r)) rfl ?_;obtain ⟨r1,r2⟩:=(HS2.out).back (fun z hz=>(s1 z hz).1) #[.int .i64 s.file,.int .i64 s.size,.int .i64 s.stage,.slice B1 n1 k1,.slice A2 m2 c2,.bool s.failed];rw [HG.out];exact ⟨_,_,rfl,r1,r2⟩
 ·have HG:=H_ (show goneS s p=s by unfold goneS;rw [if_neg hst]);have d1:(s.stage == 1)=false:=by simp [hst]
  clear hst
  go_wp2_with (refine st_sy rfl (.tmp 4) (.tmp 15) rfl rfl (w.heap.size+1) rfl rfl (HS.out).r rfl ?_)
  show bodyPost Tryz.prog Tryz.f16 _ _ _ _
  refine bodyPost_ret (sy_res rfl _ _ (w.heap.size+1) _ _ _ _ _ _ _ _ rfl (setRow_heap _ _ _ _ _ _ (HS.out).r)) rfl ?_;obtain ⟨r1,r2⟩:=(HS.out).back (fun z hz=>(s1 z hz).1) #[.int .i64 s.file,.int .i64 s.size,.int .i64 s.stage,.slice A1 m1 c1,.slice A2 m2 c2,.bool s.failed];rw [HG.out];exact ⟨_,_,rfl,r1,r2⟩
theorem pEnded_w (s:Sy) (p er:Int) (v1 v2:Value) (S:Nat→Prop) (w:World) (h:SyA w S v1 v2 s) (hS:∀z,w.heap.size≤z→S z):Calls Tryz.prog 14 #[syV s v1 v2,.int .i64 p,.int .i64 er] w (RetSy (endedS s p er) S w):=by
 obtain ⟨A1,m1,c1,e1⟩:=h.t.cap;obtain ⟨A2,m2,c2,e2⟩:=h.g.cap;subst e1 e2;have HM1:=H_ h.m1;have HM2:=H_ h.m2;obtain ⟨S1,s1,s2,s3⟩:=s1set hS;replace h:=h.weak s3;clear s3;have hlt:=h.lt;have hlg:=h.lg;have HS:=H_ (SyB.start h (fun z hz=>(s1 z hz).2));clear h;go_enter Tryz.func14,Tryz.ntmps14
 go_upto_region 1 with fail
 generalize (w.alloc _).alloc _=W at HS;obtain ⟨x0,x1,x2,x3,x4,x5⟩:=cs6 HS.out.x;clear x0 x1 x2 x3 x4 x5;obtain ⟨x0,x1,x2,x3,x4,x5⟩:=cs6 HS.out.x
 go_upto_region 2 with (first
  | (go_at_call 31;go_loud (refine CM (same_w43 s _ _ S1 W HS.out.a (fun z hz=>s2 z (by have:=HS.out.fresh;omega))) ?_);rintro e w1 ⟨v1',v2',rfl,ha1,hb1⟩;obtain ⟨A1,m1,c1,rfl⟩:=ha1.t.cap;obtain ⟨A2,m2,c2,rfl⟩:=ha1.g.cap;have HS1:=H_ (HS.out.step hb1))
  | (refine st_sy rfl (.tmp 3) (.tmp 8) rfl rfl w.heap.size rfl rfl HS1.out.x rfl ?_))
 have HS2:=H_ (HS1.out.row ha1);have HM1:=H_ ha1.m1;have HM2:=H_ ha1.m2;clear HS HS1 x0 x1 x2 x3 x4 x5 ha1 hb1;have HS:=HS2;clear HS2;generalize w1.setRow _ _=W at HS;obtain ⟨x0,x1,x2,x3,x4,x5⟩:=cs6 HS.out.x;have hat:=fun W' (hb:SyB w S1 (.slice A1 m1 c1) (.slice A2 m2 c2) s W')=>contains_w s.going p (.slice A2 m2 c2) S1 W' hb.a.g
 by_cases hst:s.stage=1
 ·have d1:(s.stage != 1)=false:=by simp [hst]
  by_cases hm:p ∈ s.going
  ·have HG:=H_ (show endedS s p er={s with going:=outL s.going p,failed:=s.failed||er != 0} by unfold endedS;rw [if_pos ⟨hst,hm⟩])
   have d2:decide (0≤atL s.going p)=true:=decide_eq_true (by have:=mt mem_at.1 (fun h=>h hm);omega);generalize atL s.going p=q at hat d2;have hwo:=pwithout_la s.going p (.slice A2 m2 c2) S1 W HS.out.a.g (by omega) (fun z hz=>s2 z (by have:=HS.out.fresh;omega));have ha0:=hat W HS.out;clear hst hm hat
   go_upto_region 5 with (first
    | (go_at_call 32;(with_reducible refine CM ha0 ?_);rintro e w1 ⟨rfl,rfl⟩)
    | (go_at_call 33;go_loud (refine CM hwo ?_);rintro e w1 ⟨u,rfl,hu,hb1⟩;obtain ⟨B1,n1,k1,rfl⟩:=hu.cap;have HS1:=H_ (HS.out.step hb1);have hX1:=HS1.out.x;have y4:=cells_at hX1 4;have fz:=free_at hX1 4;simp only [List.getElem?_toArray,List.getElem?_cons_zero,List.getElem?_cons_succ] at y4;clear hX1))
   have HS2:=H_ (HS1.out.set 4 (.slice B1 n1 k1) (s':={s with going:=outL s.going p}) ⟨HS1.out.a.t,hu,hlt,Nat.le_trans (outL_len _ _) hlg⟩ rfl)
   clear hu hb1 x0 x1 x2 x3 x4 x5 y4 fz;generalize w1.setCell _ _=W2 at HS2;have hX:=(HS2.out).x
   dsimp only at hX
   obtain ⟨x0,x1,x2,x3,x4,x5⟩:=cs6 hX;clear hX;have fz:=free_at HS2.out.x 5;have HS3:=H_ (HS2.out.set 5 (.bool (s.failed||er != 0)) (s':={s with going:=outL s.going p,failed:=s.failed||er != 0}) HS2.out.a' rfl)
   obtain ⟨W3,hW3⟩:∃W3,W3=W2.setCell ⟨w.heap.size,5,none⟩ (.bool (s.failed||er != 0)):=⟨_,rfl⟩;rw [←hW3] at HS3
   go_cut [] (fun wx=>wx=W3)
   case first=>
    cases hf:s.failed with
    | true=>
     rw [hf] at x5 hW3;go_wp2;go_meet
     case rel=>exact hW3.symm
    | false=>
     rw [hf] at x5 hW3;go_wp2;go_meet
     case rel=>exact hW3.symm
   case rest=>
    subst hcut;clear HS2 x0 x1 x2 x3 x4 x5 fz hW3;have hX:=(HS3.out).x
    dsimp only at hX
    obtain ⟨x0,x1,x2,x3,x4,x5⟩:=cs6 hX;clear hX
    go_wp2_with (refine st_sy rfl (.tmp 6) (.tmp 32) rfl rfl (w.heap.size+1) rfl rfl (HS3.out).r rfl ?_)
    show bodyPost Tryz.prog Tryz.f14 _ _ _ _
    refine bodyPost_ret (sy_res rfl _ _ (w.heap.size+1) _ _ _ _ _ _ _ _ rfl (setRow_heap _ _ _ _ _ _ (HS3.out).r)) rfl ?_;obtain ⟨r1,r2⟩:=(HS3.out).back (fun z hz=>(s1 z hz).1) #[.int .i64 s.file,.int .i64 s.size,.int .i64 s.stage,.slice A1 m1 c1,.slice B1 n1 k1,.bool (s.failed||er != 0)];rw [HG.out];exact ⟨_,_,rfl,r1,r2⟩
  ·have HG:=H_ (show endedS s p er=s by unfold endedS;rw [if_neg (fun h=>hm h.2)]);have d2:decide (0≤atL s.going p)=false:=decide_eq_false (by have:=mem_at.2 hm;omega);generalize atL s.going p=q at hat d2;have ha0:=hat W HS.out;clear hst hm hat
   go_wp2_with (first
    | (go_at_call 32;(with_reducible refine CM ha0 ?_);rintro e w1 ⟨rfl,rfl⟩)
    | (refine st_sy rfl (.tmp 6) (.tmp 19) rfl rfl (w.heap.size+1) rfl rfl (HS.out).r rfl ?_))
   show bodyPost Tryz.prog Tryz.f14 _ _ _ _
   refine bodyPost_ret (sy_res rfl _ _ (w.heap.size+1) _ _ _ _ _ _ _ _ rfl (setRow_heap _ _ _ _ _ _ (HS.out).r)) rfl ?_;obtain ⟨r1,r2⟩:=(HS.out).back (fun z hz=>(s1 z hz).1) #[.int .i64 s.file,.int .i64 s.size,.int .i64 s.stage,.slice A1 m1 c1,.slice A2 m2 c2,.bool s.failed];rw [HG.out];exact ⟨_,_,rfl,r1,r2⟩
 ·have HG:=H_ (show endedS s p er=s by unfold endedS;rw [if_neg (fun h=>hst h.1)]);have d1:(s.stage != 1)=true:=bne_iff_ne.2 hst;clear hst
  go_wp2_with (refine st_sy rfl (.tmp 6) (.tmp 19) rfl rfl (w.heap.size+1) rfl rfl (HS.out).r rfl ?_)
  show bodyPost Tryz.prog Tryz.f14 _ _ _ _
  refine bodyPost_ret (sy_res rfl _ _ (w.heap.size+1) _ _ _ _ _ _ _ _ rfl (setRow_heap _ _ _ _ _ _ (HS.out).r)) rfl ?_;obtain ⟨r1,r2⟩:=(HS.out).back (fun z hz=>(s1 z hz).1) #[.int .i64 s.file,.int .i64 s.size,.int .i64 s.stage,.slice A1 m1 c1,.slice A2 m2 c2,.bool s.failed];rw [HG.out];exact ⟨_,_,rfl,r1,r2⟩
theorem pNext_w43 (s:Sy) (v1 v2:Value) (S:Nat→Prop) (w:World) (h:SyA w S v1 v2 s) (hS:∀z,w.heap.size≤z→S z):Calls Tryz.prog 18 #[syV s v1 v2] w (RetSy (nextS s) S w):=by
 obtain ⟨A1,m1,c1,e1⟩:=h.t.cap;obtain ⟨A2,m2,c2,e2⟩:=h.g.cap;subst e1 e2;have HM1:=H_ h.m1;have HM2:=H_ h.m2;obtain ⟨S1,s1,s2,s3⟩:=s1set hS;replace h:=h.weak s3;clear s3;have hlt:=h.lt;have hlg:=h.lg;have HS:=H_ (SyB.start h (fun z hz=>(s1 z hz).2));clear h;go_enter Tryz.func18,Tryz.ntmps18
 go_upto_region 1 with fail
 generalize (w.alloc _).alloc _=W at HS;obtain ⟨x0,x1,x2,x3,x4,x5⟩:=cs6 HS.out.x;clear x0 x1 x2 x3 x4 x5;obtain ⟨x0,x1,x2,x3,x4,x5⟩:=cs6 HS.out.x
 go_upto_region 2 with (first
  | (go_at_call 31;go_loud (refine CM (same_w43 s _ _ S1 W HS.out.a (fun z hz=>s2 z (by have:=HS.out.fresh;omega))) ?_);rintro e w1 ⟨v1',v2',rfl,ha1,hb1⟩;obtain ⟨A1,m1,c1,rfl⟩:=ha1.t.cap;obtain ⟨A2,m2,c2,rfl⟩:=ha1.g.cap;have HS1:=H_ (HS.out.step hb1))
  | (refine st_sy rfl (.tmp 1) (.tmp 4) rfl rfl w.heap.size rfl rfl HS1.out.x rfl ?_))
 have HS2:=H_ (HS1.out.row ha1);have HM1:=H_ ha1.m1;have HM2:=H_ ha1.m2;clear HS HS1 x0 x1 x2 x3 x4 x5 ha1 hb1;have HS:=HS2;clear HS2;generalize w1.setRow _ _=W at HS;obtain ⟨x0,x1,x2,x3,x4,x5⟩:=cs6 HS.out.x;have b1:m1≤100:=by have:=HM1.out;omega
 have b2:m2≤100:=by have:=HM2.out;omega
 by_cases hst:s.stage=1
 ·have d1:(s.stage != 1)=false:=by simp [hst]
  by_cases ht:m1=0
  ·have HT:=H_ (show s.todo=[] from List.length_eq_zero_iff.1 (by rw [←HM1.out];exact ht))
   by_cases hg:m2=0
   ·have HGG:=H_ (show s.going=[] from List.length_eq_zero_iff.1 (by rw [←HM2.out];exact hg));have HG:=H_ (show nextS s={s with stage:=if s.failed then 3 else 2} by unfold nextS;rw [if_pos ⟨hst,HT.out,HGG.out⟩])
    subst ht hg;have f2:=free_at HS.out.x 2;clear hst
    go_upto_region 5 with fail
    have HS2:=H_ (HS.out.set 2 (.int .i64 2) (s':={s with stage:=2}) HS.out.a' rfl)
    clear x0 x1 x2 x3 x4 x5 f2;generalize W.setCell _ _=W2 at HS2;have hX:=(HS2.out).x
    dsimp only at hX
    obtain ⟨x0,x1,x2,x3,x4,x5⟩:=cs6 hX;clear hX;obtain ⟨fl,hf⟩:∃fl,s.failed=fl:=⟨_,rfl⟩;have HF:=H_ hf;rw [hf] at x5;clear hf
    cases fl with
    | true=>
     have f2:=free_at HS2.out.x 2
     go_upto_region 7 with fail
     have HS3:=H_ (HS2.out.set 2 (.int .i64 3) (s':={s with stage:=3}) HS2.out.a' rfl)
     clear HS2 x0 x1 x2 x3 x4 x5 f2;generalize W2.setCell _ _=W3 at HS3;have hX:=(HS3.out).x
     dsimp only at hX
     obtain ⟨x0,x1,x2,x3,x4,x5⟩:=cs6 hX;clear hX
     go_wp2_with (refine st_sy rfl (.tmp 2) (.tmp 23) rfl rfl (w.heap.size+1) rfl rfl (HS3.out).r rfl ?_)
     show bodyPost Tryz.prog Tryz.f18 _ _ _ _
     refine bodyPost_ret (sy_res rfl _ _ (w.heap.size+1) _ _ _ _ _ _ _ _ rfl (setRow_heap _ _ _ _ _ _ (HS3.out).r)) rfl ?_;obtain ⟨r1,r2⟩:=(HS3.out).back (fun z hz=>(s1 z hz).1) #[.int .i64 s.file,.int .i64 s.size,.int .i64 3,.slice A1 0 c1,.slice A2 0 c2,.bool s.failed];rw [HG.out,if_pos HF.out];exact ⟨_,_,rfl,r1,r2⟩
    | false=>
     go_wp2_with (refine st_sy rfl (.tmp 2) (.tmp 23) rfl rfl (w.heap.size+1) rfl rfl (HS2.out).r rfl ?_)
     show bodyPost Tryz.prog Tryz.f18 _ _ _ _
     refine bodyPost_ret (sy_res rfl _ _ (w.heap.size+1) _ _ _ _ _ _ _ _ rfl (setRow_heap _ _ _ _ _ _ (HS2.out).r)) rfl ?_;obtain ⟨r1,r2⟩:=(HS2.out).back (fun z hz=>(s1 z hz).1) #[.int .i64 s.file,.int .i64 s.size,.int .i64 2,.slice A1 0 c1,.slice A2 0 c2,.bool false];rw [HG.out,if_neg (by rw [HF.out];simp)];refine ⟨_,_,?_,r1,r2⟩;rw [syV]
     dsimp only
     rw [HF.out]
   ·have HG:=H_ (show nextS s=s by unfold nextS;rw [if_neg (fun h=>hg (by rw [HM2.out,h.2.2];rfl))]);have d3:(0:Int)<(m2:Int):=by omega
    clear hst hg;obtain rfl:m1=0:=ht
    go_wp2_with (refine st_sy rfl (.tmp 2) (.tmp 18) rfl rfl (w.heap.size+1) rfl rfl (HS.out).r rfl ?_)
    show bodyPost Tryz.prog Tryz.f18 _ _ _ _
    refine bodyPost_ret (sy_res rfl _ _ (w.heap.size+1) _ _ _ _ _ _ _ _ rfl (setRow_heap _ _ _ _ _ _ (HS.out).r)) rfl ?_;obtain ⟨r1,r2⟩:=(HS.out).back (fun z hz=>(s1 z hz).1) #[.int .i64 s.file,.int .i64 s.size,.int .i64 s.stage,.slice A1 0 c1,.slice A2 m2 c2,.bool s.failed];rw [HG.out];exact ⟨_,_,rfl,r1,r2⟩
  ·have HG:=H_ (show nextS s=s by unfold nextS;rw [if_neg (fun h=>ht (by rw [HM1.out,h.2.1];rfl))]);have d3:(0:Int)<(m1:Int)+(m2:Int):=by omega
   clear hst ht
   go_wp2_with (refine st_sy rfl (.tmp 2) (.tmp 18) rfl rfl (w.heap.size+1) rfl rfl (HS.out).r rfl ?_)
   show bodyPost Tryz.prog Tryz.f18 _ _ _ _
   refine bodyPost_ret (sy_res rfl _ _ (w.heap.size+1) _ _ _ _ _ _ _ _ rfl (setRow_heap _ _ _ _ _ _ (HS.out).r)) rfl ?_;obtain ⟨r1,r2⟩:=(HS.out).back (fun z hz=>(s1 z hz).1) #[.int .i64 s.file,.int .i64 s.size,.int .i64 s.stage,.slice A1 m1 c1,.slice A2 m2 c2,.bool s.failed];rw [HG.out];exact ⟨_,_,rfl,r1,r2⟩
 ·have HG:=H_ (show nextS s=s by unfold nextS;rw [if_neg (fun h=>hst h.1)]);have d1:(s.stage != 1)=true:=bne_iff_ne.2 hst;clear hst
  go_wp2_with (refine st_sy rfl (.tmp 2) (.tmp 18) rfl rfl (w.heap.size+1) rfl rfl (HS.out).r rfl ?_)
  show bodyPost Tryz.prog Tryz.f18 _ _ _ _
  refine bodyPost_ret (sy_res rfl _ _ (w.heap.size+1) _ _ _ _ _ _ _ _ rfl (setRow_heap _ _ _ _ _ _ (HS.out).r)) rfl ?_;obtain ⟨r1,r2⟩:=(HS.out).back (fun z hz=>(s1 z hz).1) #[.int .i64 s.file,.int .i64 s.size,.int .i64 s.stage,.slice A1 m1 c1,.slice A2 m2 c2,.bool s.failed];rw [HG.out];exact ⟨_,_,rfl,r1,r2⟩
theorem pFin_w (s:Sy) (er:Int) (v1 v2:Value) (S:Nat→Prop) (w:World) (h:SyA w S v1 v2 s) (hS:∀z,w.heap.size≤z→S z):Calls Tryz.prog 20 #[syV s v1 v2,.int .i64 er] w (RetSyE (finS s er) S w):=by
 obtain ⟨A1,m1,c1,e1⟩:=h.t.cap;obtain ⟨A2,m2,c2,e2⟩:=h.g.cap;subst e1 e2;have HM1:=H_ h.m1;have HM2:=H_ h.m2;obtain ⟨S1,s1,s2,s3⟩:=s1set hS;replace h:=h.weak s3;clear s3;have hlt:=h.lt;have hlg:=h.lg;have HS:=H_ (SyB.start h (fun z hz=>(s1 z hz).2));clear h;go_enter Tryz.func20,Tryz.ntmps20
 go_upto_region 1 with fail
 generalize (w.alloc _).alloc _=W at HS;obtain ⟨x0,x1,x2,x3,x4,x5⟩:=cs6 HS.out.x;clear x0 x1 x2 x3 x4 x5;obtain ⟨x0,x1,x2,x3,x4,x5⟩:=cs6 HS.out.x
 go_upto_region 2 with (first
  | (go_at_call 31;go_loud (refine CM (same_w43 s _ _ S1 W HS.out.a (fun z hz=>s2 z (by have:=HS.out.fresh;omega))) ?_);rintro e w1 ⟨v1',v2',rfl,ha1,hb1⟩;obtain ⟨A1,m1,c1,rfl⟩:=ha1.t.cap;obtain ⟨A2,m2,c2,rfl⟩:=ha1.g.cap;have HS1:=H_ (HS.out.step hb1))
  | (refine st_sy rfl (.tmp 2) (.tmp 7) rfl rfl w.heap.size rfl rfl HS1.out.x rfl ?_))
 have HS2:=H_ (HS1.out.row ha1);have HM1:=H_ ha1.m1;have HM2:=H_ ha1.m2;clear HS HS1 x0 x1 x2 x3 x4 x5 ha1 hb1;have HS:=HS2;clear HS2;generalize w1.setRow _ _=W at HS;obtain ⟨x0,x1,x2,x3,x4,x5⟩:=cs6 HS.out.x
 by_cases hst:s.stage=2
 ·have d1:(s.stage != 2)=false:=by simp [hst]
  have HG:=H_ (show finS s er=({s with stage:=3,failed:=s.failed||er != 0},0) by unfold finS;rw [if_pos hst])
  have f2:=free_at HS.out.x 2;clear hst
  go_upto_region 5 with fail
  have HS2:=H_ (HS.out.set 2 (.int .i64 3) (s':={s with stage:=3}) HS.out.a' rfl)
  clear x0 x1 x2 x3 x4 x5 f2;generalize W.setCell _ _=W2 at HS2;have hX:=(HS2.out).x
  dsimp only at hX
  obtain ⟨x0,x1,x2,x3,x4,x5⟩:=cs6 hX;clear hX;have fz:=free_at HS2.out.x 5;have HS3:=H_ (HS2.out.set 5 (.bool (s.failed||er != 0)) (s':={s with stage:=3,failed:=s.failed||er != 0}) HS2.out.a' rfl)
  obtain ⟨W3,hW3⟩:∃W3,W3=W2.setCell ⟨w.heap.size,5,none⟩ (.bool (s.failed||er != 0)):=⟨_,rfl⟩;rw [←hW3] at HS3
  go_cut [] (fun wx=>wx=W3)
  case first=>
   cases hf:s.failed with
   | true=>
    rw [hf] at x5 hW3;go_wp2;go_meet
    case rel=>exact hW3.symm
   | false=>
    rw [hf] at x5 hW3;go_wp2;go_meet
    case rel=>exact hW3.symm
  case rest=>
   subst hcut;clear HS2 x0 x1 x2 x3 x4 x5 fz hW3;have hX:=(HS3.out).x
   dsimp only at hX
   obtain ⟨x0,x1,x2,x3,x4,x5⟩:=cs6 hX;clear hX
   go_wp2_with (refine st_sy rfl (.tmp 4) (.tmp 20) rfl rfl (w.heap.size+1) rfl rfl (HS3.out).r rfl ?_)
   show bodyPost Tryz.prog Tryz.f20 _ _ _ _
   refine bodyPost_ret (sy2_res rfl _ _ (w.heap.size+1) _ _ _ _ _ _ _ _ _ rfl rfl (setRow_heap _ _ _ _ _ _ (HS3.out).r)) rfl ?_;obtain ⟨r1,r2⟩:=(HS3.out).back (fun z hz=>(s1 z hz).1) #[.int .i64 s.file,.int .i64 s.size,.int .i64 3,.slice A1 m1 c1,.slice A2 m2 c2,.bool (s.failed||er != 0)];rw [HG.out];exact ⟨_,_,rfl,r1,r2⟩
 ·have HG:=H_ (show finS s er=(s,1) by unfold finS;rw [if_neg hst]);have d1:(s.stage != 2)=true:=bne_iff_ne.2 hst;clear hst
  go_wp2_with (refine st_sy rfl (.tmp 4) (.tmp 11) rfl rfl (w.heap.size+1) rfl rfl (HS.out).r rfl ?_)
  show bodyPost Tryz.prog Tryz.f20 _ _ _ _
  refine bodyPost_ret (sy2_res rfl _ _ (w.heap.size+1) _ _ _ _ _ _ _ _ _ rfl rfl (setRow_heap _ _ _ _ _ _ (HS.out).r)) rfl ?_;obtain ⟨r1,r2⟩:=(HS.out).back (fun z hz=>(s1 z hz).1) #[.int .i64 s.file,.int .i64 s.size,.int .i64 s.stage,.slice A1 m1 c1,.slice A2 m2 c2,.bool s.failed];rw [HG.out];exact ⟨_,_,rfl,r1,r2⟩
end
end Go.Proofs.YthhekebemmckcaaGreatDoor
