/-
  Lemmas and contracts for the laws of synchronisations (layer 43), part 22; several texts joined by a program.
-/
import Derived.Test.YthhekebemmckcaaGreatDoorJ01
import Derived.Test.YthhekebemmckcaaGreatDoorJ16
import Derived.Test.YthhekebemmckcaaGreatDoorJ21
namespace Go.Proofs.YthhekebemmckcaaGreatDoor
set_option linter.unusedVariables false
set_option linter.unusedSimpArgs false
set_option maxRecDepth 100000
set_option maxHeartbeats 16000000
open Go.RowKit
section
theorem cleanG_ok {p:Pg} (h:PgOk p) {s:Int} (hs:0≤s∧s≤3):PgOk (cleanG p s):=by
 obtain ⟨d,v,y⟩:=p;obtain ⟨h1,h2,h3,h4⟩:=h
 dsimp only at h1 h2 h3 h4
 refine ⟨h1,h2,?_,?_⟩
 all_goals
  show _
  simp only [cleanG];obtain rfl | rfl | rfl | rfl:v=0∨v=1∨v=2∨v=3:=by omega
  all_goals (obtain rfl | rfl | rfl | rfl:y=0∨y=1∨y=2∨y=3:=by omega)
  all_goals (obtain rfl | rfl | rfl | rfl:s=0∨s=1∨s=2∨s=3:=by omega)
  all_goals first
   | decide
   | exact absurd h4 (by decide)
def PutB (C:Ck) (i j:Nat) (x:Fr) (y:Fl) (C':Ck):Prop:=C'=C∨∃x',FrOk x'∧x'.file=x.file∧x'.page=x.page∧x'.tenant=x.tenant∧C'={putC C i j y x' with ptes:=C.ptes.map (shutP ((i:Int)+1))}
def RetBg (P:Ck→Prop) (S:Nat→Prop) (w:World) (en:Ending) (w':World):Prop:=∃C' err a b c d e f g rq,P C'∧en = .returned (.tuple #[ckV a b c d e f g,rq,.int .i64 err])∧CkAt w' S a b c d e f g C'∧Below w.heap.size w w'
theorem res3 {P:Program} {fn:Func} {p r q:Tmp} {ty ty2:TypeId} (h:fn.results=#[.cell p ty,.cell r ty2,.tmp q]) (tmps:Array Value) (w:World) (g g2:Nat) (t t2:TypeId) (cs cs2:Array Value) (fr fr2:Nat × Nat) (d d2:TypeDesc) (u:Value)
  (hp:tmps.getD p undef = .pointer (some ⟨g,0,none⟩)) (hr:tmps.getD r undef = .pointer (some ⟨g2,0,none⟩)) (hq:tmps.getD q undef=u) (hg:w.heap[g]?=some (.cells cs t fr)) (hg2:w.heap[g2]?=some (.cells cs2 t2 fr2))
  (hu:P.underlying ty=some d) (hd:(match d with | .struct _ | .array _ _=>true | _=>false)=true) (hi:(P.info? ty).map (·.size)=some cs.size)
  (hu2:P.underlying ty2=some d2) (hd2:(match d2 with | .struct _ | .array _ _=>true | _=>false)=true) (hi2:(P.info? ty2).map (·.size)=some cs2.size) :
  (results fn tmps).run P w = .ok (.tuple #[.agg cs,.agg cs2,u]) w:=by
 have hp':tmps[p]?.getD undef = .pointer (some ⟨g,0,none⟩):=by simpa using hp
 have hr':tmps[r]?.getD undef = .pointer (some ⟨g2,0,none⟩):=by simpa using hr
 have hq':tmps[q]?.getD undef=u:=by simpa using hq
 simp [results,h,hp',hr',hq',asAddr,run_loadVar_row w g t ty cs fr d hg hu hd hi,run_loadVar_row w g2 t2 ty2 cs2 fr2 d2 hg2 hu2 hd2 hi2]
theorem bg_res {fn:Func} {p r q:Tmp} (h:fn.results=#[.cell p 30,.cell r 97,.tmp q]) (tmps:Array Value) (w:World) (g g2:Nat) (t t2:TypeId) (x0 x1 x2 x3 x4 x5 x6 y0 y1 y2 y3 y4 y5 y6 y7 y8 y9:Value) (fr fr2:Nat × Nat) (u:Value)
  (hp:tmps.getD p undef = .pointer (some ⟨g,0,none⟩)) (hr:tmps.getD r undef = .pointer (some ⟨g2,0,none⟩)) (hq:tmps.getD q undef=u) (hg:w.heap[g]?=some (.cells #[x0,x1,x2,x3,x4,x5,x6] t fr)) (hg2:w.heap[g2]?=some (.cells #[y0,y1,y2,y3,y4,y5,y6,y7,y8,y9] t2 fr2)):(results fn tmps).run Tryz.prog w = .ok (.tuple #[ckV x0 x1 x2 x3 x4 x5 x6,.agg #[y0,y1,y2,y3,y4,y5,y6,y7,y8,y9],u]) w:=
 res3 h tmps w g g2 t t2 _ _ fr fr2 _ _ u hp hr hq hg hg2 Tryz.underlying30 rfl ck_size Tryz.underlying97 rfl rq_size
def CBb (S:Nat→Prop) (W:World) (n X Y:Nat) (cs qs:Array Value) (w:World) (b:Bool) (wx:World):Prop:=KeepS S W wx∧Below n w wx∧wx.heap[X]?=some (.cells cs 30 (0,0))∧wx.heap[Y]?=some (.cells qs 97 (0,0))∧(∃cs,wx.heap[n+1]?=some (.cells cs 30 (0,0))∧cs.size=7)∧(∃cs,wx.heap[n+1+1]?=some (.cells cs 97 (0,0))∧cs.size=10)∧(b=true→wx.heap[n+1+1]?=some (.cells qs 97 (0,0)))
def GBb (A B:Value) (H:World→Prop):Nat→Value→World→Prop
 | 0,v,_=>v=A
 | 1,v,_=>v=B
 | 2,_,w=>H w
 | 3,_,_=>True
 | 4,v,_=>v = .int .i64 0
 | _+5,_,_=>True
theorem begin_w (C:Ck) (i j:Nat) (x:Fr) (y:Fl) (s:Nat) (a b c d e f g:Value) (S:Nat→Prop) (w:World) (h:CkAt w S a b c d e f g C) (hl:CkOk C) (hu:FrU C i x j y) (hs:y.slot=s) (hs7:s<7) (hpt:PtsOk C.ptes) (hS:∀z,w.heap.size≤z→S z) :
  Calls Tryz.prog 48 #[ckV a b c d e f g,.int .i64 ((i:Int)+1)] w (RetBg (PutB C i j x y) S w):=by
 have HSL:=H_ hs;have HPT:=H_ hpt;clear hs hpt;obtain ⟨S1,s1,s2,s3⟩:=s1set hS;replace h:=h.weak s3;clear s3;have hus:=fun w' (hb:Below w.heap.size w w')=>used_w C i x a b c d e f g S1 w' (h.step hb) hu.fr hl.frames.2;rw [hu.used] at hus;obtain ⟨A1,cf0,rfl,q1,q2⟩:=h.files.form;obtain ⟨A2,cr0,rfl,q3,q4⟩:=h.frames.form;obtain ⟨A3,m3,c3,A4,m4,c4,A5,m5,c5,A6,m6,c6,A7,m7,c7,rfl,rfl,rfl,rfl,rfl⟩:=CkAt.caps5 h;obtain ⟨bb,o,rfl,hbl,y0,y1,y2,y3,y4,y5,y6,y7,y8⟩:=FrA.cells h.frames hu.fr;obtain ⟨bf,of,kt,KB,kc,rfl,hbf,k1,k2,k3,k4,hcf⟩:=FlA.cells h.files hu.fl;have hil:=(g_l hu.fr);have hjl:=(g_l hu.fl);have i2:(i:Int)<(C.frames.length:Int):=by omega
 have hl2:C.frames.length≤100:=hl.frames.2;have hl1:C.files.length≤100:=hl.files.2;have j2:(j:Int)<(C.files.length:Int):=by omega
 have H:=H_ h;have HL:=H_ hl;have HU:=H_ hu;clear h hl hu k1 k2 k3 k4;have HX:=H_ (bk_alloc (bk_alloc (heap_alloc_at w (.cells #[.slice (some ⟨bf,of,none⟩) C.files.length cf0,.slice (some ⟨bb,o,none⟩) C.frames.length cr0,.slice A3 m3 c3,.slice A4 m4 c4,.slice A5 m5 c5,.slice A6 m6 c6,.slice A7 m7 c7] 30)) (oCZ)) (oRZ));have HR:=H_ (bk_alloc (heap_at_new (w.alloc (.cells #[.slice (some ⟨bf,of,none⟩) C.files.length cf0,.slice (some ⟨bb,o,none⟩) C.frames.length cr0,.slice A3 m3 c3,.slice A4 m4 c4,.slice A5 m5 c5,.slice A6 m6 c6,.slice A7 m7 c7] 30)) (oCZ) (w.heap.size+1) (by simp)) (oRZ));have HQ:=H_ (heap_at_new ((w.alloc (.cells #[.slice (some ⟨bf,of,none⟩) C.files.length cf0,.slice (some ⟨bb,o,none⟩) C.frames.length cr0,.slice A3 m3 c3,.slice A4 m4 c4,.slice A5 m5 c5,.slice A6 m6 c6,.slice A7 m7 c7] 30)).alloc (oCZ)) (oRZ) (w.heap.size+1+1) (by simp));have HW:=H_ (bl_alloc (bl_alloc (bl_alloc (Below.refl w.heap.size w) (.cells #[.slice (some ⟨bf,of,none⟩) C.files.length cf0,.slice (some ⟨bb,o,none⟩) C.frames.length cr0,.slice A3 m3 c3,.slice A4 m4 c4,.slice A5 m5 c5,.slice A6 m6 c6,.slice A7 m7 c7] 30)) (oCZ)) (oRZ));have HZ:(((w.alloc (.cells #[.slice (some ⟨bf,of,none⟩) C.files.length cf0,.slice (some ⟨bb,o,none⟩) C.frames.length cr0,.slice A3 m3 c3,.slice A4 m4 c4,.slice A5 m5 c5,.slice A6 m6 c6,.slice A7 m7 c7] 30)).alloc (oCZ)).alloc (oRZ)).heap.size=w.heap.size+1+1+1:=by simp
 go_enter Tryz.func48,Tryz.ntmps48
 go_upto_region 1 with fail
 generalize ((w.alloc (.cells #[.slice (some ⟨bf,of,none⟩) C.files.length cf0,.slice (some ⟨bb,o,none⟩) C.frames.length cr0,.slice A3 m3 c3,.slice A4 m4 c4,.slice A5 m5 c5,.slice A6 m6 c6,.slice A7 m7 c7] 30)).alloc (oCZ)).alloc (oRZ)=W at HX HR HQ HW HZ;have HW0:=HW.out;obtain ⟨x0,x1,x2,x3,x4,x5,x6⟩:=cs7 HX.out
 go_upto_region 3 with (go_at_call 86;(with_reducible refine CM (hus _ (by assumption)) ?_);rintro e w1 ⟨rfl,hb1⟩;have HX1:=bkh HX hb1;have HR1:=bkh HR hb1;have HQ1:=bkh HQ hb1;have HW1:=blh HW hb1;have HZ1:=hb1.size;clear hb1)
 clear x0 x1 x2 x3 x4 x5 x6 HW0;obtain ⟨x0,x1,x2,x3,x4,x5,x6⟩:=cs7 HX1.out;replace y0:=(cell_kept (HW1.out.block _ hbl)).trans y0;replace y1:=(cell_kept (HW1.out.block _ hbl)).trans y1;replace y2:=(cell_kept (HW1.out.block _ hbl)).trans y2;replace y3:=(cell_kept (HW1.out.block _ hbl)).trans y3;replace y4:=(cell_kept (HW1.out.block _ hbl)).trans y4;replace y5:=(cell_kept (HW1.out.block _ hbl)).trans y5;replace y6:=(cell_kept (HW1.out.block _ hbl)).trans y6;replace y7:=(cell_kept (HW1.out.block _ hbl)).trans y7;replace y8:=(cell_kept (HW1.out.block _ hbl)).trans y8
 go_upto_region 4 with fail
 generalize hW9:w1.alloc _=W2;have HF:=nah hW9;have HX2:=bah hW9 HX1;have HR2:=bah hW9 HR1;have HQ2:=bah hW9 HQ1;have HW2:=lah hW9 HW1;clear hW9;clear x0 x1 x2 x3 x4 x5 x6 y0 y1 y2 y3 y4 y5 y6 y7 y8;obtain ⟨x0,x1,x2,x3,x4,x5,x6⟩:=cs7 HX2.out;obtain ⟨f0,f1,f2,f3,f4,f5,f6,f7,f8⟩:=cs9 HF.out;have HFZ:w.heap.size≤w1.heap.size∧w.heap.size+1+1<w1.heap.size:=⟨by omega,by omega⟩
 by_cases hw0:x.writing=0
 ·have d3:(x.writing != 0)=false:=by rw [hw0];rfl
  clear hw0
  by_cases hd0:x.pg.dirty=0
  ·have d4:(x.pg.dirty == 0)=true:=by rw [hd0];rfl
   clear hd0
   go_wp2_with (first | (refine st_ck rfl (.tmp 4) (.tmp 34) rfl rfl (w.heap.size+1) rfl rfl HR2.out rfl ?_) | (refine wpList_store_rowTo rfl 97 (.tmp 5) (.tmp 35) rfl rfl (w.heap.size+1+1) #[.int .i64 0,.int .i64 0,.int .i64 0,.int .i64 0,.int .i64 0,.int .i64 0,.string ⟨#[]⟩,.bool false,.bool false,.int .i64 0] rfl rfl 97 _ ((setRow_other _ (w.heap.size+1) (w.heap.size+1+1) _ (by omega)).trans HQ2.out) rq_size rfl (rq_one _ _ _ _ _ _ _ _ _ _) ?_))
   show bodyPost Tryz.prog Tryz.f48 _ _ _ _
   refine bodyPost_ret (bg_res rfl _ _ (w.heap.size+1) (w.heap.size+1+1) _ _ _ _ _ _ _ _ _ _ _ _ _ _ _ _ _ _ _ _ _ _ rfl rfl rfl ((setRow_other _ (w.heap.size+1+1) (w.heap.size+1) _ (by omega)).trans (setRow_heap _ _ _ _ _ _ HR2.out)) (setRow_heap _ _ _ _ _ _ ((setRow_other _ (w.heap.size+1) (w.heap.size+1+1) _ (by omega)).trans HQ2.out))) rfl ?_;have hfin:=bl_setRow (bl_setRow HW2.out (by omega:w.heap.size≤w.heap.size+1) #[.slice (some ⟨bf,of,none⟩) C.files.length cf0,.slice (some ⟨bb,o,none⟩) C.frames.length cr0,.slice A3 m3 c3,.slice A4 m4 c4,.slice A5 m5 c5,.slice A6 m6 c6,.slice A7 m7 c7]) (by omega:w.heap.size≤w.heap.size+1+1) #[.int .i64 0,.int .i64 0,.int .i64 0,.int .i64 0,.int .i64 0,.int .i64 0,.string ⟨#[]⟩,.bool false,.bool false,.int .i64 0];exact ⟨C,_,_,_,_,_,_,_,_,_,.inl rfl,rfl,(H.out.step hfin).weak (fun z _ hz=>(s1 z hz).1),hfin⟩
  ·have d4:(x.pg.dirty == 0)=false:=beq_eq_false_iff_ne.2 hd0;have dd:=HU.out.ok.pg.d;have d5:1≤x.pg.dirty∧x.pg.dirty≤3:=by omega
   have D5:=H_ d5;clear hd0 dd d5;obtain ⟨p,hp⟩:∃p:Nat,x.page=p:=⟨x.page.toNat,by have:=HU.out.ok.page;omega⟩;have hp8:p<8:=by have:=HU.out.ok.page;omega
   have HP:=H_ hp;clear hp
   go_upto_region 9 with fail
   rw [HU.out.ix] at f0;rw [HP.out] at f1;have z7:W2.cell? ⟨bf,of+j*15+7,none⟩=some (.int .i64 y.blocks):=(cell_kept (HW2.out.block _ hbf)).trans (hcf 7 _ rfl)
   go_cut [50] (fun s50 wx=>∃bo:Bool,s50 = .bool bo∧wx.heap[w.heap.size]?=some (.cells #[.slice (some ⟨bf,of,none⟩) C.files.length cf0,.slice (some ⟨bb,o,none⟩) C.frames.length cr0,.slice A3 m3 c3,.slice A4 m4 c4,.slice A5 m5 c5,.slice A6 m6 c6,.slice A7 m7 c7] 30 (0,0))∧wx.heap[w.heap.size+1]?=some (oCZ)∧wx.heap[w.heap.size+1+1]?=some (oRZ)∧wx.heap[w1.heap.size]?=some (oF x)∧Below w.heap.size w wx)
   case first=>
    cases e:(bits .and .i64 y.blocks (wrap64 (2 ^ p)) == 0) with
    | true=>
     go_quiet (fail);go_wp2;go_meet
     case rel=>exact ⟨_,rfl,HX2.out,HR2.out,HQ2.out,HF.out,below_drewN HW2.out _⟩
    | false=>
     go_quiet (fail);go_wp2;go_meet
     case rel=>exact ⟨_,rfl,HX2.out,HR2.out,HQ2.out,HF.out,below_drewN HW2.out _⟩
   case rest=>
    clear z7 x0 x1 x2 x3 x4 x5 x6 f0 f1 f2 f3 f4 f5 f6 f7 f8 HX2 HR2 HQ2 HF HW2;obtain ⟨bo,rfl,hX,hR,hQ,hF,hW⟩:=hcut;have HX2:=H_ hX;have HR2:=H_ hR;have HQ2:=H_ hQ;have HF2:=H_ hF;have HW2:=H_ hW;clear hX hR hQ hF hW d3 d4
    go_upto_if 50 with fail
    go_cut [8] (fun s8 wx=>∃sc:Int,s8 = .int .i64 sc∧1≤sc∧sc≤3∧wx.heap[w.heap.size]?=some (.cells #[.slice (some ⟨bf,of,none⟩) C.files.length cf0,.slice (some ⟨bb,o,none⟩) C.frames.length cr0,.slice A3 m3 c3,.slice A4 m4 c4,.slice A5 m5 c5,.slice A6 m6 c6,.slice A7 m7 c7] 30 (0,0))∧wx.heap[w.heap.size+1]?=some (oCZ)∧wx.heap[w.heap.size+1+1]?=some (oRZ)∧wx.heap[w1.heap.size]?=some (oF x)∧Below w.heap.size w wx)
    case first=>
     cases bo with
     | true=>
      go_wp2;go_meet
      case rel=>exact ⟨3,rfl,by omega,by omega,HX2.out,HR2.out,HQ2.out,HF2.out,HW2.out⟩
     | false=>
      go_wp2;go_meet
      case rel=>exact ⟨_,rfl,D5.out.1,D5.out.2,HX2.out,HR2.out,HQ2.out,HF2.out,HW2.out⟩
    case rest=>
     clear HX2 HR2 HQ2 HF2 HW2;obtain ⟨sc,rfl,sc1,sc2,hX,hR,hQ,hF,hW⟩:=hcut;have HX2:=H_ hX;have HR2:=H_ hR;have HQ2:=H_ hQ;have HF2:=H_ hF;have HW2:=H_ hW;have hlr:=bk_lt hR;clear hR hQ hW;obtain ⟨x0,x1,x2,x3,x4,x5,x6⟩:=cs7 hX;obtain ⟨f0,f1,f2,f3,f4,f5,f6,f7,f8⟩:=cs9 hF;clear hX hF;have hrq:=fun w' (hb:Below w.heap.size w w') (hz:w.heap.size+1<w'.heap.size)=>request_w C i j x y s p sc _ _ _ _ _ _ _ S1 w' (H.out.step hb) HL.out HU.out HSL.out hs7 HP.out (fun z hz'=>s2 z (by omega))
     go_upto_region 12 with (go_at_call 87;go_loud (with_reducible refine CM (hrq _ HW2.out hlr) ?_);rintro e w3 ⟨rfl,hb3⟩)
     have HX3:=H_ (bk_alloc (bk_step HX2.out hb3) (.cells #[.int .i64 0,.int .i64 x.tenant,.int .i64 y.dev,.int .i64 0,.int .i64 ((s:Int)*18+2+(p:Int)*2+(spanI sc).1),.int .i64 (spanI sc).2,.string ⟨#[]⟩,.bool false,.bool false,.int .i64 0] 97));have HR3:=H_ (bk_alloc (bk_step HR2.out hb3) (.cells #[.int .i64 0,.int .i64 x.tenant,.int .i64 y.dev,.int .i64 0,.int .i64 ((s:Int)*18+2+(p:Int)*2+(spanI sc).1),.int .i64 (spanI sc).2,.string ⟨#[]⟩,.bool false,.bool false,.int .i64 0] 97));have HQ3:=H_ (bk_alloc (bk_step HQ2.out hb3) (.cells #[.int .i64 0,.int .i64 x.tenant,.int .i64 y.dev,.int .i64 0,.int .i64 ((s:Int)*18+2+(p:Int)*2+(spanI sc).1),.int .i64 (spanI sc).2,.string ⟨#[]⟩,.bool false,.bool false,.int .i64 0] 97));have HF3:=H_ (bk_alloc (bk_step HF2.out hb3) (.cells #[.int .i64 0,.int .i64 x.tenant,.int .i64 y.dev,.int .i64 0,.int .i64 ((s:Int)*18+2+(p:Int)*2+(spanI sc).1),.int .i64 (spanI sc).2,.string ⟨#[]⟩,.bool false,.bool false,.int .i64 0] 97));have HG3:=H_ (heap_at_new w3 (.cells #[.int .i64 0,.int .i64 x.tenant,.int .i64 y.dev,.int .i64 0,.int .i64 ((s:Int)*18+2+(p:Int)*2+(spanI sc).1),.int .i64 (spanI sc).2,.string ⟨#[]⟩,.bool false,.bool false,.int .i64 0] 97) w3.heap.size rfl);have HW3:=H_ (bl_alloc (bl_step HW2.out hb3) (.cells #[.int .i64 0,.int .i64 x.tenant,.int .i64 y.dev,.int .i64 0,.int .i64 ((s:Int)*18+2+(p:Int)*2+(spanI sc).1),.int .i64 (spanI sc).2,.string ⟨#[]⟩,.bool false,.bool false,.int .i64 0] 97));have hz3:w.heap.size+1+1<w3.heap.size∧w1.heap.size<w3.heap.size:=⟨bk_lt (bk_step HQ2.out hb3),bk_lt (bk_step HF2.out hb3)⟩;generalize w3.alloc (.cells #[.int .i64 0,.int .i64 x.tenant,.int .i64 y.dev,.int .i64 0,.int .i64 ((s:Int)*18+2+(p:Int)*2+(spanI sc).1),.int .i64 (spanI sc).2,.string ⟨#[]⟩,.bool false,.bool false,.int .i64 0] 97)=W3 at HX3 HR3 HQ3 HF3 HG3 HW3;clear hb3 hrq hlr x0 x1 x2 x3 x4 x5 x6 f0 f1 f2 f3 f4 f5 f6 f7 f8;obtain ⟨fi,co,hsp,hfi,hco⟩:∃fi co:Nat,spanI sc=((fi:Int),(co:Int))∧fi≤1∧fi+co≤2:=by
      obtain rfl | rfl | rfl:sc=1∨sc=2∨sc=3:=by omega
      ·exact ⟨0,1,rfl,by omega,by omega⟩
      ·exact ⟨1,1,rfl,by omega,by omega⟩
      ·exact ⟨0,2,rfl,by omega,by omega⟩
     have hsw:∀w',Calls Tryz.prog 88 #[.int .i64 sc] w' (RetQ (.tuple #[.int .i64 (fi:Int),.int .i64 (co:Int)]) w'):=fun w'=>by
      have:=span_w sc w';rw [hsp] at this;exact this
     clear hsp;have g3:=cells_at HG3.out 3;simp only [List.getElem?_toArray,List.getElem?_cons_zero,List.getElem?_cons_succ] at g3;have g3f:=free_at HG3.out 3
     go_upto_region 14 with (go_at_call 88;refine (hsw _).mono ?_;rintro e w9 ⟨rfl,rfl⟩)
     clear g3 g3f hsw;have HG4:=H_ (show (W3.setCell ⟨w3.heap.size,3,none⟩ (.int .i64 2)).heap[w3.heap.size]?=some (.cells #[.int .i64 0,.int .i64 x.tenant,.int .i64 y.dev,.int .i64 2,.int .i64 ((s:Int)*18+2+(p:Int)*2+(spanI sc).1),.int .i64 (spanI sc).2,.string ⟨#[]⟩,.bool false,.bool false,.int .i64 0] 97 (0,0)) from set_same HG3.out _);have HX4:=H_ ((Below.heap_setCell W3 ⟨w3.heap.size,3,none⟩ (.int .i64 2) w.heap.size (by show w.heap.size≠w3.heap.size;omega)).trans HX3.out);have HR4:=H_ ((Below.heap_setCell W3 ⟨w3.heap.size,3,none⟩ (.int .i64 2) (w.heap.size+1) (by show w.heap.size+1≠w3.heap.size;omega)).trans HR3.out);have HQ4:=H_ ((Below.heap_setCell W3 ⟨w3.heap.size,3,none⟩ (.int .i64 2) (w.heap.size+1+1) (by show w.heap.size+1+1≠w3.heap.size;omega)).trans HQ3.out);have HF4:=H_ ((Below.heap_setCell W3 ⟨w3.heap.size,3,none⟩ (.int .i64 2) w1.heap.size (by show w1.heap.size≠w3.heap.size;omega)).trans HF3.out);have HW4:=H_ (bl_set HW3.out ⟨w3.heap.size,3,none⟩ (.int .i64 2) (by show w.heap.size≤w3.heap.size;omega));generalize W3.setCell ⟨w3.heap.size,3,none⟩ (.int .i64 2)=W4 at HF4 HX4 HR4 HQ4 HG4 HW4;have g6:=cells_at HG4.out 6;simp only [List.getElem?_toArray,List.getElem?_cons_zero,List.getElem?_cons_succ] at g6;have g6f:=free_at HG4.out 6;obtain ⟨f0,f1,f2,f3,f4,f5,f6,f7,f8⟩:=cs9 HF4.out;have dn1:x.pg.data.size≤16:=by have:=HU.out.ok.pg.len;omega
     have dn2:16≤x.pg.data.size:=by have:=HU.out.ok.pg.len;omega
     have fc1:(fi:Int)*8≤((fi:Int)+(co:Int))*8:=by omega
     have fc2:((fi:Int)+(co:Int))*8≤(x.pg.data.size:Int):=by omega
     go_upto_region 15 with fail
     obtain ⟨ed,hed⟩:∃ed,ed=x.pg.data.extract (fi*8) ((fi+co)*8):=⟨_,rfl⟩;rw [←hed];clear hed g6 g6f dn1 dn2 fc1 fc2 f0 f1 f2 f3 f4 f5 f6 f7 f8;have HG5:=H_ (show (W4.setCell ⟨w3.heap.size,6,none⟩ (.string ed)).heap[w3.heap.size]?=some (.cells #[.int .i64 0,.int .i64 x.tenant,.int .i64 y.dev,.int .i64 2,.int .i64 ((s:Int)*18+2+(p:Int)*2+(spanI sc).1),.int .i64 (spanI sc).2,.string ed,.bool false,.bool false,.int .i64 0] 97 (0,0)) from set_same HG4.out _);have HX5:=H_ ((Below.heap_setCell W4 ⟨w3.heap.size,6,none⟩ (.string ed) w.heap.size (by show w.heap.size≠w3.heap.size;omega)).trans HX4.out);have HR5:=H_ ((Below.heap_setCell W4 ⟨w3.heap.size,6,none⟩ (.string ed) (w.heap.size+1) (by show w.heap.size+1≠w3.heap.size;omega)).trans HR4.out);have HQ5:=H_ ((Below.heap_setCell W4 ⟨w3.heap.size,6,none⟩ (.string ed) (w.heap.size+1+1) (by show w.heap.size+1+1≠w3.heap.size;omega)).trans HQ4.out);have HF5:=H_ ((Below.heap_setCell W4 ⟨w3.heap.size,6,none⟩ (.string ed) w1.heap.size (by show w1.heap.size≠w3.heap.size;omega)).trans HF4.out);have HW5:=H_ (bl_set HW4.out ⟨w3.heap.size,6,none⟩ (.string ed) (by show w.heap.size≤w3.heap.size;omega));generalize W4.setCell ⟨w3.heap.size,6,none⟩ (.string ed)=W5 at HF5 HX5 HR5 HQ5 HG5 HW5;have hfz:=free_at HF5.out 8;obtain ⟨f0,f1,f2,f3,f4,f5,f6,f7,f8⟩:=cs9 HF5.out
     go_upto_region 16 with fail
     have HF6:=H_ (show (W5.setCell ⟨w1.heap.size,8,none⟩ (.int .i64 sc)).heap[w1.heap.size]?=some (.cells #[.int .i64 x.file,.int .i64 x.page,.string x.pg.data,.int .i64 x.pg.valid,.int .i64 x.pg.dirty,.int .i64 x.tenant,.int .i64 x.holds,.int .i64 x.reading,.int .i64 sc] 55 (0,0)) from set_same HF5.out _);have HX6:=H_ ((Below.heap_setCell W5 ⟨w1.heap.size,8,none⟩ (.int .i64 sc) w.heap.size (by show w.heap.size≠w1.heap.size;omega)).trans HX5.out);have HR6:=H_ ((Below.heap_setCell W5 ⟨w1.heap.size,8,none⟩ (.int .i64 sc) (w.heap.size+1) (by show w.heap.size+1≠w1.heap.size;omega)).trans HR5.out);have HQ6:=H_ ((Below.heap_setCell W5 ⟨w1.heap.size,8,none⟩ (.int .i64 sc) (w.heap.size+1+1) (by show w.heap.size+1+1≠w1.heap.size;omega)).trans HQ5.out);have HG6:=H_ ((Below.heap_setCell W5 ⟨w1.heap.size,8,none⟩ (.int .i64 sc) w3.heap.size (by show w3.heap.size≠w1.heap.size;omega)).trans HG5.out);have HW6:=H_ (bl_set HW5.out ⟨w1.heap.size,8,none⟩ (.int .i64 sc) (by show w.heap.size≤w1.heap.size;omega));generalize W5.setCell ⟨w1.heap.size,8,none⟩ (.int .i64 sc)=W6 at HF6 HX6 HR6 HQ6 HG6 HW6;clear hfz f0 f1 f2 f3 f4 f5 f6 f7 f8;obtain ⟨f0,f1,f2,f3,f4,f5,f6,f7,f8⟩:=cs9 HF6.out;have hcl:=fun w'=>clean_w x.pg.data x.pg.valid x.pg.dirty sc w' HU.out.ok.pg ⟨by omega,sc2⟩
     go_upto_region 17 with (first
      | (go_at_call 89;go_loud (with_reducible refine CM (hcl _) ?_);rintro e w5 ⟨rfl,hb5⟩;have HF7:=bkh HF6 hb5;have HX7:=bkh HX6 hb5;have HR7:=bkh HR6 hb5;have HQ7:=bkh HQ6 hb5;have HG7:=bkh HG6 hb5;have HW7:=blh HW6 hb5;clear hb5;have hth:=there_pg HF7.out)
      | (refine wpList_store_mid rfl 53 (.tmp 81) (.tmp 79) rfl w1.heap.size 2 #[.string (cleanG x.pg sc).data,.int .i64 (cleanG x.pg sc).valid,.int .i64 (cleanG x.pg sc).dirty] rfl rfl hth pg_size (pg_one _ _ _) ?_)
      | fail)
     have HF8:=H_ (fr_setPg (u:= .string (cleanG x.pg sc).data) (v:= .int .i64 (cleanG x.pg sc).valid) (z:= .int .i64 (cleanG x.pg sc).dirty) HF7.out);have HX8:=H_ ((heap_setCells w1.heap.size [.string (cleanG x.pg sc).data,.int .i64 (cleanG x.pg sc).valid,.int .i64 (cleanG x.pg sc).dirty] 2 w5 w.heap.size (by omega)).trans HX7.out);have HR8:=H_ ((heap_setCells w1.heap.size [.string (cleanG x.pg sc).data,.int .i64 (cleanG x.pg sc).valid,.int .i64 (cleanG x.pg sc).dirty] 2 w5 (w.heap.size+1) (by omega)).trans HR7.out);have HQ8:=H_ ((heap_setCells w1.heap.size [.string (cleanG x.pg sc).data,.int .i64 (cleanG x.pg sc).valid,.int .i64 (cleanG x.pg sc).dirty] 2 w5 (w.heap.size+1+1) (by omega)).trans HQ7.out);have HG8:=H_ ((heap_setCells w1.heap.size [.string (cleanG x.pg sc).data,.int .i64 (cleanG x.pg sc).valid,.int .i64 (cleanG x.pg sc).dirty] 2 w5 w3.heap.size (by omega)).trans HG7.out);have HW8:=H_ (bl_setCells HW7.out (by omega:w.heap.size≤w1.heap.size) 2 [.string (cleanG x.pg sc).data,.int .i64 (cleanG x.pg sc).valid,.int .i64 (cleanG x.pg sc).dirty]);generalize w5.setCells w1.heap.size 2 _=W8 at HF8 HX8 HR8 HQ8 HG8 HW8;clear hth hcl f0 f1 f2 f3 f4 f5 f6 f7 f8;obtain ⟨f0,f1,f2,f3,f4,f5,f6,f7,f8⟩:=cs9 HF8.out;obtain ⟨x0,x1,x2,x3,x4,x5,x6⟩:=cs7 HX8.out;obtain ⟨S3,hS3⟩:∃S3:Nat→Prop,S3=fun z=>S1 z∧z≠w.heap.size+1+1:=⟨_,rfl⟩;have s3:∀z,S3 z→S1 z∧z≠w.heap.size+1+1:=fun z hz=>by rw [hS3] at hz;exact hz
     have s4:∀z,w.heap.size+1+1<z→S3 z:=fun z hz=>by rw [hS3];exact ⟨s2 z (by omega),by omega⟩
     have H3:=H_ (H.out.weak (S':=S3) (fun z hz h=>by rw [hS3];exact ⟨h,by omega⟩));clear hS3;have HZ8:w.heap.size+1+1<W8.heap.size:=bk_lt HQ8.out
     go_upto_region 18 with (go_at_call 90;go_loud (with_reducible refine CM (put_w40 C i j (⟨x.file,x.page,cleanG x.pg sc,x.tenant,x.holds,x.reading,sc⟩) y _ _ _ _ _ _ _ S3 _ (H3.out.step HW8.out) HL.out hil HU.out.fl HU.out.ix (fun z hz=>s4 z (by omega))) ?_);rintro e w4 ⟨gf,nf,cf,gr,nr,cr,c',d',gl,nl,cl,gk,nk,ck,g',rfl,hc4,hb4⟩;obtain ⟨P3,n3,r3,rfl⟩:=hc4.zones.cap;obtain ⟨P4,n4,r4,rfl⟩:=hc4.groups.cap;obtain ⟨P7,n7,r7,rfl⟩:=hc4.ptes.cap)
     obtain ⟨S5,hS5⟩:∃S5:Nat→Prop,S5=fun z=>S3 z∧z≠w4.heap.size:=⟨_,rfl⟩;have s5:∀z,S5 z→S3 z∧z≠w4.heap.size:=fun z hz=>by rw [hS5] at hz;exact hz
     have HZ4:w.heap.size+1+1<w4.heap.size∧w3.heap.size<w4.heap.size:=⟨by have:=hb4.size;omega,bk_lt (bk_step HG8.out hb4)⟩;have s6:∀z,w4.heap.size<z→S5 z:=fun z hz=>by rw [hS5];exact ⟨s4 z (by omega),by omega⟩
     have HK9:=H_ ((hc4.at_.weak (S':=S5) (fun z hz h=>by rw [hS5];exact ⟨h,by omega⟩)).step (bl_alloc (Below.refl w4.heap.size w4) (.cells ((R7_ gf nf cf gr nr cr (.slice P3 n3 r3) (.slice P4 n4 r4) gl nl cl gk nk ck (.slice P7 n7 r7))) 30)));have HP9:=H_ ((H3.out.ptes.oldB (bl_alloc (bl_step HW8.out hb4) (.cells ((R7_ gf nf cf gr nr cr (.slice P3 n3 r3) (.slice P4 n4 r4) gl nl cl gk nk ck (.slice P7 n7 r7))) 30))).weak (S':=S5) (fun z hz h=>by rw [hS5];exact ⟨h.1,by omega⟩));have HO9:=H_ (heap_at_new w4 (.cells ((R7_ gf nf cf gr nr cr (.slice P3 n3 r3) (.slice P4 n4 r4) gl nl cl gk nk ck (.slice P7 n7 r7))) 30) w4.heap.size rfl);have HX9:=H_ (bk_alloc (bk_step HX8.out hb4) (.cells ((R7_ gf nf cf gr nr cr (.slice P3 n3 r3) (.slice P4 n4 r4) gl nl cl gk nk ck (.slice P7 n7 r7))) 30));have HR9:=H_ (bk_alloc (bk_step HR8.out hb4) (.cells ((R7_ gf nf cf gr nr cr (.slice P3 n3 r3) (.slice P4 n4 r4) gl nl cl gk nk ck (.slice P7 n7 r7))) 30));have HQ9:=H_ (bk_alloc (bk_step HQ8.out hb4) (.cells ((R7_ gf nf cf gr nr cr (.slice P3 n3 r3) (.slice P4 n4 r4) gl nl cl gk nk ck (.slice P7 n7 r7))) 30));have HG9:=H_ (bk_alloc (bk_step HG8.out hb4) (.cells ((R7_ gf nf cf gr nr cr (.slice P3 n3 r3) (.slice P4 n4 r4) gl nl cl gk nk ck (.slice P7 n7 r7))) 30));have HW9:=H_ (bl_alloc (bl_step HW8.out hb4) (.cells ((R7_ gf nf cf gr nr cr (.slice P3 n3 r3) (.slice P4 n4 r4) gl nl cl gk nk ck (.slice P7 n7 r7))) 30));clear hc4 hb4 hS5 x0 x1 x2 x3 x4 x5 x6 f0 f1 f2 f3 f4 f5 f6 f7 f8;have hW9s:(w4.alloc (.cells ((R7_ gf nf cf gr nr cr (.slice P3 n3 r3) (.slice P4 n4 r4) gl nl cl gk nk ck (.slice P7 n7 r7))) 30)).heap.size=w4.heap.size+1:=by simp
     generalize w4.alloc (.cells ((R7_ gf nf cf gr nr cr (.slice P3 n3 r3) (.slice P4 n4 r4) gl nl cl gk nk ck (.slice P7 n7 r7))) 30)=W9 at HK9 HP9 HO9 HX9 HR9 HQ9 HG9 HW9 hW9s;obtain ⟨x0,x1,x2,x3,x4,x5,x6⟩:=cs7 HX9.out;have hpr:=protect_w C.ptes ((i:Int)+1) _ S5 W9 HP9.out HPT.out (fun z hz=>s6 z (by omega));have o6:=cells_at HO9.out 6;have o6f:=free_at HO9.out 6;clear o6 o6f
     go_upto_region 19 with (go_at_call 91;go_loud (with_reducible refine CM hpr ?_);rintro e w10 ⟨pv,rfl,hpv,hb10⟩;obtain ⟨P8,n8,r8,rfl⟩:=hpv.cap;have HO10:=bkh HO9 hb10;have HX10:=bkh HX9 hb10;have HR10:=bkh HR9 hb10;have HQ10:=bkh HQ9 hb10;have HG10:=bkh HG9 hb10;have HW10:=blh HW9 hb10;have HK10:=H_ (HK9.out.step hb10);have HP10:=H_ hpv;have o6:=cells_at HO10.out 6;have o6f:=free_at HO10.out 6;clear hpv hb10)
     have HO11:=H_ (show (w10.setCell ⟨w4.heap.size,6,none⟩ (.slice P8 n8 r8)).heap[w4.heap.size]?=some (.cells #[.slice (some ⟨gf,0,none⟩) nf cf,.slice (some ⟨gr,0,none⟩) nr cr,.slice P3 n3 r3,.slice P4 n4 r4,.slice (some ⟨gl,0,none⟩) nl cl,.slice (some ⟨gk,0,none⟩) nk ck,.slice P8 n8 r8] 30 (0,0)) from set_same HO10.out _);have HR11:=H_ ((Below.heap_setCell w10 ⟨w4.heap.size,6,none⟩ (.slice P8 n8 r8) (w.heap.size+1) (by show w.heap.size+1≠w4.heap.size;omega)).trans HR10.out);have HQ11:=H_ ((Below.heap_setCell w10 ⟨w4.heap.size,6,none⟩ (.slice P8 n8 r8) (w.heap.size+1+1) (by show w.heap.size+1+1≠w4.heap.size;omega)).trans HQ10.out);have HG11:=H_ ((Below.heap_setCell w10 ⟨w4.heap.size,6,none⟩ (.slice P8 n8 r8) w3.heap.size (by show w3.heap.size≠w4.heap.size;omega)).trans HG10.out);have HW11:=H_ (bl_set HW10.out ⟨w4.heap.size,6,none⟩ (.slice P8 n8 r8) (by show w.heap.size≤w4.heap.size;omega));have HK11:=H_ ((show CkAt w10 S5 _ _ _ _ _ _ (.slice P8 n8 r8) {putC C i j y ⟨x.file,x.page,cleanG x.pg sc,x.tenant,x.holds,x.reading,sc⟩ with ptes:=C.ptes.map (shutP ((i:Int)+1))} from ⟨HK10.out.files,HK10.out.frames,HK10.out.zones,HK10.out.groups,HK10.out.lists,HK10.out.clocks,HP10.out⟩).kept (KeepS.of_setCell w10 ⟨w4.heap.size,6,none⟩ (.slice P8 n8 r8) (fun hz=>(s5 _ hz).2 rfl)))
     generalize w10.setCell ⟨w4.heap.size,6,none⟩ (.slice P8 n8 r8)=W11 at HO11 HR11 HQ11 HG11 HW11 HK11;clear o6 o6f x0 x1 x2 x3 x4 x5 x6
     go_cut [6] (fun s6 wx=>s6 = .int .i64 0∧KeepS S5 W11 wx∧Below w.heap.size w wx∧wx.heap[w.heap.size+1]?=some (.cells #[.slice (some ⟨gf,0,none⟩) nf cf,.slice (some ⟨gr,0,none⟩) nr cr,.slice P3 n3 r3,.slice P4 n4 r4,.slice (some ⟨gl,0,none⟩) nl cl,.slice (some ⟨gk,0,none⟩) nk ck,.slice P8 n8 r8] 30 (0,0))∧wx.heap[w.heap.size+1+1]?=some (.cells #[.int .i64 0,.int .i64 x.tenant,.int .i64 y.dev,.int .i64 2,.int .i64 ((s:Int)*18+2+(p:Int)*2+(spanI sc).1),.int .i64 (spanI sc).2,.string ed,.bool false,.bool false,.int .i64 0] 97 (0,0)))
     case first=>
      refine wp_region_relC 93 3 (fun i=>decide (i≤2)) (CBb S5 W11 w.heap.size w4.heap.size w3.heap.size #[.slice (some ⟨gf,0,none⟩) nf cf,.slice (some ⟨gr,0,none⟩) nr cr,.slice P3 n3 r3,.slice P4 n4 r4,.slice (some ⟨gl,0,none⟩) nl cl,.slice (some ⟨gk,0,none⟩) nk ck,.slice P8 n8 r8] #[.int .i64 0,.int .i64 x.tenant,.int .i64 y.dev,.int .i64 2,.int .i64 ((s:Int)*18+2+(p:Int)*2+(spanI sc).1),.int .i64 (spanI sc).2,.string ed,.bool false,.bool false,.int .i64 0] w) (fun w1 w2=>w1.heap[w.heap.size+1]?=some (.cells #[.slice (some ⟨gf,0,none⟩) nf cf,.slice (some ⟨gr,0,none⟩) nr cr,.slice P3 n3 r3,.slice P4 n4 r4,.slice (some ⟨gl,0,none⟩) nl cl,.slice (some ⟨gk,0,none⟩) nk ck,.slice P8 n8 r8] 30 (0,0))→w2.heap[w.heap.size+1]?=some (.cells #[.slice (some ⟨gf,0,none⟩) nf cf,.slice (some ⟨gr,0,none⟩) nr cr,.slice P3 n3 r3,.slice P4 n4 r4,.slice (some ⟨gl,0,none⟩) nl cl,.slice (some ⟨gk,0,none⟩) nk ck,.slice P8 n8 r8] 30 (0,0))) (GBb (.agg #[.slice (some ⟨gf,0,none⟩) nf cf,.slice (some ⟨gr,0,none⟩) nr cr,.slice P3 n3 r3,.slice P4 n4 r4,.slice (some ⟨gl,0,none⟩) nl cl,.slice (some ⟨gk,0,none⟩) nk ck,.slice P8 n8 r8]) (.agg #[.int .i64 0,.int .i64 x.tenant,.int .i64 y.dev,.int .i64 2,.int .i64 ((s:Int)*18+2+(p:Int)*2+(spanI sc).1),.int .i64 (spanI sc).2,.string ed,.bool false,.bool false,.int .i64 0]) (fun wx=>wx.heap[w.heap.size+1]?=some (.cells #[.slice (some ⟨gf,0,none⟩) nf cf,.slice (some ⟨gr,0,none⟩) nr cr,.slice P3 n3 r3,.slice P4 n4 r4,.slice (some ⟨gl,0,none⟩) nl cl,.slice (some ⟨gk,0,none⟩) nk ck,.slice P8 n8 r8] 30 (0,0)))) (by kernel_rfl) (by kernel_rfl) rfl ⟨KeepS.of_below (B_.drew),HW11.out.drew,HO11.out,HG11.out,⟨_,HR11.out,rfl⟩,⟨_,HQ11.out,rfl⟩,fun h=>by cases h⟩ ?_ ?_ ?_
      ·intro xa xb hr jj v hg
       match jj with
       | 0=>exact hg
       | 1=>exact hg
       | 2=>exact hr hg
       | 3=>trivial
       | 4=>exact hg
       | _+5=>trivial
      ·intro ii oo ho hd v xw hg
       match ii with
       | 0=>obtain rfl:=Option.some.inj ho;cases hd
       | 1=>obtain rfl:=Option.some.inj ho;cases hd
       | 2=>exact hg
       | 3=>trivial
       | 4=>obtain rfl:=Option.some.inj ho;cases hd
       | _+5=>trivial
      refine rP rfl rfl (fun xw hC hd K hK=>?_) (fun v0=>?_)
      ·obtain ⟨c1,c2,c3,c4,c5,c6,c7⟩:=hC;obtain ⟨x0,x1,x2,x3,x4,x5,x6⟩:=cs7 c3;go_simp;exact hK _ _ ⟨c1,c2,c3,c4,c5,c6,c7⟩ (fun h=>h) rfl
      simp only [ly];refine rP rfl rfl (fun xw hC hd K hK=>?_) (fun v1=>?_)
      ·obtain ⟨c1,c2,c3,c4,c5,c6,c7⟩:=hC;have q0:=cells_at c4 0;have q1:=cells_at c4 1;have q2:=cells_at c4 2;have q3:=cells_at c4 3;have q4:=cells_at c4 4;have q5:=cells_at c4 5;have q6:=cells_at c4 6;have q7:=cells_at c4 7;have q8:=cells_at c4 8;have q9:=cells_at c4 9;simp only [List.getElem?_toArray,List.getElem?_cons_zero,List.getElem?_cons_succ] at q0 q1 q2 q3 q4 q5 q6 q7 q8 q9;go_simp;exact hK _ _ ⟨c1,c2,c3,c4,c5,c6,c7⟩ (fun h=>h) rfl
      simp only [ly];refine rP rfl rfl (fun xw hC hd K hK=>?_) (fun v2=>?_)
      ·obtain rfl:v0=_:=hd 0 (by kernel_rfl);obtain ⟨c1,c2,c3,c4,⟨cs,c5,hsz⟩,⟨ct,c6,hst⟩,c7⟩:=hC;refine wp_store_row rfl 30 (.tmp 4) (.tmp 91) rfl rfl (w.heap.size+1) #[.slice (some ⟨gf,0,none⟩) nf cf,.slice (some ⟨gr,0,none⟩) nr cr,.slice P3 n3 r3,.slice P4 n4 r4,.slice (some ⟨gl,0,none⟩) nl cl,.slice (some ⟨gk,0,none⟩) nk ck,.slice P8 n8 r8] rfl rfl 30 cs c5 ck_size (by rw [hsz];rfl) (ck_one _ _ _ _ _ _ _ _ _ _ _ _ _ _ _ _ _ _ _ _ _) ?_;exact hK undef _ ⟨c1.trans (KeepS.of_setRow _ _ _ (fun hz=>(s1 _ (s3 _ (s5 _ hz).1).1).2.2 rfl)),bl_setRow c2 (by omega) _,(setRow_other _ _ _ _ (by omega)).trans c3,(setRow_other _ _ _ _ (by omega)).trans c4,⟨_,setRow_heap _ _ _ _ _ _ c5,rfl⟩,⟨ct,(setRow_other _ _ _ _ (by omega)).trans c6,hst⟩,fun h=>by cases h⟩ (fun _=>setRow_heap _ _ _ _ _ _ c5) (setRow_heap _ _ _ _ _ _ c5)
      simp only [ly];refine rS (fun xw hC hd K hK=>?_) (fun v3=>?_)
      ·obtain rfl:v1=_:=hd 1 (by kernel_rfl);obtain ⟨c1,c2,c3,c4,⟨cs,c5,hsz⟩,⟨ct,c6,hst⟩,c7⟩:=hC;refine wp_store_row rfl 97 (.tmp 5) (.tmp 92) rfl rfl (w.heap.size+1+1) #[.int .i64 0,.int .i64 x.tenant,.int .i64 y.dev,.int .i64 2,.int .i64 ((s:Int)*18+2+(p:Int)*2+(spanI sc).1),.int .i64 (spanI sc).2,.string ed,.bool false,.bool false,.int .i64 0] rfl rfl 97 ct c6 rq_size (by rw [hst];rfl) (rq_one _ _ _ _ _ _ _ _ _ _) ?_;exact hK undef _ ⟨c1.trans (KeepS.of_setRow _ _ _ (fun hz=>(s3 _ (s5 _ hz).1).2 rfl)),bl_setRow c2 (by omega) _,(setRow_other _ _ _ _ (by omega)).trans c3,(setRow_other _ _ _ _ (by omega)).trans c4,⟨cs,(setRow_other _ _ _ _ (by omega)).trans c5,hsz⟩,⟨_,setRow_heap _ _ _ _ _ _ c6,rfl⟩,fun _=>setRow_heap _ _ _ _ _ _ c6⟩ (fun h=>(setRow_other _ _ _ _ (by omega)).trans h) trivial
      simp only [ly];refine rA rfl (fun _ h=>h) (fun xw hd K hK=>?_) (fun v4=>?_)
      ·go_simp;exact hK _ rfl
      simp only [ly];refine relWalkA_nil ?_;intro wz hD hG;have hG2:=hG 2 (by decide);have hG4:=hG 4 (by decide);obtain rfl:v4=_:=hG4;clear hG;go_wp2;go_meet
      case rel=>exact ⟨rfl,hD.1,hD.2.1,hG2,hD.2.2.2.2.2.2 rfl⟩
     case rest=>
      obtain ⟨rfl,hkp,hW12,hR12,hQ12⟩:=hcut;go_wp2
      show bodyPost Tryz.prog Tryz.f48 _ _ _ _
      refine bodyPost_ret (bg_res rfl _ _ (w.heap.size+1) (w.heap.size+1+1) _ _ _ _ _ _ _ _ _ _ _ _ _ _ _ _ _ _ _ _ _ _ rfl rfl rfl hR12 hQ12) rfl ?_;exact ⟨_,_,_,_,_,_,_,_,_,_,.inr ⟨⟨x.file,x.page,cleanG x.pg sc,x.tenant,x.holds,x.reading,sc⟩,⟨HU.out.ok.page,HU.out.ok.tenant,cleanG_ok HU.out.ok.pg ⟨by omega,sc2⟩,HU.out.ok.holds,HU.out.ok.reading,⟨by show 0≤sc;omega,sc2⟩⟩,rfl,rfl,rfl,rfl⟩,rfl,(HK11.out.kept hkp).weak (fun z _ hz=>(s1 z (s3 z (s5 z hz).1).1).1),hW12⟩
 ·have d3:(x.writing != 0)=true:=bne_iff_ne.2 hw0;clear hw0
  go_wp2_with (first | (refine st_ck rfl (.tmp 4) (.tmp 28) rfl rfl (w.heap.size+1) rfl rfl HR2.out rfl ?_) | (refine wpList_store_rowTo rfl 97 (.tmp 5) (.tmp 29) rfl rfl (w.heap.size+1+1) #[.int .i64 0,.int .i64 0,.int .i64 0,.int .i64 0,.int .i64 0,.int .i64 0,.string ⟨#[]⟩,.bool false,.bool false,.int .i64 0] rfl rfl 97 _ ((setRow_other _ (w.heap.size+1) (w.heap.size+1+1) _ (by omega)).trans HQ2.out) rq_size rfl (rq_one _ _ _ _ _ _ _ _ _ _) ?_))
  show bodyPost Tryz.prog Tryz.f48 _ _ _ _
  refine bodyPost_ret (bg_res rfl _ _ (w.heap.size+1) (w.heap.size+1+1) _ _ _ _ _ _ _ _ _ _ _ _ _ _ _ _ _ _ _ _ _ _ rfl rfl rfl ((setRow_other _ (w.heap.size+1+1) (w.heap.size+1) _ (by omega)).trans (setRow_heap _ _ _ _ _ _ HR2.out)) (setRow_heap _ _ _ _ _ _ ((setRow_other _ (w.heap.size+1) (w.heap.size+1+1) _ (by omega)).trans HQ2.out))) rfl ?_;have hfin:=bl_setRow (bl_setRow HW2.out (by omega:w.heap.size≤w.heap.size+1) #[.slice (some ⟨bf,of,none⟩) C.files.length cf0,.slice (some ⟨bb,o,none⟩) C.frames.length cr0,.slice A3 m3 c3,.slice A4 m4 c4,.slice A5 m5 c5,.slice A6 m6 c6,.slice A7 m7 c7]) (by omega:w.heap.size≤w.heap.size+1+1) #[.int .i64 0,.int .i64 0,.int .i64 0,.int .i64 0,.int .i64 0,.int .i64 0,.string ⟨#[]⟩,.bool false,.bool false,.int .i64 0];exact ⟨C,_,_,_,_,_,_,_,_,_,.inl rfl,rfl,(H.out.step hfin).weak (fun z _ hz=>(s1 z hz).1),hfin⟩
end
end Go.Proofs.YthhekebemmckcaaGreatDoor
