/-
  Lemmas and contracts for the laws of synchronisations (layer 43), part 39; several texts joined by a program.
-/
import Derived.Test.YthhekebemmckcaaGreatDoorJ01
import Derived.Test.YthhekebemmckcaaGreatDoorJ38
namespace Go.Proofs.YthhekebemmckcaaGreatDoor
set_option linter.unusedVariables false
set_option linter.unusedSimpArgs false
set_option maxRecDepth 100000
set_option maxHeartbeats 16000000
open Go.RowKit
section
def RetNw (P:Ck→Prop) (S:Nat→Prop) (w:World) (en:Ending) (w':World):Prop:=∃C a b c d e f g,P C∧en = .returned (.tuple #[ckV a b c d e f g,.int .i64 0])∧CkAt w' S a b c d e f g C∧Below w.heap.size w w'
def SP.box (N:Nat) (o:Obj):SP:=⟨fun v w=>∃g,v = .pointer (some ⟨g,0,none⟩)∧N≤g∧w.heap[g]?=some o,fun v w w' hb ⟨g,h1,h2,h3⟩=>⟨g,h1,h2,bk_step h3 hb⟩⟩
def NwR (N n:Nat) (gs:List Gr) (v2 v5 v8:Value) (w:World):Prop:=LO GrR 57 w N (fun _=>False) v2 gs∧LO LrR 121 w N (fun _=>False) v5 (List.replicate n lrNo)∧LO IntR 3 w N (fun _=>False) v8 (List.replicate n 0)
def SP.nw (N n:Nat) (gs:List Gr) (vz:Value):SP:=⟨fun v w=>∃v2 v5 v8,v = .agg #[.slice none 0 0,.slice none 0 0,vz,v2,v5,v8,.slice none 0 0]∧NwR N n gs v2 v5 v8 w,fun v w w' hb ⟨v2,v5,v8,h1,h2,h3,h4⟩=>⟨v2,v5,v8,h1,h2.step hb,h3.step hb,h4.step hb⟩⟩
theorem mk_lru {w:World} {base g n:Nat} (h:w.ownsRow base 121 3 (.slice (some ⟨g,0,none⟩) n n) n (madeCells (Value.agg #[.slice none 0 0,.slice none 0 0,.slice none 0 0]).cells (n*3)).toList):LO LrR 121 w base (fun _=>False) (.slice (some ⟨g,0,none⟩) n n) (List.replicate n lrNo):=by
 refine ⟨List.replicate n [.slice none 0 0,.slice none 0 0,.slice none 0 0],?_,?_⟩
 ·rw [List.length_replicate];have:=made_same (.slice none 0 0) 3 n (by omega);rw [show (Value.agg #[.slice none 0 0,.slice none 0 0,.slice none 0 0]).cells=Array.replicate 3 (Value.slice none 0 0) from rfl,this] at h;exact h
 ·clear h
  induction n with
  | zero=>exact trivial
  | succ n ih=>exact ⟨⟨_,_,_,rfl,LA.nil _ _ _,LA.nil _ _ _,LA.nil _ _ _⟩,ih⟩
theorem mk_ints {w:World} {base g n:Nat} (h:w.ownsRow base 3 1 (.slice (some ⟨g,0,none⟩) n n) n (madeCells (Value.int .i64 0).cells (n*1)).toList):LO IntR 3 w base (fun _=>False) (.slice (some ⟨g,0,none⟩) n n) (List.replicate n 0):=by
 refine ⟨List.replicate n [.int .i64 0],?_,?_⟩
 ·rw [List.length_replicate];have:=made_same (.int .i64 0) 1 n (by omega);rw [show (Value.int .i64 0).cells=Array.replicate 1 (Value.int .i64 0) from rfl,this] at h;exact h
 ·clear h
  induction n with
  | zero=>exact trivial
  | succ n ih=>exact ⟨rfl,ih⟩
theorem LO.ne_box {α:Type} {k:Nat} {R:RR α k} {e t:TypeId} {w:World} {base Z:Nat} {S:Nat→Prop} {v:Value} {L:List α} {cs:Array Value} {fr:Nat × Nat} (h:LO R e w base S v L) (hb:w.heap[Z]?=some (.cells cs t fr)) (hne:e≠t):v.ownBlock≠some Z:=by
 obtain ⟨rows,⟨_,h2⟩,_⟩:=h
 rcases h2 with ⟨rfl,_⟩ | ⟨g,cap,cur,rfl,_,hg,_⟩
 ·simp [Value.ownBlock]
 ·intro e';simp only [Value.ownBlock,Option.some.injEq] at e';subst e';rw [hg] at hb;injection hb with hb
  injection hb with _ hb _
  exact hne hb
theorem LO.laV {α:Type} {k:Nat} {R:RR α k} {e:TypeId} {w:World} {base:Nat} {S S':Nat→Prop} {v:Value} {L:List α} (h:LO R e w base S v L) (hS:∀b,b<w.heap.size→S b→S' b) (hb:∀b,v.ownBlock=some b→S' b):LA R w S' v L:=by
 obtain ⟨rows,w1,w2⟩:=h;rw [←w2.len] at w1;exact ⟨rows,RW.of_own w1 w2.shp hb,w2.imp fun a r h=>R.wk _ _ _ _ _ (fun b hb h=>hS b hb h.1) h⟩
def NB (Z:Nat) (vf vr vz vg vl vc:Value) (wx:World):Prop:=wx.heap[Z]?=some (.cells #[vf,vr,vz,vg,vl,vc,.slice none 0 0] 30 (0,0))
structure NS (w:World) (S:Nat→Prop) (B Z:Nat) (zs:List Zn) (gs:List Gr) (n:Nat) (vz vg vl vc:Value) (vf vr:Value) (fs:List Fl) (nr:Nat) (wx:World):Prop where
 res:wx.heap[w.heap.size]?=some (oCZ)
 f:LO FlR 78 wx B (fun _=>False) vf fs
 r:LO FrR 55 wx B (fun _=>False) vr (List.replicate nr frNo)
 fr:∀b,vf.ownBlock=some b→vr.ownBlock≠some b
 z:LA ZnR wx (fun z=>S z∧z<B∧z≠w.heap.size∧z≠Z) vz zs
 g:LA GrR wx (fun z=>S z∧z<B∧z≠w.heap.size∧z≠Z) vg gs
 l:LA LrR wx (fun z=>S z∧z<B∧z≠w.heap.size∧z≠Z) vl (List.replicate n lrNo)
 c:LA IntR wx (fun z=>S z∧z<B∧z≠w.heap.size∧z≠Z) vc (List.replicate n 0)
 bl:Below w.heap.size w wx
 bb:w.heap.size<B∧Z<B∧B≤wx.heap.size
 zw:w.heap.size<Z
theorem nw_start {w V x:World} {S:Nat→Prop} {Z n:Nat} {zs:List Zn} {gs:List Gr} {vz vg vl vc:Value} (hS:∀z,w.heap.size≤z→S z) (hR:V.heap[w.heap.size]?=some (oCZ)) (hW:Below w.heap.size w V) (hz:LA ZnR V (fun z=>S z∧z≠w.heap.size) vz zs) (hC:Below V.heap.size V x) (hZ1:V.heap.size≤Z) (hZ:x.heap[Z]?=some (oCZ))
  (hg:LO GrR 57 x V.heap.size (fun _=>False) vg gs) (hl:LO LrR 121 x V.heap.size (fun _=>False) vl (List.replicate n lrNo)) (hc:LO IntR 3 x V.heap.size (fun _=>False) vc (List.replicate n 0)) :
  NS w S x.heap.size Z zs gs n vz vg vl vc (.slice none 0 0) (.slice none 0 0) [] 0 (x.setRow Z #[.slice none 0 0,.slice none 0 0,vz,vg,vl,vc,.slice none 0 0])∧NB Z (.slice none 0 0) (.slice none 0 0) vz vg vl vc (x.setRow Z #[.slice none 0 0,.slice none 0 0,vz,vg,vl,vc,.slice none 0 0]):=by
 have hwV:w.heap.size<V.heap.size:=bk_lt hR;have hZx:=bk_lt hZ;have hWx:Below w.heap.size w x:=bl_step hW hC;have up:∀{α:Type} {k:Nat} {R:RR α k} {e:TypeId} {v:Value} {L:List α},e≠30→LO R e x V.heap.size (fun _=>False) v L→LA R (x.setRow Z #[.slice none 0 0,.slice none 0 0,vz,vg,vl,vc,.slice none 0 0]) (fun z=>S z∧z<x.heap.size∧z≠w.heap.size∧z≠Z) v L:=fun {α k R e v L} he h=>by
  have hne:=h.ne_box hZ he;exact LA.kept (h.laV (fun _ _ h=>h.elim) (fun b hb=>⟨hS b (by have:=(h.own hb).1;omega),(h.own hb).2,by have:=(h.own hb).1;omega,fun e=>hne (by rw [hb,e])⟩)) (KeepS.of_setRow x Z _ (fun h=>h.2.2.2 rfl))
 refine ⟨⟨?_,LO.nil _ _ _ _ _,LO.nil _ _ _ _ _,fun b hb=>(by cases hb),?_,up (by decide) hg,up (by decide) hl,up (by decide) hc,bl_setRow hWx (by omega) _,⟨by omega,hZx,by simp [World.setRow]⟩,by omega⟩,setRow_heap _ _ _ _ _ _ hZ⟩
 ·exact (setRow_other _ _ _ _ (by omega)).trans (bk_step hR hC)
 ·exact LA.kept ((hz.weak (S':=fun z=>S z∧z<x.heap.size∧z≠w.heap.size∧z≠Z) (fun z hzl h=>⟨h.1,by have:=hC.size;omega,h.2,by omega⟩)).step hC) (KeepS.of_setRow x Z _ (fun h=>h.2.2.2 rfl))
section
variable {w wx wy:World} {S:Nat→Prop} {B Z n:Nat} {zs:List Zn} {gs:List Gr} {vz vg vl vc vf vr:Value} {fs:List Fl} {nr:Nat}
theorem NS.step (h:NS w S B Z zs gs n vz vg vl vc vf vr fs nr wx) (hb:Below wx.heap.size wx wy):NS w S B Z zs gs n vz vg vl vc vf vr fs nr wy:=
 ⟨bk_step h.res hb,h.f.step hb,h.r.step hb,h.fr,h.z.step hb,h.g.step hb,h.l.step hb,h.c.step hb,bl_step h.bl hb,⟨h.bb.1,h.bb.2.1,Nat.le_trans h.bb.2.2 hb.size⟩,h.zw⟩
theorem NS.other (h:NS w S B Z zs gs n vz vg vl vc vf vr fs nr wx) {r:Option Nat} (hg:wx.grownBy wy r) (hr:∀b,r=some b→B≤b∨b=Z) {vf' vr':Value} {fs':List Fl} {nr':Nat} (hf:LO FlR 78 wy B (fun _=>False) vf' fs') (hr':LO FrR 55 wy B (fun _=>False) vr' (List.replicate nr' frNo)) (hfr:∀b,vf'.ownBlock=some b→vr'.ownBlock≠some b):NS w S B Z zs gs n vz vg vl vc vf' vr' fs' nr' wy:=by
 obtain ⟨b1,b2,b3⟩:=h.bb;have hzw:=h.zw;have hk:KeepS (fun z=>S z∧z<B∧z≠w.heap.size∧z≠Z) wx wy:=⟨hg.size,fun z hz hl=>hg.block z hl fun e=>by
  rcases hr z e.symm with h | h
  ·have:=hz.2.1;omega
  ·exact hz.2.2.2 h⟩
 refine ⟨(hg.block _ (bk_lt h.res) fun e=>?_).trans h.res,hf,hr',hfr,h.z.kept hk,h.g.kept hk,h.l.kept hk,h.c.kept hk,h.bl.grown hg h.bl.size (fun b hb=>?_),⟨b1,b2,Nat.le_trans b3 hg.size⟩,hzw⟩
 ·rcases hr _ e.symm with h | h <;> omega
 ·rcases hr b hb with h | h <;> omega
theorem NB.other (h:NB Z vf vr vz vg vl vc wx) {r:Option Nat} (hg:wx.grownBy wy r) (hr:r≠some Z):NB Z vf vr vz vg vl vc wy:=
 (hg.block _ (bk_lt h) (fun e=>hr e.symm)).trans h
theorem NS.push {vr':Value} (h:NS w S B Z zs gs n vz vg vl vc vf vr fs nr wx) (hB:NB Z vf vr vz vg vl vc wx) (hg:wx.grownBy wy vr.ownBlock) (hown:LO FrR 55 wy B (fun _=>False) vr' (List.replicate nr frNo ++ [frNo])) (hat:∀b,vr'.ownBlock=some b→vr.ownBlock=some b∨b=wx.heap.size) :
  NS w S B Z zs gs n vz vg vl vc vf vr' fs (nr+1) wy∧NB Z vf vr vz vg vl vc wy:=by
 have hb:=h.bb;refine ⟨h.other hg (fun b hb=> .inl (h.r.own hb).1) (h.f.kept hg ?_) (by rw [List.replicate_succ'];exact hown) (fun b hb e=>?_),hB.other hg (fun e=>by have:=(h.r.own e).1;omega)⟩
 ·cases hv:vr.ownBlock with
  | none=>exact .inl rfl
  | some b=>exact .inr ⟨b,rfl,fun h=>h,fun e=>h.fr b e hv⟩
 ·rcases hat b e with e | e
  ·exact h.fr b hb e
  ·have:=(h.f.own hb).2;omega
theorem NS.set1 {vr':Value} (h:NS w S B Z zs gs n vz vg vl vc vf vr' fs nr wx) (hB:NB Z vf vr vz vg vl vc wx):NS w S B Z zs gs n vz vg vl vc vf vr' fs nr (wx.setCell ⟨Z,1,none⟩ vr')∧NB Z vf vr' vz vg vl vc (wx.setCell ⟨Z,1,none⟩ vr'):=by
 have hb:=h.bb;have hg:=grownBy_setCell wx ⟨Z,1,none⟩ vr';exact ⟨h.other hg (fun b hb=> .inr (by injection hb with hb;exact hb.symm)) (h.f.kept hg (.inr ⟨Z,rfl,fun h=>h,fun e=>by have:=(h.f.own e).1;omega⟩)) (h.r.kept hg (.inr ⟨Z,rfl,fun h=>h,fun e=>by have:=(h.r.own e).1;omega⟩)) h.fr,set_same hB vr'⟩
theorem NS.cache (h:NS w S B Z zs gs n vz vg vl vc vf vr fs nr wx) (hS:∀z,w.heap.size≤z→S z):CkAt wx (fun z=>S z∧z≠w.heap.size) vf vr vz vg vl vc (.slice none 0 0) ⟨fs,List.replicate nr frNo,zs,gs,List.replicate n lrNo,List.replicate n 0,[]⟩:=by
 have hb:=h.bb;have up:∀z,z<wx.heap.size→(S z∧z<B∧z≠w.heap.size∧z≠Z)→S z∧z≠w.heap.size:=fun z _ h=>⟨h.1,h.2.2.1⟩;exact ⟨h.f.laV (fun _ _ h=>h.elim) (fun b hb'=>⟨hS b (by have:=(h.f.own hb').1;omega),by have:=(h.f.own hb').1;omega⟩),h.r.laV (fun _ _ h=>h.elim) (fun b hb'=>⟨hS b (by have:=(h.r.own hb').1;omega),by have:=(h.r.own hb').1;omega⟩),h.z.weak up,h.g.weak up,h.l.weak up,h.c.weak up,LA.nil _ _ _⟩
end
theorem cnew_w (Ls:List Pl) (sz:List Int) (gs:List Gr) (v1 v2 v3:Value) (S:Nat→Prop) (w:World) (h1:LA PlR w S v1 Ls) (hP:PlsOk Ls) (h2:LA IntR w S v2 sz) (hz:SzOk sz) (h3:LA GrR w S v3 gs) (hG:GrsOk gs) (h0:∀g ∈ gs,g.charge=0) (hS:∀z,w.heap.size≤z→S z) :
  Calls Tryz.prog 24 #[v1,v2,v3] w (RetNw (fun C=>C=newC Ls sz gs) S w):=by
 have hpl:=fun w' (hb:Below w.heap.size w w')=>places_w Ls v1 S w' (h1.step hb) hP;have hgc:=fun w' (hb:Below w.heap.size w w')=>grsCheck_w gs v3 S w' (h3.step hb) hG;have hzn:=fun w' (hb:Below w.heap.size w w') (hlt:w.heap.size<w'.heap.size)=>znew_w sz v2 (fun z=>S z∧z≠w.heap.size) w' ((h2.weak (fun z hz h=>⟨h,by omega⟩)).step hb) hz (fun z (hz':w'.heap.size≤z)=>⟨hS z (by omega),by omega⟩);obtain ⟨A1,c1,rfl,q1,q2⟩:=h1.form;obtain ⟨A3,c3,rfl,q3,q4⟩:=h3.form;have H1:=H_ h1;have H3:=H_ h3;have H0:=H_ h0;have hl8:=hP.few;have hgl:gs.length≤4:=hG.few;clear h1 h2 h3 h0;have HR:=H_ (heap_alloc_at w (oCZ));have HW:=H_ (bl_alloc (Below.refl w.heap.size w) (oCZ));go_enter Tryz.func24,Tryz.ntmps24
 go_upto_region 1 with fail
 generalize w.alloc (oCZ)=W1 at HR HW
 go_upto_region 3 with (first
  | (go_at_call 41;go_loud (refine CM (hpl _ HW.out) ?_);rintro e w1 ⟨rfl,hb1⟩;have HR1:=bkh HR hb1;have HW1:=blh HW hb1;clear hb1)
  | (go_at_call 42;go_loud (refine CM (hgc _ HW1.out) ?_);rintro e w2 ⟨rfl,hb2⟩;have HR2:=bkh HR1 hb2;have HW2:=blh HW1 hb2;clear hb2))
 clear HR HW HR1 HW1 hpl hgc;go_wp2
 go_loopw [8] (fun i wx=>∃k:Nat,i = .int .i64 k∧k≤gs.length∧Below w.heap.size w wx∧wx.heap[w.heap.size]?=some (oCZ)) (fun i _=>gs.length - (intOf i).toNat)
 case atStart=>exact ⟨0,rfl,by omega,HW2.out,HR2.out⟩
 case round=>
  clear HR2 HW2;obtain ⟨k,rfl,hk,hb,hr⟩:=hrel;have HB:=H_ hb;have HR:=H_ hr;clear hb hr
  by_cases hlt:k<gs.length
  ·obtain ⟨g,hg⟩:∃g,gs[k]?=some g:=⟨_,List.getElem?_eq_getElem hlt⟩;obtain ⟨b,o,rfl,hbl,y0,y1,y2⟩:=GrA.cells (H3.out.step HB.out) hg;have hch:=H0.out g (List.mem_of_getElem? hg);rw [hch] at y2;have k1:(k:Int)<(gs.length:Int):=by omega
   clear hg hch y0 y1;go_wp2;go_roundw
   case rel=>exact ⟨k+1,by go_num,by omega,HB.out,HR.out⟩
   case measure=>simp [intOf];omega
  ·obtain rfl:k=gs.length:=by omega
   go_upto_region 11 with (first
    | (go_at_call 43;go_loud (refine CM (hzn _ HB.out (bk_lt HR.out)) ?_);rintro e w3 ⟨vz,rfl,hvz,hb3⟩;have HR3:=bkh HR hb3;have HW3:=blh HB hb3;have HZ3:=H_ hvz;clear hb3 hvz))
   clear HB HR hzn;obtain ⟨lri,hli,hl0,hl1,hl2⟩:=info_parts lr_info;obtain ⟨ini,hii,hi0,hi1,hi2⟩:=info_parts int_info;obtain ⟨Az,mz,cz,rfl⟩:=HZ3.out.cap
   go_cut [11] (fun s11 wx=>∃(B Z:Nat) (vg vl vc:Value),s11 = .pointer (some ⟨Z,0,none⟩)∧NS w S B Z (newZs 1 sz) gs gs.length (.slice Az mz cz) vg vl vc (.slice none 0 0) (.slice none 0 0) [] 0 wx∧NB Z (.slice none 0 0) (.slice none 0 0) (.slice Az mz cz) vg vl vc wx)
   case first=>
    obtain ⟨V,hV⟩:∃V,V=w3:=⟨_,rfl⟩;subst hV;refine wp_region_sp 11 84 [SP.eq (.slice Az mz cz),SP.eq (.slice A3 gs.length c3),SP.lo GrR 57 V.heap.size (fun _=>False) gs,SP.eq (.slice A3 gs.length c3),SP.eq (.int .i64 (gs.length:Int)),SP.lo LrR 121 V.heap.size (fun _=>False) (List.replicate gs.length lrNo),SP.eq (.slice A3 gs.length c3),SP.eq (.int .i64 (gs.length:Int)),SP.lo IntR 3 V.heap.size (fun _=>False) (List.replicate gs.length 0),SP.nw V.heap.size gs.length gs (.slice Az mz cz),SP.box V.heap.size (oCZ)] (by kernel_rfl) (by kernel_rfl) rfl ?_;simp only [List.take_succ_cons,List.take_zero,List.drop_succ_cons,List.drop_zero];refine rC (fun x hC hd K hK=>?_) (fun v0=>?_)
    ·go_simp;exact hK _ _ hC B_ rfl
    simp only [ly];refine rC (fun x hC hd K hK=>?_) (fun v1=>?_)
    ·go_simp;exact hK _ _ hC B_ rfl
    simp only [ly];refine rC (fun x hC hd K hK=>?_) (fun v2=>?_)
    ·obtain rfl:v1=_:=hd 1 (by kernel_rfl);have hC':Below V.heap.size V x:=hC;refine wp_of_list (ops:=#[]) rfl (wpList_copy GrR gr_el rfl _ _ rfl rfl _ S gs rfl ((H3.out.step HW3.out).step hC') (by omega) fun v' w' hown hg=>?_);have hb:=(Below.refl x.heap.size x).grown hg (Nat.le_refl _) (fun b hb=>by cases hb);exact hK _ _ (bl_step hC' hb) hb ⟨(hown.weak (fun _ _ h=>h)).base_le hC'.size,by have:=hb.size;have:=hC'.size;omega⟩
    simp only [ly];refine rC (fun x hC hd K hK=>?_) (fun v3=>?_)
    ·go_simp;exact hK _ _ hC B_ rfl
    simp only [ly];refine rC (fun x hC hd K hK=>?_) (fun v4=>?_)
    ·obtain rfl:v3=_:=hd 3 (by kernel_rfl);go_simp;exact hK _ _ hC B_ rfl
    simp only [ly];refine rC (fun x hC hd K hK=>?_) (fun v5=>?_)
    ·obtain rfl:v4=_:=hd 4 (by kernel_rfl);have hC':Below V.heap.size V x:=hC;refine wp_of_list (ops:=#[]) rfl (wpList_make_full x rfl (.tmp 49) (.tmp 49) 27 rfl x.heap.size 121 lri (Value.agg #[.slice none 0 0,.slice none 0 0,.slice none 0 0]) 3 Tryz.underlying27 hli hl0 hl1 .i64 .i64 gs.length gs.length gs.length rfl rfl rfl rfl (by rw [hl2];omega) (by unfold maxLen;omega) (Nat.le_refl _) fun w' hown hg=>?_);have hb:=(Below.refl x.heap.size x).grown hg (Nat.le_refl _) (fun b hb=>by cases hb);exact hK _ _ (bl_step hC' hb) hb ⟨(mk_lru hown).base_le hC'.size,by have:=hb.size;have:=hC'.size;omega⟩
    simp only [ly];refine rC (fun x hC hd K hK=>?_) (fun v6=>?_)
    ·go_simp;exact hK _ _ hC B_ rfl
    simp only [ly];refine rC (fun x hC hd K hK=>?_) (fun v7=>?_)
    ·obtain rfl:v6=_:=hd 6 (by kernel_rfl);go_simp;exact hK _ _ hC B_ rfl
    simp only [ly];refine rC (fun x hC hd K hK=>?_) (fun v8=>?_)
    ·obtain rfl:v7=_:=hd 7 (by kernel_rfl);have hC':Below V.heap.size V x:=hC;refine wp_of_list (ops:=#[]) rfl (wpList_make_full x rfl (.tmp 52) (.tmp 52) 22 rfl x.heap.size 3 ini (Value.int .i64 0) 1 Tryz.underlying22 hii hi0 hi1 .i64 .i64 gs.length gs.length gs.length rfl rfl rfl rfl (by rw [hi2];omega) (by unfold maxLen;omega) (Nat.le_refl _) fun w' hown hg=>?_);have hb:=(Below.refl x.heap.size x).grown hg (Nat.le_refl _) (fun b hb=>by cases hb);exact hK _ _ (bl_step hC' hb) hb ⟨(mk_ints hown).base_le hC'.size,by have:=hb.size;have:=hC'.size;omega⟩
    simp only [ly];refine rC (fun x hC hd K hK=>?_) (fun v9=>?_)
    ·obtain rfl:v0=_:=hd 0 (by kernel_rfl);obtain ⟨g2,_⟩:=hd 2 (by kernel_rfl);obtain ⟨g5,_⟩:=hd 5 (by kernel_rfl);obtain ⟨g8,_⟩:=hd 8 (by kernel_rfl);obtain ⟨B2,n2,k2,e2⟩:=g2.cap;obtain ⟨B5,n5,k5,e5⟩:=g5.cap;obtain ⟨B8,n8,k8,e8⟩:=g8.cap;subst e2 e5 e8;go_simp;exact hK _ _ hC B_ ⟨_,_,_,rfl,g2,g5,g8⟩
    simp only [ly];refine rC (fun x hC hd K hK=>?_) (fun v10=>?_)
    ·have hC':Below V.heap.size V x:=hC;go_simp;exact hK _ _ (bl_alloc hC' _) (bl_alloc B_ _) ⟨_,rfl,hC'.size,heap_alloc_new _ _⟩
    simp only [ly];refine relWalk_nil ?_;intro x hC hG;obtain ⟨w2',w5',w8',e9,g2,g5,g8⟩:=hG 9 (by omega);obtain rfl:v9=_:=e9;obtain ⟨Z,e10,hZ1,hZ⟩:=hG 10 (by omega);obtain rfl:v10=_:=e10;have hC':Below V.heap.size V x:=hC;have HC:=H_ hC';have HZ:=H_ hZ;have HG2:=H_ g2;have HG5:=H_ g5;have HG8:=H_ g8;obtain ⟨B2,n2,k2,e2⟩:=g2.cap;obtain ⟨B5,n5,k5,e5⟩:=g5.cap;obtain ⟨B8,n8,k8,e8⟩:=g8.cap;subst e2 e5 e8;clear hG hC hC' hZ g2 g5 g8
    go_wp2_with (refine st_ck rfl (.tmp 11) (.tmp 54) rfl rfl Z rfl rfl HZ.out rfl ?_)
    go_meet
    case rel=>exact ⟨x.heap.size,Z,_,_,_,rfl,nw_start hS HR3.out HW3.out HZ3.out HC.out hZ1 HZ.out HG2.out HG5.out HG8.out⟩
   case rest=>
    clear HR3 HW3 HZ3;obtain ⟨B,Z,vg,vl,vc,rfl,hN,hB⟩:=hcut;have HN:=H_ hN;have HB:=H_ hB;clear hN hB
    go_upto_region 12 with fail
    go_wp2
    go_loopw [12] (fun s12 wx=>∃(k:Nat) (vf:Value),s12 = .int .i64 k∧k≤Ls.length∧NS w S B Z (newZs 1 sz) gs gs.length (.slice Az mz cz) vg vl vc vf (.slice none 0 0) ((Ls.take k).map newFl) 0 wx∧NB Z vf (.slice none 0 0) (.slice Az mz cz) vg vl vc wx) (fun s12 _=>Ls.length - (intOf s12).toNat)
    case atStart=>exact ⟨0,_,rfl,by omega,HN.out,HB.out⟩
    case round=>
     clear HN HB;obtain ⟨k,vf,rfl,hk,hN,hB⟩:=hrel;obtain ⟨F1,f2,f3,rfl⟩:=hN.f.cap;have HN:=H_ hN;have HB:=H_ hB;clear hN hB
     by_cases hlt:k<Ls.length
     ·obtain ⟨p,hp⟩:∃p,Ls[k]?=some p:=⟨_,List.getElem?_eq_getElem hlt⟩;obtain ⟨b,o,rfl,hbw,p0,p1⟩:=PlA.cells H1.out hp;have HPX:=H_ hp;have k1:(k:Int)<(Ls.length:Int):=by omega
      clear hp
      go_upto_region 15 with fail
      refine wp_region_ph 84 8 10 (fun i=>decide (i≤7)) (fun x=>NS w S B Z (newZs 1 sz) gs gs.length (.slice Az mz cz) vg vl vc (.slice F1 f2 f3) (.slice none 0 0) ((Ls.take k).map newFl) 0 x∧NB Z (.slice F1 f2 f3) (.slice none 0 0) (.slice Az mz cz) vg vl vc x) (fun v x=>NS w S B Z (newZs 1 sz) gs gs.length (.slice Az mz cz) vg vl vc v (.slice none 0 0) ((Ls.take (k+1)).map newFl) 0 x∧NB Z (.slice F1 f2 f3) (.slice none 0 0) (.slice Az mz cz) vg vl vc x) (fun v x=>NS w S B Z (newZs 1 sz) gs gs.length (.slice Az mz cz) vg vl vc v (.slice none 0 0) ((Ls.take (k+1)).map newFl) 0 x∧NB Z v (.slice none 0 0) (.slice Az mz cz) vg vl vc x)
       [PF.eq (.pointer (some ⟨Z,0,none⟩)),PF.eq (.slice F1 f2 f3),PF.eq (.slice (some ⟨b,o,none⟩) Ls.length c1),PF.eq (.int .i64 (k:Int)),PF.eq (.pointer (some ⟨b,o+k*2,none⟩)),PF.eq (.agg #[.int .i64 p.dev,.int .i64 p.slot]),PF.eq (.agg #[.int .i64 p.dev,.int .i64 p.slot,.int .i64 0,.slice none 0 0,.int .i64 0,.int .i64 0,.int .i64 0,.int .i64 0,.int .i64 0,.int .i64 0,.int .i64 0,.int .i64 0,.int .i64 0,.int .i64 0,.int .i64 0]),PF.p0 (SP.blk 1 #[.int .i64 p.dev,.int .i64 p.slot,.int .i64 0,.slice none 0 0,.int .i64 0,.int .i64 0,.int .i64 0,.int .i64 0,.int .i64 0,.int .i64 0,.int .i64 0,.int .i64 0,.int .i64 0,.int .i64 0,.int .i64 0] 78),PF.res,PF.eq (.pointer (some ⟨Z,0,none⟩)),PF.any] (by kernel_rfl) (by kernel_rfl) rfl ⟨HN.out.step (B_.drew),HB.out.other (grownBy_drewN _ 1 none) (by simp)⟩ (by kernel_rfl) (fun _ _=>trivial) ?_
      refine rE (fun g d xw hn hp hC hd K hK=>?_) (fun v0=>?_)
      ·skip
       go_simp;exact hK g _ xw (hC.pure 0 rfl rfl) (fun _ _ h=>h) rfl
      simp only [ly];refine rE (fun g d xw hn hp hC hd K hK=>?_) (fun v1=>?_)
      ·obtain rfl:v0=_:=hd 0 (by kernel_rfl);have hbx:=(hC.c0 (hC.n0 (nds hp rfl))).2;unfold NB at hbx;have x0:=cs1 hbx;clear hbx;go_simp;exact hK g _ xw (hC.pure 1 rfl rfl) (fun _ _ h=>h) rfl
      simp only [ly];refine rE (fun g d xw hn hp hC hd K hK=>?_) (fun v2=>?_)
      ·skip
       go_simp;exact hK g _ xw (hC.pure 2 rfl rfl) (fun _ _ h=>h) rfl
      simp only [ly];refine rE (fun g d xw hn hp hC hd K hK=>?_) (fun v3=>?_)
      ·skip
       go_simp;exact hK g _ xw (hC.pure 3 rfl rfl) (fun _ _ h=>h) rfl
      simp only [ly];refine rE (fun g d xw hn hp hC hd K hK=>?_) (fun v4=>?_)
      ·obtain rfl:v2=_:=hd 2 (by kernel_rfl);obtain rfl:v3=_:=hd 3 (by kernel_rfl);go_simp;exact hK g _ xw (hC.pure 4 rfl rfl) (fun _ _ h=>h) rfl
      simp only [ly];refine rE (fun g d xw hn hp hC hd K hK=>?_) (fun v5=>?_)
      ·obtain rfl:v4=_:=hd 4 (by kernel_rfl);have hbl:=(hC.c0 (hC.n0 (nds hp rfl))).1.bl;have l0:=(cell_kept (hbl.block _ hbw)).trans p0;have l1:=(cell_kept (hbl.block _ hbw)).trans p1;clear hbl;go_simp;exact hK g _ xw (hC.pure 5 rfl rfl) (fun _ _ h=>h) rfl
      simp only [ly];refine rE (fun g d xw hn hp hC hd K hK=>?_) (fun v6=>?_)
      ·obtain rfl:v5=_:=hd 5 (by kernel_rfl);go_simp;exact hK g _ xw (hC.pure 6 rfl rfl) (fun _ _ h=>h) rfl
      simp only [ly];refine rE (fun g d xw hn hp hC hd K hK=>?_) (fun v7=>?_)
      ·obtain rfl:v6=_:=hd 6 (by kernel_rfl);obtain rfl:g=none:=hC.n0 (nds hp rfl);obtain ⟨hN,hB⟩:=hC.c0 rfl;go_simp;exact hK none _ _ (hC.step 7 rfl rfl ⟨hN.step (bl_alloc B_ _),hB.other (World.grownBy_alloc _ _ none) (by simp)⟩) (fun j u h=>GF.keep (.inl ⟨rfl,rfl,bl_alloc B_ _⟩) j u h) (fun _=>⟨_,rfl,heap_alloc_new _ _⟩)
      simp only [ly];refine rE (fun g d xw hn hp hC hd K hK=>?_) (fun v8=>?_)
      ·obtain rfl:g=none:=hC.n0 hn;obtain ⟨hN,hB⟩:=hC.c0 rfl;obtain rfl:v1=_:=hd 1 (by kernel_rfl);obtain ⟨gb,e7,hblk⟩:=hd 7 (by kernel_rfl) rfl;obtain rfl:v7=_:=e7;refine wp_of_list (ops:=#[]) rfl (wpList_push FlR fl_el rfl (.tmp 62) (.tmp 68) rfl (.slice F1 f2 f3) B (fun _=>False) ((Ls.take k).map newFl) rfl hN.f hN.bb.2.2 (by simp;omega) gb _ rfl _ hblk (newFl p) (newFl_row _ _ _) (fun v' w' hown hg hat=>?_));refine hK (some (v',false)) v' w' (hC.app rfl ⟨?_,hB.other hg (fun e=>by have:=(hN.f.own e).1;have:=hN.bb;omega)⟩) (fun j u h=>GF.keep (.inr ⟨by simp,fun v p e=>by cases e⟩) j u h) ⟨false,rfl⟩;refine hN.other hg (fun b hb=> .inl (hN.f.own hb).1) ?_ (LO.nil _ _ _ _ _) (fun b _ e=>by cases e);rw [take_snoc HPX.out,List.map_append];exact hown
      simp only [ly];refine rE (fun g d xw hn hp hC hd K hK=>?_) (fun v9=>?_)
      ·skip
       go_simp;exact hK g _ xw (hC.pure 9 rfl rfl) (fun _ _ h=>h) rfl
      simp only [ly];refine rE (fun g d xw hn hp hC hd K hK=>?_) (fun v10=>?_)
      ·obtain ⟨pp,eg⟩:=hd 8 (by kernel_rfl);obtain rfl:v9=_:=hd 9 (by kernel_rfl);subst eg;have e2:pp=false:=by
        cases pp with
        | false=>rfl
        | true=>exact absurd rfl (hC.n1 hn v8)
       subst e2;obtain ⟨hN,hB⟩:=hC.c1 v8 rfl;obtain ⟨G1,g2',g3',rfl⟩:=hN.f.cap;have hbx:=hB;unfold NB at hbx;have x0:=cells_at hbx 0;have fz:=free_at hbx 0;simp only [List.getElem?_toArray,List.getElem?_cons_zero,List.getElem?_cons_succ] at x0;go_simp;exact hK (some (.slice G1 g2' g3',true)) undef _ (hC.sto rfl ⟨hN.other (grownBy_setCell xw ⟨Z,0,none⟩ (.slice G1 g2' g3')) (fun b hb=> .inr (by injection hb with hb;exact hb.symm)) (hN.f.kept (grownBy_setCell xw ⟨Z,0,none⟩ (.slice G1 g2' g3')) (.inr ⟨Z,rfl,fun h=>h,fun e=>by have:=(hN.f.own e).1;have:=hN.bb;omega⟩)) (LO.nil _ _ _ _ _) (fun b _ e=>by cases e),set_same hbx _⟩) (fun j u h=>GF.keep (.inr ⟨by simp,fun v p e=>⟨true,by cases e;rfl⟩⟩) j u h) trivial
      simp only [ly];refine relWalkE_nil ?_;intro g d wz hdone hC hG;obtain ⟨v,rfl⟩:=hC.fin (hdone 10 (by simp));obtain ⟨hN,hB⟩:=hC.c2 v rfl;clear hG hdone;go_wp2;go_roundw
      case rel=>exact ⟨k+1,v,by go_num,by omega,hN,hB⟩
      case measure=>simp [intOf];omega
     ·obtain rfl:k=Ls.length:=by omega
      rw [List.take_length] at HN;obtain ⟨nn,hnn⟩:∃nn,nn=freeZ (newZs 1 sz):=⟨_,rfl⟩;have hn64:nn≤64:=by have:=freeZ_new sz 1 hz.each;have:=hz.all;omega
      have HFZ:=H_ (show ∀w' vr q,NS w S B Z (newZs 1 sz) gs gs.length (.slice Az mz cz) vg vl vc (.slice F1 f2 f3) vr (Ls.map newFl) q w'→Calls Tryz.prog 44 #[.slice Az mz cz] w' (RetI nn w') from fun w' vr q h=>by rw [hnn];exact zfree_w _ _ _ w' h.z hz.zones);have HNN:=H_ hnn;clear hnn;go_wp2
      go_loopw [13] (fun s13 wx=>∃(q:Nat) (vr:Value),s13 = .int .i64 q∧q≤nn∧NS w S B Z (newZs 1 sz) gs gs.length (.slice Az mz cz) vg vl vc (.slice F1 f2 f3) vr (Ls.map newFl) q wx∧NB Z (.slice F1 f2 f3) vr (.slice Az mz cz) vg vl vc wx) (fun s13 _=>nn - (intOf s13).toNat)
      case atStart=>exact ⟨0,_,rfl,by omega,HN.out,HB.out⟩
      case round=>
       clear HN HB;obtain ⟨q,vr,rfl,hq,hN,hB⟩:=hrel;obtain ⟨G1,g2,g3,rfl⟩:=hN.r.cap;have hfz:=HFZ.out _ _ _ hN;have HN:=H_ hN;have HB:=H_ hB;clear hN
       by_cases hlq:q<nn
       ·have q1':(q:Int)<(nn:Int):=by omega
        unfold NB at hB;clear hB
        go_wp2_with (first
         | (go_at_call 44;go_loud (refine CM hfz ?_);rintro e w5 ⟨rfl,hb5⟩;have HN5:=H_ (HN.out.step hb5);have HB5:=H_ (HB.out.other (gb_of_below hb5 none) (by simp));have hB5:=HB5.out;unfold NB at hB5;have x1:=cells_at hB5 1;simp only [List.getElem?_toArray,List.getElem?_cons_zero,List.getElem?_cons_succ] at x1;clear hb5 hB5)
         | (at_builtin;go_loud (refine wpList_push FrR fr_el rfl (.tmp 78) (.tmp 80) rfl (.slice G1 g2 g3) B (fun _=>False) (List.replicate q frNo) rfl (HN5.out.r.alloc _) (by have:=HN5.out.bb;simp;omega) (by simp;omega) _ #[.int .i64 (-1),.int .i64 0,.string ⟨#[]⟩,.int .i64 0,.int .i64 0,.int .i64 0,.int .i64 0,.int .i64 0,.int .i64 0] rfl _ (heap_at_new _ _ _ rfl) frNo rfl ?_);intro v4 w4 hown4 hg4 hat4;obtain ⟨G4,h4,i4,rfl⟩:=hown4.cap;have HN6:=H_ ((HN5.out.step (bl_alloc B_ _)).push (HB5.out.other (World.grownBy_alloc _ _ none) (by simp)) hg4 hown4 hat4);have hB6:=HN6.out.2;unfold NB at hB6;have z1:=cells_at hB6 1;have fz:=free_at hB6 1;simp only [List.getElem?_toArray,List.getElem?_cons_zero,List.getElem?_cons_succ] at z1;clear hB6))
        go_roundw
        case rel=>
         obtain ⟨r1,r2⟩:=HN6.out.1.set1 HN6.out.2;exact ⟨q+1,_,by go_num,by omega,r1,r2⟩
        case measure=>simp [intOf];omega
       ·obtain rfl:q=nn:=by omega
        unfold NB at hB;clear hB;have HCK:=H_ (HN.out.cache hS)
        go_wp2_with (first
         | (go_at_call 44;go_loud (refine CM hfz ?_);rintro e w5 ⟨rfl,hb5⟩;have HN5:=H_ (HN.out.step hb5);have HB5:=H_ (HB.out.other (gb_of_below hb5 none) (by simp));have hB5:=HB5.out;unfold NB at hB5;obtain ⟨x0,x1,x2,x3,x4,x5,x6⟩:=cs7 hB5;obtain ⟨g11,g12,g13,rfl⟩:=HN.out.g.cap;obtain ⟨l11,l12,l13,rfl⟩:=HN.out.l.cap;obtain ⟨k11,k12,k13,rfl⟩:=HN.out.c.cap;clear hb5 hB5)
         | (refine st_ck rfl (.tmp 6) (.tmp 83) rfl rfl w.heap.size rfl rfl HN5.out.res rfl ?_))
        show bodyPost Tryz.prog Tryz.f24 _ _ _ _
        refine bodyPost_ret (ck2_res rfl _ _ w.heap.size _ _ _ _ _ _ _ _ _ _ rfl rfl (setRow_heap _ _ _ _ _ _ HN5.out.res)) rfl ?_;refine ⟨newC Ls sz gs,_,_,_,_,_,_,_,rfl,rfl,?_,bl_setRow HN5.out.bl (Nat.le_refl _) _⟩;have:=((HN5.out.cache hS).kept (KeepS.of_setRow w5 w.heap.size #[.slice F1 f2 f3,.slice G1 g2 g3,.slice Az mz cz,.slice g11 g12 g13,.slice l11 l12 l13,.slice k11 k12 k13,.slice none 0 0] (fun h=>h.2 rfl))).weak (S':=S) (fun z _ h=>h.1);unfold newC;rw [←HNN.out];exact this
end
end Go.Proofs.YthhekebemmckcaaGreatDoor
