/-
  Lemmas and contracts for the laws of synchronisations (layer 43), part 30; several texts joined by a program.
-/
import Derived.Test.YthhekebemmckcaaGreatDoorJ01
import Derived.Test.YthhekebemmckcaaGreatDoorJ25
import Derived.Test.YthhekebemmckcaaGreatDoorJ29
namespace Go.Proofs.YthhekebemmckcaaGreatDoor
set_option linter.unusedVariables false
set_option linter.unusedSimpArgs false
set_option maxRecDepth 100000
set_option maxHeartbeats 16000000
open Go.RowKit
section
def dirtyV (C:Ck) (v:Int):Bool:=decide (0<v)&&(match C.frames[(v - 1).toNat]? with | some x=>x.pg.dirty != 0 | none=>false)
def writV (C:Ck) (v:Int):Bool:=decide (0<v)&&(match C.frames[(v - 1).toNat]? with | some x=>x.writing != 0 | none=>false)
def todoC (C:Ck) (y:Fl) (k:Nat):Bool:=dirtyV C (getR y.c k)
def goingC (C:Ck) (y:Fl) (k:Nat):Bool:=writV C (getR y.c k)
def startS (C:Ck) (i:Nat) (y:Fl):Sy:=⟨i,y.size,1,listP (todoC C y) 8,listP (goingC C y) 8,false⟩
def startN:Sy:=⟨0,0,0,[],[],false⟩
theorem listP_on {f:Nat→Bool} {k:Nat} (h:f k=true):listP f (k+1)=listP f k ++ [(k:Int)]:=by
 show _ ++ (if f k then _ else _)=_
 rw [h,if_pos rfl]
theorem listP_off {f:Nat→Bool} {k:Nat} (h:f k=false):listP f (k+1)=listP f k:=by
 show _ ++ (if f k then _ else _)=_
 rw [h,if_neg (by simp),List.append_nil]
structure StB (w:World) (cs:Array Value) (v3 v4:Value) (s:Sy) (W:World):Prop where
 c:W.heap[w.heap.size]?=some (.cells cs 30 (0,0))
 r:W.heap[w.heap.size+1]?=some (oSZ)
 x:W.heap[w.heap.size+2]?=some (.cells #[.int .i64 s.file,.int .i64 s.size,.int .i64 s.stage,v3,v4,.bool s.failed] 37 (0,0))
 t:LO IntR 3 W (w.heap.size+3) (fun _=>False) v3 s.todo
 g:LO IntR 3 W (w.heap.size+3) (fun _=>False) v4 s.going
 ne:∀b,v3.ownBlock=some b→v4.ownBlock≠some b
 b:Below w.heap.size w W
section
variable {w W W' W1:World} {cs:Array Value} {v3 v4 v':Value} {s:Sy}
theorem StB.step (h:StB w cs v3 v4 s W) (hb:Below W.heap.size W W'):StB w cs v3 v4 s W':=⟨bk_step h.c hb,bk_step h.r hb,bk_step h.x hb,h.t.step hb,h.g.step hb,h.ne,bl_step h.b hb⟩
theorem StB.size (h:StB w cs v3 v4 s W):w.heap.size+3≤W.heap.size:=bk_lt h.x
theorem StB.grown (h:StB w cs v3 v4 s W) {r:Option Nat} (hg:W.grownBy W' r) (hr:∀b,r=some b→w.heap.size+3≤b) :
  W'.heap[w.heap.size]?=some (.cells cs 30 (0,0))∧W'.heap[w.heap.size+1]?=some (oSZ)∧W'.heap[w.heap.size+2]?=some (.cells #[.int .i64 s.file,.int .i64 s.size,.int .i64 s.stage,v3,v4,.bool s.failed] 37 (0,0))∧Below w.heap.size w W':=
 ⟨(hg.block _ (bk_lt h.c) (fun e=>by have:=hr _ e.symm;omega)).trans h.c,(hg.block _ (bk_lt h.r) (fun e=>by have:=hr _ e.symm;omega)).trans h.r,(hg.block _ (bk_lt h.x) (fun e=>by have:=hr _ e.symm;omega)).trans h.x,h.b.grown hg h.b.size (fun b hb=>by have:=hr b hb;omega)⟩
theorem LO.set3 {base Z:Nat} {v:Value} {L:List Int} (h:LO IntR 3 W base (fun _=>False) v L) (hz:Z<base) (i:Nat) (u:Value):LO IntR 3 (W.setCell ⟨Z,i,none⟩ u) base (fun _=>False) v L:=
 OwnZ.lo (ownsRow_setCell_below (OwnZ.of_lo h) (a:=⟨Z,i,none⟩) hz u)
theorem StB.putT (h:StB w cs v3 v4 s W) (hg:W.grownBy W' v3.ownBlock) {L:List Int} (ho:LO IntR 3 W' (w.heap.size+3) (fun _=>False) v' L) (hat:∀b,v'.ownBlock=some b→v3.ownBlock=some b∨b=W.heap.size) :
  StB w cs v' v4 {s with todo:=L} (W'.setCell ⟨w.heap.size+2,3,none⟩ v'):=by
 obtain ⟨g1,g2,g3,g4⟩:=h.grown hg (fun b hb=>(h.t.own hb).1);have hne:∀b,v'.ownBlock=some b→v4.ownBlock≠some b:=fun b hb e=>by
  rcases hat b hb with h1 | h1
  ·exact h.ne b h1 e
  ·have:=(h.g.own e).2;omega
 have hk:LO IntR 3 W' (w.heap.size+3) (fun _=>False) v4 s.going:=by
  cases ho3:v3.ownBlock with
  | none=>exact h.g.kept (r:=none) (by rw [ho3] at hg;exact hg) (.inl rfl)
  | some b=>exact h.g.kept (r:=some b) (by rw [ho3] at hg;exact hg) (.inr ⟨b,rfl,fun h=>h,h.ne b ho3⟩)
 exact ⟨(Below.heap_setCell W' ⟨w.heap.size+2,3,none⟩ v' _ (by show w.heap.size≠w.heap.size+2;omega)).trans g1,(Below.heap_setCell W' ⟨w.heap.size+2,3,none⟩ v' _ (by show w.heap.size+1≠w.heap.size+2;omega)).trans g2,set_same g3 v',ho.set3 (by omega) _ _,hk.set3 (by omega) _ _,hne,bl_set g4 ⟨w.heap.size+2,3,none⟩ v' (by show w.heap.size≤w.heap.size+2;omega)⟩
theorem StB.putG (h:StB w cs v3 v4 s W) (hg:W.grownBy W' v4.ownBlock) {L:List Int} (ho:LO IntR 3 W' (w.heap.size+3) (fun _=>False) v' L) (hat:∀b,v'.ownBlock=some b→v4.ownBlock=some b∨b=W.heap.size) :
  StB w cs v3 v' {s with going:=L} (W'.setCell ⟨w.heap.size+2,4,none⟩ v'):=by
 obtain ⟨g1,g2,g3,g4⟩:=h.grown hg (fun b hb=>(h.g.own hb).1);have hne:∀b,v3.ownBlock=some b→v'.ownBlock≠some b:=fun b hb e=>by
  rcases hat b e with h1 | h1
  ·exact h.ne b hb h1
  ·have:=(h.t.own hb).2;omega
 have hk:LO IntR 3 W' (w.heap.size+3) (fun _=>False) v3 s.todo:=by
  cases ho3:v4.ownBlock with
  | none=>exact h.t.kept (r:=none) (by rw [ho3] at hg;exact hg) (.inl rfl)
  | some b=>exact h.t.kept (r:=some b) (by rw [ho3] at hg;exact hg) (.inr ⟨b,rfl,fun h=>h,fun e=>h.ne b e ho3⟩)
 exact ⟨(Below.heap_setCell W' ⟨w.heap.size+2,4,none⟩ v' _ (by show w.heap.size≠w.heap.size+2;omega)).trans g1,(Below.heap_setCell W' ⟨w.heap.size+2,4,none⟩ v' _ (by show w.heap.size+1≠w.heap.size+2;omega)).trans g2,set_same g3 v',hk.set3 (by omega) _ _,ho.set3 (by omega) _ _,hne,bl_set g4 ⟨w.heap.size+2,4,none⟩ v' (by show w.heap.size≤w.heap.size+2;omega)⟩
theorem StB.back (h:StB w cs v3 v4 s W) (hl:s.todo.length≤100) (hl':s.going.length≤100) {S:Nat→Prop} (hS:∀z,w.heap.size≤z→S z) (cs':Array Value):SyA (W.setRow (w.heap.size+1) cs') S v3 v4 s∧Below w.heap.size w (W.setRow (w.heap.size+1) cs'):=
 ⟨⟨((h.t.la (S':=fun z=>w.heap.size+3≤z) (fun _ _ h=>h.elim) (fun _ h=>h)).kept (KeepS.of_setRow W _ cs' (by omega))).weak (fun z _ hz=>hS z (by omega)),((h.g.la (S':=fun z=>w.heap.size+3≤z) (fun _ _ h=>h.elim) (fun _ h=>h)).kept (KeepS.of_setRow W _ cs' (by omega))).weak (fun z _ hz=>hS z (by omega)),hl,hl'⟩,bl_setRow h.b (by omega) cs'⟩
end
theorem rStartN_w (C:Ck) (i:Int) (a b c d e f g:Value) (S:Nat→Prop) (w:World) (h:CkAt w S a b c d e f g C) (hi:i<0∨(C.files.length:Int)≤i):Calls Tryz.prog 9 #[ckV a b c d e f g,.int .i64 i] w (RetSyE (startN,2) S w):=by
 obtain ⟨A1,m1,c1,e1⟩:=h.files.cap;have em1:m1=C.files.length:=by obtain ⟨_,_,e3,_,_⟩:=h.files.form;rw [e1] at e3;injection e3
 subst e1 em1;clear h;have HR:=H_ (heap_at_new (w.alloc (.cells #[.slice A1 C.files.length c1,b,c,d,e,f,g] 30)) (oSZ) (w.heap.size+1) (by simp));have HW:=H_ (bl_alloc (bl_alloc (Below.refl w.heap.size w) (.cells #[.slice A1 C.files.length c1,b,c,d,e,f,g] 30)) (oSZ));have hX:=bk_alloc (heap_alloc_at w (.cells #[.slice A1 C.files.length c1,b,c,d,e,f,g] 30)) (oSZ);have x0:=cs1 hX;clear hX
 by_cases h0:i<0
 ·have d0:decide (i<0)=true:=decide_eq_true h0;clear hi h0;go_enter Tryz.func9,Tryz.ntmps9;go_wp2
  show bodyPost Tryz.prog Tryz.f9 _ _ _ _
  refine bodyPost_ret (sy2_res rfl _ _ (w.heap.size+1) _ _ _ _ _ _ _ _ _ rfl rfl HR.out) rfl ?_;exact ⟨_,_,rfl,⟨LA.nil _ _ _,LA.nil _ _ _,by simp [startN],by simp [startN]⟩,HW.out⟩
 ·have d0:decide (i<0)=false:=decide_eq_false h0;have d1:decide ((C.files.length:Int)≤i)=true:=dT (by omega);clear hi h0;go_enter Tryz.func9,Tryz.ntmps9;go_wp2
  show bodyPost Tryz.prog Tryz.f9 _ _ _ _
  refine bodyPost_ret (sy2_res rfl _ _ (w.heap.size+1) _ _ _ _ _ _ _ _ _ rfl rfl HR.out) rfl ?_;exact ⟨_,_,rfl,⟨LA.nil _ _ _,LA.nil _ _ _,by simp [startN],by simp [startN]⟩,HW.out⟩
theorem rStart_w {F G Z:Nat} (C:Ck) (i:Nat) (y:Fl) (a b c d e f g:Value) (S:Nat→Prop) (w:World) (h:CkAt w S a b c d e f g C) (hI:Inv F G Z C) (hi:C.files[i]?=some y) (hS:∀z,w.heap.size≤z→S z):Calls Tryz.prog 9 #[ckV a b c d e f g,.int .i64 i] w (RetSyE (startS C i y,0) S w):=by
 have hil:=(g_l hi);have hfi:=fun (k:Nat) w' (hb:Below w.heap.size w w')=>find_w40 C i y k a b c d e f g S w' (h.step hb) hi;have hfr:=fun w' (hb:Below w.heap.size w w')=>(h.step hb).frames;have HFI:=H_ (fun (k:Nat) (hk:0<getR y.c k)=>hI.find i y k hi hk);have hn64:=hI.nr.2;obtain ⟨A1,m1,c1,e1⟩:=h.files.cap;obtain ⟨A2,m2,c2,e2⟩:=h.frames.cap;have em1:m1=C.files.length:=by obtain ⟨_,_,e3,_,_⟩:=h.files.form;rw [e1] at e3;injection e3
 have em2:m2=C.frames.length:=by obtain ⟨_,_,e3,_,_⟩:=h.frames.form;rw [e2] at e3;injection e3
 subst e1 e2;obtain ⟨bb,o,t,B,ct,rfl,hbl,_,_,_,_,hc⟩:=FlA.cells h.files hi;have y6:w.cell? ⟨bb,o+i*15+6,none⟩=some (.int .i64 y.size):=hc 6 _ rfl;have i0:(0:Int)≤(i:Int):=by omega
 have i1:(i:Int)<(m1:Int):=by omega
 have i2:i<m1:=by omega
 have d0:decide ((i:Int)<0)=false:=dF (by omega);have d1:decide ((m1:Int)≤(i:Int))=false:=dF (by omega);have hX:=bk_alloc (heap_alloc_at w (.cells #[.slice (some ⟨bb,o,none⟩) m1 c1,.slice A2 m2 c2,c,d,e,f,g] 30)) (oSZ);have HX:=H_ hX;have HR:=H_ (heap_at_new (w.alloc (.cells #[.slice (some ⟨bb,o,none⟩) m1 c1,.slice A2 m2 c2,c,d,e,f,g] 30)) (oSZ) (w.heap.size+1) (by simp));have HW:=H_ (bl_alloc (bl_alloc (Below.refl w.heap.size w) (.cells #[.slice (some ⟨bb,o,none⟩) m1 c1,.slice A2 m2 c2,c,d,e,f,g] 30)) (oSZ));obtain ⟨x0,x1,x2,x3,x4,x5,x6⟩:=cs7 hX;have HN:=H_ (⟨hi,hil,em1,i1,i2⟩:C.files[i]?=some y∧i<C.files.length∧m1=C.files.length∧(i:Int)<(m1:Int)∧i<m1);have EM2:=H_ em2;clear hc h hI hi hil em1 em2 hX d1;have d1:decide (m1≤i)=false:=dF (by omega);go_enter Tryz.func9,Tryz.ntmps9
 go_upto_region 4 with fail
 have HSB:=H_ (show StB w #[.slice (some ⟨bb,o,none⟩) m1 c1,.slice A2 m2 c2,c,d,e,f,g] (.slice none 0 0) (.slice none 0 0) ⟨i,y.size,1,[],[],false⟩ (((w.alloc (.cells #[.slice (some ⟨bb,o,none⟩) m1 c1,.slice A2 m2 c2,c,d,e,f,g] 30)).alloc (oSZ)).alloc (.cells #[.int .i64 i,.int .i64 y.size,.int .i64 1,.slice none 0 0,.slice none 0 0,.bool false] 37)) from
  ⟨bk_alloc HX.out _,bk_alloc HR.out _,heap_at_new _ _ (w.heap.size+2) (by simp),LO.nil _ _ _ _ _,LO.nil _ _ _ _ _,fun b hb=>by (cases hb),bl_alloc HW.out _⟩)
 generalize (((w.alloc (.cells #[.slice (some ⟨bb,o,none⟩) m1 c1,.slice A2 m2 c2,c,d,e,f,g] 30)).alloc (oSZ)).alloc (.cells #[.int .i64 i,.int .i64 y.size,.int .i64 1,.slice none 0 0,.slice none 0 0,.bool false] 37))=W0 at HSB;clear HX HR HW x0 x1 x2 x3 x4 x5 x6 y6 d0 d1 i0 i1 i2;go_wp2
 go_loopw [7] (fun s7 wx=>∃(k:Nat) (v3 v4:Value),s7 = .int .i64 (k:Int)∧k≤8∧StB w #[.slice (some ⟨bb,o,none⟩) m1 c1,.slice A2 m2 c2,c,d,e,f,g] v3 v4 ⟨i,y.size,1,listP (todoC C y) k,listP (goingC C y) k,false⟩ wx) (fun s7 _=>8 - (intOf s7).toNat)
 case atStart=>exact ⟨0,_,_,rfl,by omega,HSB.out⟩
 case round=>
  clear HSB;obtain ⟨k,v3,v4,rfl,hk,hsb⟩:=hrel;have HSB:=H_ hsb;have HB:=H_ hsb.b;clear hsb
  by_cases hlt:k<8
  ·have hX:=HSB.out.c;obtain ⟨x0,x1,x2,x3,x4,x5,x6⟩:=cs7 hX;clear hX;have HFK:=H_ (HFI.out k);have hf0:=hfi k wr HB.out;obtain ⟨gv,hgv⟩:∃gv,gv=getR y.c k:=⟨_,rfl⟩;rw [←hgv] at hf0 HFK;have HT:=H_ (show todoC C y k=dirtyV C gv by rw [hgv];rfl);have HG:=H_ (show goingC C y k=writV C gv by rw [hgv];rfl);clear hgv
   by_cases hg0:gv≤0
   ·have hd:dirtyV C gv=false:=by unfold dirtyV;rw [dF (by omega)];rfl
    have hw:writV C gv=false:=by unfold writV;rw [dF (by omega)];rfl
    have HL1:=H_ (listP_off (HT.out.trans hd));have HL2:=H_ (listP_off (HG.out.trans hw));have hq:fdV gv = .tuple #[.int .i64 0,.bool false]:=if_pos hg0;unfold RetFd at hf0;rw [hq] at hf0;clear hd hw hq hg0
    go_wp2_with (go_at_call 23;(with_reducible refine CM hf0 ?_);rintro e w1 ⟨rfl,hb1⟩;have HSB1:=H_ (HSB.out.step hb1))
    go_roundw
    case rel=>exact ⟨k+1,v3,v4,by go_num,by omega,by rw [HL1.out,HL2.out];exact HSB1.out⟩
    case measure=>simp [intOf];omega
   ·obtain ⟨ix,x,hx1,hx2,hx3,hx4⟩:=HFK.out (by omega);have hix:=(g_l hx2);have hd:dirtyV C gv=(x.pg.dirty != 0):=by
     unfold dirtyV;rw [decide_eq_true (show (0:Int)<gv by omega),show (gv - 1).toNat=ix by omega,hx2]
     rfl
    have hw:writV C gv=(x.writing != 0):=by
     unfold writV;rw [decide_eq_true (show (0:Int)<gv by omega),show (gv - 1).toNat=ix by omega,hx2]
     rfl
    have HT':=H_ (HT.out.trans hd);have HG':=H_ (HG.out.trans hw);have hq:fdV gv = .tuple #[.int .i64 gv,.bool true]:=if_neg hg0;unfold RetFd at hf0;rw [hq,hx1] at hf0;have i3:ix<m2:=by rw [EM2.out];exact hix
    have i4:(ix:Int)<(m2:Int):=by omega
    have i5:(ix:Int)+1≤100:=by rw [EM2.out] at i4;omega
    have HX2:=H_ hx2;clear hd hw hq hg0 HT HG hx1 hx2 hx3 hx4 HFK hix
    go_upto_region 8 with (go_at_call 23;(with_reducible refine CM hf0 ?_);rintro e w1 ⟨rfl,hb1⟩;have HSB1:=H_ (HSB.out.step hb1))
    clear HSB x0 x1 x2 x3 x4 x5 x6 hf0;have HSB:=HSB1;clear HSB1 hb1;have hX:=HSB.out.c;have x1:=cells_at hX 1;simp only [List.getElem?_toArray,List.getElem?_cons_zero,List.getElem?_cons_succ] at x1;clear hX;obtain ⟨fb,fo,rfl,hfb,_,_,_,_,y4,_,_,_,y8⟩:=FrA.cells (hfr _ HSB.out.b) HX2.out;obtain ⟨dv,hdv⟩:∃dv,dv=x.pg.dirty:=⟨_,rfl⟩;rw [←hdv] at y4 HT';clear hdv y8;obtain ⟨C3,n3,k3,rfl⟩:=HSB.out.t.cap;obtain ⟨C4,n4,k4,rfl⟩:=HSB.out.g.cap;have hX:=HSB.out.x
    dsimp only at hX
    have s3:=cells_at hX 3;simp only [List.getElem?_toArray,List.getElem?_cons_zero,List.getElem?_cons_succ] at s3;clear hX;have hln:=listP_len (todoC C y) k;have hln':=listP_len (goingC C y) k
    go_upto_if 49 with fail
    go_cut [] (fun wy=>∃v3 v4,StB w #[.slice (some ⟨bb,o,none⟩) m1 c1,.slice (some ⟨fb,fo,none⟩) m2 c2,c,d,e,f,g] v3 v4 ⟨i,y.size,1,listP (todoC C y) (k+1),listP (goingC C y) k,false⟩ wy)
    case first=>
     cases hdt:(dv != 0) with
     | true=>
      have HL:=H_ (listP_on (HT'.out.trans hdt));clear hdt
      go_wp2_with (at_builtin;go_loud (refine wpList_push IntR int_el rfl (.tmp 51) (.tmp 53) rfl _ (w.heap.size+3) (fun _=>False) (listP (todoC C y) k) rfl (HSB.out.t.alloc _) (by have:=HSB.out.size;simp;omega) (by omega) _ #[.int .i64 (k:Int)] rfl _ (heap_at_new _ _ _ rfl) (k:Int) rfl ?_);intro v9 w9 hown9 hg9 hat9;obtain ⟨C9,n9,k9,rfl⟩:=hown9.cap;have hst9:=HSB.out.step (bl_alloc B_ (.cells #[.int .i64 (k:Int)] 3));have z9:=cells_at ((hst9.grown hg9 (fun b hb=>(HSB.out.t.own hb).1)).2.2.1) 3;have f9:=free_at ((hst9.grown hg9 (fun b hb=>(HSB.out.t.own hb).1)).2.2.1) 3;simp only [List.getElem?_toArray,List.getElem?_cons_zero,List.getElem?_cons_succ] at z9)
      go_meet
      case rel=>exact ⟨_,_,by rw [HL.out];exact hst9.putT hg9 hown9 hat9⟩
     | false=>
      have HL:=H_ (listP_off (HT'.out.trans hdt));clear hdt;go_wp2;go_meet
      case rel=>exact ⟨_,_,by rw [HL.out];exact HSB.out⟩
    case rest=>
     clear HSB y4 x1 s3;obtain ⟨v3,v4,hsb⟩:=hcut;have HSB:=H_ hsb;clear hsb;have hX:=HSB.out.c;have x1:=cells_at hX 1;simp only [List.getElem?_toArray,List.getElem?_cons_zero,List.getElem?_cons_succ] at x1;clear hX;obtain ⟨fb',fo',e9,hfb',_,_,_,_,_,_,_,_,y8⟩:=FrA.cells (hfr _ HSB.out.b) HX2.out;injection e9 with e9
     injection e9 with e9 e8
     subst e9 e8;obtain ⟨wv,hwv⟩:∃wv,wv=x.writing:=⟨_,rfl⟩;rw [←hwv] at y8 HG';clear hwv;obtain ⟨C3,n3,k3,rfl⟩:=HSB.out.t.cap;obtain ⟨C4,n4,k4,rfl⟩:=HSB.out.g.cap;have hX:=HSB.out.x
     dsimp only at hX
     have s4:=cells_at hX 4;simp only [List.getElem?_toArray,List.getElem?_cons_zero,List.getElem?_cons_succ] at s4;clear hX
     cases hwt:(wv != 0) with
     | true=>
      have HL:=H_ (listP_on (HG'.out.trans hwt));clear HG'
      go_wp2_with (at_builtin;go_loud (refine wpList_push IntR int_el rfl (.tmp 65) (.tmp 67) rfl _ (w.heap.size+3) (fun _=>False) (listP (goingC C y) k) rfl (HSB.out.g.alloc _) (by have:=HSB.out.size;simp;omega) (by omega) _ #[.int .i64 (k:Int)] rfl _ (heap_at_new _ _ _ rfl) (k:Int) rfl ?_);intro v9 w9 hown9 hg9 hat9;obtain ⟨C9,n9,k9,rfl⟩:=hown9.cap;have hst9:=HSB.out.step (bl_alloc B_ (.cells #[.int .i64 (k:Int)] 3));have z9:=cells_at ((hst9.grown hg9 (fun b hb=>(HSB.out.g.own hb).1)).2.2.1) 4;have f9:=free_at ((hst9.grown hg9 (fun b hb=>(HSB.out.g.own hb).1)).2.2.1) 4;simp only [List.getElem?_toArray,List.getElem?_cons_zero,List.getElem?_cons_succ] at z9)
      go_roundw
      case rel=>exact ⟨k+1,_,_,by go_num,by omega,by rw [HL.out];exact hst9.putG hg9 hown9 hat9⟩
      case measure=>simp [intOf];omega
     | false=>
      have HL:=H_ (listP_off (HG'.out.trans hwt));clear HG';go_wp2;go_roundw
      case rel=>exact ⟨k+1,_,_,by go_num,by omega,by rw [HL.out];exact HSB.out⟩
      case measure=>simp [intOf];omega
  ·obtain rfl:k=8:=by omega
   have hX:=HSB.out.x
   dsimp only at hX
   obtain ⟨x0,x1,x2,x3,x4,x5⟩:=cs6 hX;clear hX;obtain ⟨C3,n3,k3,rfl⟩:=HSB.out.t.cap;obtain ⟨C4,n4,k4,rfl⟩:=HSB.out.g.cap
   go_wp2_with (refine st_sy rfl (.tmp 4) (.tmp 70) rfl rfl (w.heap.size+1) rfl rfl HSB.out.r rfl ?_)
   show bodyPost Tryz.prog Tryz.f9 _ _ _ _
   refine bodyPost_ret (sy2_res rfl _ _ (w.heap.size+1) _ _ _ _ _ _ _ _ _ rfl rfl (setRow_heap _ _ _ _ _ _ HSB.out.r)) rfl ?_;obtain ⟨r1,r2⟩:=HSB.out.back (Nat.le_trans (listP_len _ _) (by omega)) (Nat.le_trans (listP_len _ _) (by omega)) hS #[.int .i64 i,.int .i64 y.size,.int .i64 1,.slice C3 n3 k3,.slice C4 n4 k4,.bool false];exact ⟨_,_,rfl,r1,r2⟩
end
section
theorem pStartN_w (C:Ck) (i:Int) (a b c d e f g:Value) (S:Nat→Prop) (w:World) (h:CkAt w S a b c d e f g C) (hi:i<0∨(C.files.length:Int)≤i):Calls Tryz.prog 8 #[ckV a b c d e f g,.int .i64 i] w (RetSyE (startN,2) S w):=by
 obtain ⟨A1,m1,c1,e1⟩:=h.files.cap;have em1:m1=C.files.length:=by obtain ⟨_,_,e3,_,_⟩:=h.files.form;rw [e1] at e3;injection e3
 subst e1 em1;clear h;have HR:=H_ (heap_at_new (w.alloc (.cells #[.slice A1 C.files.length c1,b,c,d,e,f,g] 30)) (oSZ) (w.heap.size+1) (by simp));have HW:=H_ (bl_alloc (bl_alloc (Below.refl w.heap.size w) (.cells #[.slice A1 C.files.length c1,b,c,d,e,f,g] 30)) (oSZ));have hX:=bk_alloc (heap_alloc_at w (.cells #[.slice A1 C.files.length c1,b,c,d,e,f,g] 30)) (oSZ);have x0:=cs1 hX;clear hX
 by_cases h0:i<0
 ·have d0:decide (i<0)=true:=decide_eq_true h0;clear hi h0;go_enter Tryz.func8,Tryz.ntmps8;go_wp2
  show bodyPost Tryz.prog Tryz.f8 _ _ _ _
  refine bodyPost_ret (sy2_res rfl _ _ (w.heap.size+1) _ _ _ _ _ _ _ _ _ rfl rfl HR.out) rfl ?_;exact ⟨_,_,rfl,⟨LA.nil _ _ _,LA.nil _ _ _,by simp [startN],by simp [startN]⟩,HW.out⟩
 ·have d0:decide (i<0)=false:=decide_eq_false h0;have d1:decide ((C.files.length:Int)≤i)=true:=dT (by omega);clear hi h0;go_enter Tryz.func8,Tryz.ntmps8;go_wp2
  show bodyPost Tryz.prog Tryz.f8 _ _ _ _
  refine bodyPost_ret (sy2_res rfl _ _ (w.heap.size+1) _ _ _ _ _ _ _ _ _ rfl rfl HR.out) rfl ?_;exact ⟨_,_,rfl,⟨LA.nil _ _ _,LA.nil _ _ _,by simp [startN],by simp [startN]⟩,HW.out⟩
theorem usedZ_w (C:Ck) (a b c d e f g:Value) (w:World):Calls Tryz.prog 28 #[ckV a b c d e f g,.int .i64 0] w (RetB false w):=by
 go_enter Tryz.func28,Tryz.ntmps28;go_wp2;go_ret;exact ⟨rfl,bl_alloc B_ _⟩
structure SpB (w:World) (cs:Array Value) (W:World):Prop where
 c:W.heap[w.heap.size]?=some (.cells cs 30 (0,0))
 r:W.heap[w.heap.size+1]?=some (oSZ)
 b:Below w.heap.size w W
theorem SpB.step {w W W':World} {cs:Array Value} (h:SpB w cs W) (hb:Below W.heap.size W W'):SpB w cs W':=⟨bk_step h.c hb,bk_step h.r hb,bl_step h.b hb⟩
def GSt (w:World) (i:Nat) (A1:Option Addr) (m1 c1 bb o:Nat) (size:Int) (n1 n2:Nat) (L1 L2:List Int) (j:Nat) (v:Value) (x:World):Prop:=
 match j with
 | 0=>v = .int .i64 i
 | 1=>v = .pointer (some ⟨w.heap.size,0,none⟩)
 | 2=>v = .slice (some ⟨bb,o,none⟩) m1 c1
 | 3=>v = .int .i64 i
 | 4=>v = .pointer (some ⟨bb,o+i*15,none⟩)
 | 5=>v = .pointer (some ⟨bb,o+i*15+6,none⟩)
 | 6=>v = .int .i64 size
 | 7=>v = .int .i64 n1
 | 8=>LA IntR x (fun z=>w.heap.size+2≤z) v L1
 | 9=>v = .int .i64 n2
 | 10=>LA IntR x (fun z=>w.heap.size+2≤z) v L2
 | _=>False
theorem GSt.kept {w:World} {i:Nat} {A1:Option Addr} {m1 c1 bb o:Nat} {size:Int} {n1 n2:Nat} {L1 L2:List Int} (x y:World) (hb:Below x.heap.size x y) (j:Nat) (v:Value) (h:GSt w i A1 m1 c1 bb o size n1 n2 L1 L2 j v x):GSt w i A1 m1 c1 bb o size n1 n2 L1 L2 j v y:=by
 unfold GSt at *
 split at h
 all_goals first | exact h | exact LA.step h hb
theorem pStart_w {F G Z:Nat} (C:Ck) (i:Nat) (y:Fl) (a b c d e f g:Value) (S:Nat→Prop) (w:World) (h:CkAt w S a b c d e f g C) (hI:Inv F G Z C) (hi:C.files[i]?=some y) (hbt:BitsAt w) (hS:∀z,w.heap.size≤z→S z):Calls Tryz.prog 8 #[ckV a b c d e f g,.int .i64 i] w (RetSyE (startS C i y,0) S w):=by
 have hil:=(g_l hi);have hn64:=hI.nr.2;have hfi:=fun (k:Nat) w' (hb:Below w.heap.size w w')=>findP_w C i y k a b c d e f g S w' (h.step hb) hi;have hus:=fun (k:Nat) (x:Fr) w' (hx:C.frames[k]?=some x) (hb:Below w.heap.size w w')=>usedP_w C k x a b c d e f g S w' (h.step hb) hx (by omega);have hus0:=fun w'=>usedZ_w C a b c d e f g w';have hfr:=fun w' (hb:Below w.heap.size w w')=>(h.step hb).frames;have HFI:=H_ (fun (k:Nat) (hk:0<getR y.c k)=>hI.find i y k hi hk);have HBT:=H_ (fun w' (hb:Below w.heap.size w w')=>hbt.step hb);obtain ⟨A1,m1,c1,e1⟩:=h.files.cap;obtain ⟨A2,m2,c2,e2⟩:=h.frames.cap;have em1:m1=C.files.length:=by obtain ⟨_,_,e3,_,_⟩:=h.files.form;rw [e1] at e3;injection e3
 have em2:m2=C.frames.length:=by obtain ⟨_,_,e3,_,_⟩:=h.frames.form;rw [e2] at e3;injection e3
 subst e1 e2;obtain ⟨bb,o,t,B,ct,rfl,hbl,_,_,_,_,hc⟩:=FlA.cells h.files hi;have Y6:=H_ (show w.cell? ⟨bb,o+i*15+6,none⟩=some (.int .i64 y.size) from hc 6 _ rfl);have i0:(0:Int)≤(i:Int):=by omega
 have i1:(i:Int)<(m1:Int):=by omega
 have i2:i<m1:=by omega
 have d0:decide ((i:Int)<0)=false:=dF (by omega);have hX:=bk_alloc (heap_alloc_at w (.cells #[.slice (some ⟨bb,o,none⟩) m1 c1,.slice A2 m2 c2,c,d,e,f,g] 30)) (oSZ);have HSB:=H_ (show SpB w #[.slice (some ⟨bb,o,none⟩) m1 c1,.slice A2 m2 c2,c,d,e,f,g] ((w.alloc (.cells #[.slice (some ⟨bb,o,none⟩) m1 c1,.slice A2 m2 c2,c,d,e,f,g] 30)).alloc (oSZ)) from
  ⟨hX,heap_at_new (w.alloc (.cells #[.slice (some ⟨bb,o,none⟩) m1 c1,.slice A2 m2 c2,c,d,e,f,g] 30)) (oSZ) (w.heap.size+1) (by simp),bl_alloc (bl_alloc (Below.refl w.heap.size w) (.cells #[.slice (some ⟨bb,o,none⟩) m1 c1,.slice A2 m2 c2,c,d,e,f,g] 30)) (oSZ)⟩)
 obtain ⟨x0,x1,x2,x3,x4,x5,x6⟩:=cs7 hX;have EM2:=H_ em2;clear hc h hI hi hil em1 em2 hX hbt;have d1:decide (m1≤i)=false:=dF (by omega);go_enter Tryz.func8,Tryz.ntmps8
 go_upto_region 3 with fail
 generalize (w.alloc _).alloc _=W0 at HSB;clear x0 x1 x2 x3 x4 x5 x6 d0 d1;go_wp2
 go_loopw [6,7,21] (fun s6 s7 s21 wx=>∃(k:Nat),s21 = .int .i64 (k:Int)∧s6 = .int .i64 ((bitsP (todoC C y) k:Nat):Int)∧s7 = .int .i64 ((bitsP (goingC C y) k:Nat):Int)∧k≤8∧SpB w #[.slice (some ⟨bb,o,none⟩) m1 c1,.slice A2 m2 c2,c,d,e,f,g] wx) (fun _ _ s21 _=>8 - (intOf s21).toNat)
 case atStart=>exact ⟨0,rfl,rfl,rfl,by omega,HSB.out⟩
 case round=>
  clear HSB;obtain ⟨k,rfl,rfl,rfl,hk,hsb⟩:=hrel;have HSB:=H_ hsb;clear hsb
  by_cases hlt:k<8
  ·have hX:=HSB.out.c;obtain ⟨x0,x1,x2,x3,x4,x5,x6⟩:=cs7 hX;clear hX;have HFK:=H_ (HFI.out k);have hf0:=hfi k wr HSB.out.b;obtain ⟨gv,hgv⟩:∃gv,gv=getR y.c k:=⟨_,rfl⟩;rw [←hgv] at hf0 HFK;have HT:=H_ (show todoC C y k=dirtyV C gv by rw [hgv];rfl);have HG:=H_ (show goingC C y k=writV C gv by rw [hgv];rfl);clear hgv
   by_cases hg0:gv≤0
   ·have hd:dirtyV C gv=false:=by unfold dirtyV;rw [dF (by omega)];rfl
    have hw:writV C gv=false:=by unfold writV;rw [dF (by omega)];rfl
    have HL1:=H_ (show bitsP (todoC C y) (k+1)=bitsP (todoC C y) k by show _+(if todoC C y k then _ else _)=_;rw [HT.out,hd];rfl);have HL2:=H_ (show bitsP (goingC C y) (k+1)=bitsP (goingC C y) k by show _+(if goingC C y k then _ else _)=_;rw [HG.out,hw];rfl);have hq:max gv 0=0:=by omega
    have hq':decide (0<gv)=false:=dF (by omega);unfold RetFdP at hf0;rw [hq,hq'] at hf0;clear hd hw hq hq' hg0
    go_wp2_with (first
     | (go_at_call 27;(with_reducible refine CM hf0 ?_);rintro e w1 ⟨rfl,hb1⟩;have HSB1:=H_ (HSB.out.step hb1);have hX1:=HSB1.out.c;obtain ⟨z0,z1,z2,z3,z4,z5,z6⟩:=cs7 hX1;clear hX1)
     | (go_at_call 28;(with_reducible refine CM (hus0 _) ?_);rintro e w2 ⟨rfl,hb2⟩;have HSB2:=H_ (HSB1.out.step hb2)))
    go_roundw
    case rel=>exact ⟨k+1,by go_num,by rw [HL1.out],by rw [HL2.out],by omega,HSB2.out⟩
    case measure=>simp [intOf];omega
   ·obtain ⟨ix,x,hx1,hx2,hx3,hx4⟩:=HFK.out (by omega);have hix:=(g_l hx2);have hd:dirtyV C gv=(x.pg.dirty != 0):=by
     unfold dirtyV;rw [decide_eq_true (show (0:Int)<gv by omega),show (gv - 1).toNat=ix by omega,hx2]
     rfl
    have hw:writV C gv=(x.writing != 0):=by
     unfold writV;rw [decide_eq_true (show (0:Int)<gv by omega),show (gv - 1).toNat=ix by omega,hx2]
     rfl
    have HT':=H_ (HT.out.trans hd);have HG':=H_ (HG.out.trans hw);have hq:max gv 0=(ix:Int)+1:=by omega
    have hq':decide (0<gv)=true:=dT (by omega);unfold RetFdP at hf0;rw [hq,hq'] at hf0;have hu0:=fun w' (hb:Below w.heap.size w w')=>hus ix x w' hx2 hb;rw [show decide (0≤x.file)=true from decide_eq_true (by rw [hx3];omega)] at hu0;have i3:ix<m2:=by rw [EM2.out];exact hix
    have i4:(ix:Int)<(m2:Int):=by omega
    have i5:(ix:Int)+1≤100:=by rw [EM2.out] at i4;omega
    have HX2:=H_ hx2;clear hd hw hq hq' hg0 HT HG hx1 hx2 hx3 hx4 HFK hix
    go_upto_region 9 with (first
     | (go_at_call 27;(with_reducible refine CM hf0 ?_);rintro e w1 ⟨rfl,hb1⟩;have HSB1:=H_ (HSB.out.step hb1);have hX1:=HSB1.out.c;obtain ⟨z0,z1,z2,z3,z4,z5,z6⟩:=cs7 hX1;clear hX1)
     | (go_at_call 28;(with_reducible refine CM (hu0 _ HSB1.out.b) ?_);rintro e w2 ⟨rfl,hb2⟩;have HSB2:=H_ (HSB1.out.step hb2)))
    clear HSB HSB1 x0 x1 x2 x3 x4 x5 x6 z0 z1 z2 z3 z4 z5 z6 hf0 hu0;have HSB:=HSB2;clear HSB2 hb1 hb2;have hX:=HSB.out.c;have x1:=cells_at hX 1;simp only [List.getElem?_toArray,List.getElem?_cons_zero,List.getElem?_cons_succ] at x1;clear hX;obtain ⟨fb,fo,rfl,hfb,_,_,_,_,y4,_,_,_,y8⟩:=FrA.cells (hfr _ HSB.out.b) HX2.out;obtain ⟨dv,hdv⟩:∃dv,dv=x.pg.dirty:=⟨_,rfl⟩;rw [←hdv] at y4 HT';clear hdv y8;have hbk:=HBT.out _ HSB.out.b k hlt;have l1:=bitsP_lt (todoC C y) k;have l2:=bitsP_lt (goingC C y) k;have l3:2 ^ k≤128:=show 2 ^ k≤2 ^ 7 from Nat.pow_le_pow_right (by omega) (by omega);have o1:=orB ⟨bitsP (todoC C y) k,by omega⟩ ⟨k,hlt⟩ l1;have o2:=orB ⟨bitsP (goingC C y) k,by omega⟩ ⟨k,hlt⟩ l2
    dsimp only at o1 o2
    have O2:=H_ o2;have HBK:=H_ hbk;clear o2 l1 l2 l3
    go_upto_if 43 with fail
    go_cut [6] (fun s6 wy=>s6 = .int .i64 ((bitsP (todoC C y) (k+1):Nat):Int)∧SpB w #[.slice (some ⟨bb,o,none⟩) m1 c1,.slice (some ⟨fb,fo,none⟩) m2 c2,c,d,e,f,g] wy)
    case first=>
     cases hdt:(dv != 0) with
     | true=>
      have HL:=H_ (show bitsP (todoC C y) (k+1)=bitsP (todoC C y) k+2 ^ k by show _+(if todoC C y k then _ else _)=_;rw [HT'.out,hdt,if_pos rfl]);clear hdt;go_wp2;go_meet
      case rel=>exact ⟨by rw [HL.out];first | rfl | simp,HSB.out⟩
     | false=>
      have HL:=H_ (show bitsP (todoC C y) (k+1)=bitsP (todoC C y) k by show _+(if todoC C y k then _ else _)=_;rw [HT'.out,hdt];rfl);clear hdt;go_wp2;go_meet
      case rel=>exact ⟨by rw [HL.out],HSB.out⟩
    case rest=>
     clear HSB y4 x1 hbk o1;obtain ⟨rfl,hsb⟩:=hcut;have HSB:=H_ hsb;clear hsb;have hX:=HSB.out.c;have x1:=cells_at hX 1;simp only [List.getElem?_toArray,List.getElem?_cons_zero,List.getElem?_cons_succ] at x1;clear hX;obtain ⟨fb',fo',e9,hfb',_,_,_,_,_,_,_,_,y8⟩:=FrA.cells (hfr _ HSB.out.b) HX2.out;injection e9 with e9
     injection e9 with e9 e8
     subst e9 e8;obtain ⟨wv,hwv⟩:∃wv,wv=x.writing:=⟨_,rfl⟩;rw [←hwv] at y8 HG';clear hwv;have hbk:=HBT.out _ HSB.out.b k hlt;have o2:=O2.out
     cases hwt:(wv != 0) with
     | true=>
      have HL:=H_ (show bitsP (goingC C y) (k+1)=bitsP (goingC C y) k+2 ^ k by show _+(if goingC C y k then _ else _)=_;rw [HG'.out,hwt,if_pos rfl]);clear HG';go_wp2;go_roundw
      case rel=>exact ⟨k+1,by go_num,rfl,by rw [HL.out];first | rfl | simp,by omega,HSB.out⟩
      case measure=>simp [intOf];omega
     | false=>
      have HL:=H_ (show bitsP (goingC C y) (k+1)=bitsP (goingC C y) k by show _+(if goingC C y k then _ else _)=_;rw [HG'.out,hwt];rfl);clear HG';go_wp2;go_roundw
      case rel=>exact ⟨k+1,by go_num,rfl,by rw [HL.out],by omega,HSB.out⟩
      case measure=>simp [intOf];omega
  ·obtain rfl:k=8:=by omega
   go_upto_region 14 with fail
   have hb1:=bitsP_lt (todoC C y) 8;have hb2:=bitsP_lt (goingC C y) 8;have hp1:=fun w' (hC:SpB w #[.slice (some ⟨bb,o,none⟩) m1 c1,.slice A2 m2 c2,c,d,e,f,g] w')=>pages_w43 (bitsP (todoC C y) 8) hb1 (fun z=>w.heap.size+2≤z) w' (HBT.out _ hC.b) (fun z hz=>by have:=bk_lt hC.r;omega);have hp2:=fun w' (hC:SpB w #[.slice (some ⟨bb,o,none⟩) m1 c1,.slice A2 m2 c2,c,d,e,f,g] w')=>pages_w43 (bitsP (goingC C y) 8) hb2 (fun z=>w.heap.size+2≤z) w' (HBT.out _ hC.b) (fun z hz=>by have:=bk_lt hC.r;omega);rw [listP_bits] at hp1 hp2;have hl1:=listP_len (todoC C y) 8;have hl2:=listP_len (goingC C y) 8;obtain ⟨n1,hn1⟩:∃n,n=bitsP (todoC C y) 8:=⟨_,rfl⟩;obtain ⟨n2,hn2⟩:∃n,n=bitsP (goingC C y) 8:=⟨_,rfl⟩;obtain ⟨L1,hL1⟩:∃L,L=listP (todoC C y) 8:=⟨_,rfl⟩;obtain ⟨L2,hL2⟩:∃L,L=listP (goingC C y) 8:=⟨_,rfl⟩;have HST:=H_ (show startS C i y=⟨i,y.size,1,L1,L2,false⟩ by rw [hL1,hL2];rfl);obtain ⟨sz,hsz⟩:∃sz,sz=y.size:=⟨_,rfl⟩;rw [←hn1,←hL1] at hp1;rw [←hn2,←hL2] at hp2;rw [←hL1] at hl1;rw [←hL2] at hl2;rw [←hsz] at Y6 HST;rw [←hn1,←hn2];clear hn1 hn2 hL1 hL2 hb1 hb2 HBT HFI hfi hus hus0 hsz;refine wp_region_rel 11 75 (SpB w #[.slice (some ⟨bb,o,none⟩) m1 c1,.slice A2 m2 c2,c,d,e,f,g]) (fun x y=>Below x.heap.size x y) (GSt w i A2 m1 c1 bb o sz n1 n2 L1 L2) (by kernel_rfl) (by kernel_rfl) rfl ⟨HSB.out.c,HSB.out.r,HSB.out.b.drew⟩ GSt.kept ?_;simp only [List.take_succ_cons,List.take_zero,List.drop_succ_cons,List.drop_zero];clear HSB;refine rC (fun x hC hd K hK=>?_) (fun v0=>?_)
   ·go_simp;exact hK _ _ hC B_ rfl
   simp only [ly];refine rC (fun x hC hd K hK=>?_) (fun v1=>?_)
   ·go_simp;exact hK _ _ hC B_ rfl
   simp only [ly];refine rC (fun x hC hd K hK=>?_) (fun v2=>?_)
   ·obtain rfl:v1=_:=hd 1 (by kernel_rfl);have x0:=cs1 hC.c;go_simp;exact hK _ _ hC B_ rfl
   simp only [ly];refine rC (fun x hC hd K hK=>?_) (fun v3=>?_)
   ·go_simp;exact hK _ _ hC B_ rfl
   simp only [ly];refine rC (fun x hC hd K hK=>?_) (fun v4=>?_)
   ·obtain rfl:v2=_:=hd 2 (by kernel_rfl);obtain rfl:v3=_:=hd 3 (by kernel_rfl);go_simp;exact hK _ _ hC B_ rfl
   simp only [ly];refine rC (fun x hC hd K hK=>?_) (fun v5=>?_)
   ·obtain rfl:v4=_:=hd 4 (by kernel_rfl);go_simp;exact hK _ _ hC B_ rfl
   simp only [ly];refine rC (fun x hC hd K hK=>?_) (fun v6=>?_)
   ·obtain rfl:v5=_:=hd 5 (by kernel_rfl);have y6:=(cell_kept (hC.b.block _ hbl)).trans Y6.out;go_simp;exact hK _ _ hC B_ rfl
   simp only [ly];refine rC (fun x hC hd K hK=>?_) (fun v7=>?_)
   ·go_simp;exact hK _ _ hC B_ rfl
   simp only [ly];refine rC (fun x hC hd K hK=>?_) (fun v8=>?_)
   ·obtain rfl:v7=_:=hd 7 (by kernel_rfl);go_simp
    go_at_call 29
    refine (hp1 x hC).mono ?_;rintro e w1 ⟨u,rfl,hu,hbu⟩;exact hK _ _ (hC.step hbu) hbu hu
   simp only [ly];refine rC (fun x hC hd K hK=>?_) (fun v9=>?_)
   ·go_simp;exact hK _ _ hC B_ rfl
   simp only [ly];refine rC (fun x hC hd K hK=>?_) (fun v10=>?_)
   ·obtain rfl:v9=_:=hd 9 (by kernel_rfl);go_simp
    go_at_call 29
    refine (hp2 x hC).mono ?_;rintro e w1 ⟨u,rfl,hu,hbu⟩;exact hK _ _ (hC.step hbu) hbu hu
   simp only [ly];refine relWalk_nil ?_;intro x hC hG;obtain rfl:v0=_:=hG 0 (by omega);obtain rfl:v6=_:=hG 6 (by omega);have h8:LA IntR x (fun z=>w.heap.size+2≤z) v8 L1:=hG 8 (by omega);have h10:LA IntR x (fun z=>w.heap.size+2≤z) v10 L2:=hG 10 (by omega);obtain ⟨C3,n3,k3,rfl⟩:=h8.cap;obtain ⟨C4,n4,k4,rfl⟩:=h10.cap;clear hG;have HC:=H_ hC;have H8:=H_ h8;have H10:=H_ h10;clear hC h8 h10
   go_wp2_with (refine st_sy rfl (.tmp 4) (.tmp 74) rfl rfl (w.heap.size+1) rfl rfl HC.out.r rfl ?_)
   show bodyPost Tryz.prog Tryz.f8 _ _ _ _
   refine bodyPost_ret (sy2_res rfl _ _ (w.heap.size+1) _ _ _ _ _ _ _ _ _ rfl rfl (setRow_heap _ _ _ _ _ _ HC.out.r)) rfl ?_
   try rw [HST.out]
   exact ⟨_,_,rfl,⟨(H8.out.kept (KeepS.of_setRow (S:=fun z=>w.heap.size+2≤z) _ _ _ (show ¬(w.heap.size+2≤w.heap.size+1) by omega))).weak (fun z _ (hz:w.heap.size+2≤z)=>hS z (by omega)),(H10.out.kept (KeepS.of_setRow (S:=fun z=>w.heap.size+2≤z) _ _ _ (show ¬(w.heap.size+2≤w.heap.size+1) by omega))).weak (fun z _ (hz:w.heap.size+2≤z)=>hS z (by omega)),Nat.le_trans hl1 (show (8:Nat)≤100 by omega),Nat.le_trans hl2 (show (8:Nat)≤100 by omega)⟩,bl_setRow HC.out.b (by omega) _⟩
end
end Go.Proofs.YthhekebemmckcaaGreatDoor
