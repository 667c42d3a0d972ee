/-
  Lemmas and contracts for the laws of synchronisations (layer 43), part 17; several texts joined by a program.
-/
import Derived.Test.YthhekebemmckcaaGreatDoorJ01
import Derived.Test.YthhekebemmckcaaGreatDoorJ16
namespace Go.Proofs.YthhekebemmckcaaGreatDoor
set_option linter.unusedVariables false
set_option linter.unusedSimpArgs false
set_option maxRecDepth 100000
set_option maxHeartbeats 16000000
open Go.RowKit
section
theorem hasFile_w (C:Ck) (i:Nat) (a b c d e f g:Value) (S:Nat→Prop) (w:World) (h:CkAt w S a b c d e f g C) (hi:i<C.files.length):Calls Tryz.prog 39 #[ckV a b c d e f g,.int .i64 i] w (RetB true w):=by
 obtain ⟨A,cap,rfl,_,_⟩:=h.files.form;have i0:(0:Int)≤(i:Int):=by omega
 have i1:(i:Int)<(C.files.length:Int):=by omega
 clear h;go_enter Tryz.func39,Tryz.ntmps39;go_wp2;go_ret;exact ⟨rfl,bl_alloc B_ _⟩
theorem cbytes_w (off n:Int) (w:World) (h1:0≤off) (h2:0≤n) (h3:off≤128) (h4:n≤128 - off):Calls Tryz.prog 76 #[.int .i64 off,.int .i64 n] w (RetQ (.bool true) w):=by
 have d1:decide (n≤128 - off)=true:=decide_eq_true h4;go_enter Tryz.func76,Tryz.ntmps76;go_wp2;go_ret;exact ⟨rfl,rfl⟩
theorem cbytes_n (off n:Int) (w:World) (h1:0≤off) (h2:0≤n) (h3:off≤128) (h4:¬n≤128 - off):Calls Tryz.prog 76 #[.int .i64 off,.int .i64 n] w (RetQ (.bool false) w):=by
 have d1:decide (n≤128 - off)=false:=decide_eq_false h4;go_enter Tryz.func76,Tryz.ntmps76;go_wp2;go_ret;exact ⟨rfl,rfl⟩
theorem FrA.cells {w:World} {S:Nat→Prop} {A:Option Addr} {n cap:Nat} {L:List Fr} (h:LA FrR w S (.slice A n cap) L) {i:Nat} {x:Fr} (hi:L[i]?=some x):∃b o,A=some ⟨b,o,none⟩∧b<w.heap.size∧
  w.cell? ⟨b,o+i*9,none⟩=some (.int .i64 x.file)∧w.cell? ⟨b,o+i*9+1,none⟩=some (.int .i64 x.page)∧w.cell? ⟨b,o+i*9+2,none⟩=some (.string x.pg.data)∧w.cell? ⟨b,o+i*9+3,none⟩=some (.int .i64 x.pg.valid)∧w.cell? ⟨b,o+i*9+4,none⟩=some (.int .i64 x.pg.dirty)∧
  w.cell? ⟨b,o+i*9+5,none⟩=some (.int .i64 x.tenant)∧w.cell? ⟨b,o+i*9+6,none⟩=some (.int .i64 x.holds)∧w.cell? ⟨b,o+i*9+7,none⟩=some (.int .i64 x.reading)∧w.cell? ⟨b,o+i*9+8,none⟩=some (.int .i64 x.writing):=by
 obtain ⟨b,o,cap',r,hv,c1,c2,hb,hS,hp,hc⟩:=h.at_ hi;injection hv with e1 _ _
 have hp:r=x.row:=hp;subst hp;exact ⟨b,o,e1,hb,hc 0 _ rfl,hc 1 _ rfl,hc 2 _ rfl,hc 3 _ rfl,hc 4 _ rfl,hc 5 _ rfl,hc 6 _ rfl,hc 7 _ rfl,hc 8 _ rfl⟩
theorem FlA.cells {w:World} {S:Nat→Prop} {A:Option Addr} {n cap:Nat} {L:List Fl} (h:LA FlR w S (.slice A n cap) L) {i:Nat} {x:Fl} (hi:L[i]?=some x):∃b o t B ct,A=some ⟨b,o,none⟩∧b<w.heap.size∧leafy x.c∧TreeOk t x.c∧(cano t x.c).kids.length≤ct∧NK w S B (cano t x.c).kids∧
  ∀(j:Nat) (u:Value),(x.rowT t B ct)[j]?=some u→w.cell? ⟨b,o+i*15+j,none⟩=some u:=by
 obtain ⟨b,o,cap',r,hv,c1,c2,hb,hS,hp,hc⟩:=h.at_ hi;injection hv with e1 _ _
 obtain ⟨t,B,ct,h1,h2,h3,h4,rfl⟩:=hp;exact ⟨b,o,t,B,ct,e1,hb,h1,h2,h3,h4,hc⟩
def usedB (x:Fr):Bool:=x.file != -1
theorem used_w (C:Ck) (i:Nat) (x:Fr) (a b c d e f g:Value) (S:Nat→Prop) (w:World) (h:CkAt w S a b c d e f g C) (hi:C.frames[i]?=some x) (hl:C.frames.length≤100):Calls Tryz.prog 86 #[ckV a b c d e f g,.int .i64 ((i:Int)+1)] w (RetB (usedB x) w):=by
 obtain ⟨A,cap,rfl,q1,q2⟩:=h.frames.form;obtain ⟨bb,o,rfl,hbl,c0,_⟩:=FrA.cells h.frames hi;have hil:=(g_l hi);have HQ:=H_ (show usedB x=(x.file != -1) from rfl);have i0:(1:Int)≤(i:Int)+1:=by omega
 have i1:(i:Int)+1≤(C.frames.length:Int):=by omega
 have i2:i<C.frames.length:=hil;have i3:(i:Int)<(C.frames.length:Int):=by omega
 have i4:(i:Int)+1≤100:=by omega
 obtain ⟨fi,rest⟩:∃fi,fi=x.file:=⟨_,rfl⟩;rw [←rest] at c0 HQ;clear h hi rest;go_enter Tryz.func86,Tryz.ntmps86;go_wp2;go_ret;exact ⟨by rw [HQ.out];rfl,bl_alloc B_ _⟩
theorem getR_lk {h:Nat} {c:Cn} (ht:TreeOk h c) (i:Int):getR c i=(lkP (ents 0 (4 ^ h) c) i).1:=by
 have hp:4 ^ h≤256:=show 4 ^ h≤4 ^ 4 from Nat.pow_le_pow_right (by omega) ht.1;rw [lkP_ents ht.2.1];unfold getR inB
 by_cases h0:0≤i
 ·by_cases h1:i≤255
  ·simp [h0,h1]
  ·have:c i.toNat=(0,0):=ht.2.1 _ (by omega);simp [h0,h1,this]
 ·simp [h0]
theorem rGetC_w (h:Nat) (c:Cn) (A:Option Addr) (cap:Nat) (S:Nat→Prop) (i:Int) (w:World) (hl:leafy c) (ht:TreeOk h c) (hcap:(cano h c).kids.length≤cap) (hk:NK w S A (cano h c).kids) :
  Calls Tryz.prog 40 #[trV h A (cano h c).kids.length cap (cano h c).val (cano h c).marks,.int .i64 i] w (RetI (getR c i) w):=by
 have hE:Ents (trV h A (cano h c).kids.length cap (cano h c).val (cano h c).marks) (ents 0 (4 ^ h) c) w:=fun w' hb=>rEntries_w h c A cap S w' hl ht hcap (hk.step hb);rw [getR_lk ht];exact rGet_w _ _ _ _ _ _ _ w hE i
def fdV (v:Int):Value:=if v≤0 then .tuple #[.int .i64 0,.bool false] else .tuple #[.int .i64 v,.bool true]
def RetFd (v:Int) (w:World) (e:Ending) (w':World):Prop:=e = .returned (fdV v)∧Below w.heap.size w w'
theorem find_w40 (C:Ck) (i:Nat) (x:Fl) (p:Int) (a b c d e f g:Value) (S:Nat→Prop) (w:World) (h:CkAt w S a b c d e f g C) (hi:C.files[i]?=some x):Calls Tryz.prog 23 #[ckV a b c d e f g,.int .i64 i,.int .i64 p] w (RetFd (getR x.c p) w):=by
 have hil:=(g_l hi);have hhf:=fun w' (hb:Below w.heap.size w w')=>hasFile_w C i a b c d e f g S w' (h.step hb) hil;obtain ⟨A,cap,rfl,q1,q2⟩:=h.files.form;obtain ⟨bb,o,t,B,ct,rfl,hbl,k1,k2,k3,k4,hc⟩:=FlA.cells h.files hi;have hge:=fun w' (hb:Below w.heap.size w w')=>rGetC_w t x.c B ct S p w' k1 k2 k3 (k4.step hb);have y2:w.cell? ⟨bb,o+i*15+2,none⟩=some (.int .i64 t):=hc 2 _ rfl;have y3:=hc 3 _ rfl;have y4:w.cell? ⟨bb,o+i*15+4,none⟩=some (.int .i64 (cano t x.c).val):=hc 4 _ rfl;have y5:w.cell? ⟨bb,o+i*15+5,none⟩=some (.int .i64 (cano t x.c).marks):=hc 5 _ rfl;have HB:=H_ (fun X=>bl_alloc (Below.refl w.heap.size w) X);have i0:(0:Int)≤(i:Int):=by omega
 have i1:(i:Int)<(C.files.length:Int):=by omega
 generalize (cano t x.c).kids.length=kn at *;generalize (cano t x.c).val=kv at *;generalize (cano t x.c).marks=km at *;obtain ⟨gv,hgv⟩:∃gv,gv=getR x.c p:=⟨_,rfl⟩;rw [←hgv] at hge ⊢;clear hc h hi hgv k1 k2 k3 k4;have HX:=H_ (heap_alloc_at w (.cells #[.slice (some ⟨bb,o,none⟩) C.files.length cap,b,c,d,e,f,g] 30));go_enter Tryz.func23,Tryz.ntmps23
 go_upto_region 3 with (go_at_call 39;(with_reducible refine CM (hhf _ (by (repeat (with_reducible first | assumption | exact Below.refl _ _ | refine bl_alloc ?_ _ | apply Below.drew | refine below_drewN ?_ _ | (apply bl_step2;assumption) | (refine Below.setCell ?_ (Nat.le_refl _) _) | (refine Below.setCell ?_ (by first | omega | (simp;done) | (go_simp;done)) _))))) ?_);rintro e w1 ⟨rfl,hb1⟩)
 have HW1:=H_ (bl_step (HB.out _) hb1);have HX1:=bkh HX hb1;obtain ⟨x0,x1,x2,x3,x4,x5,x6⟩:=cs7 HX1.out;clear x1 x2 x3 x4 x5 x6;replace y2:=(cell_kept (HW1.out.block _ hbl)).trans y2;replace y3:=(cell_kept (HW1.out.block _ hbl)).trans y3;replace y4:=(cell_kept (HW1.out.block _ hbl)).trans y4;replace y5:=(cell_kept (HW1.out.block _ hbl)).trans y5;clear hb1
 by_cases hv:gv≤0
 ·have HQ:=H_ (show fdV gv = .tuple #[.int .i64 0,.bool false] from if_pos hv)
  go_wp2_with (go_at_call 40;(with_reducible refine CM (hge _ HW1.out) ?_);rintro e w2 ⟨rfl,hb2⟩;have HW2:=blh HW1 hb2;clear hb2)
  go_ret2
  exact ⟨by rw [HQ.out];rfl,HW2.out⟩
 ·have HQ:=H_ (show fdV gv = .tuple #[.int .i64 gv,.bool true] from if_neg hv)
  go_wp2_with (go_at_call 40;(with_reducible refine CM (hge _ HW1.out) ?_);rintro e w2 ⟨rfl,hb2⟩;have HW2:=blh HW1 hb2;clear hb2)
  go_ret2
  exact ⟨by rw [HQ.out];rfl,HW2.out⟩
def Fr.v (x:Fr):Value:= .agg #[.int .i64 x.file,.int .i64 x.page,.string x.pg.data,.int .i64 x.pg.valid,.int .i64 x.pg.dirty,.int .i64 x.tenant,.int .i64 x.holds,.int .i64 x.reading,.int .i64 x.writing]
def idleB (x:Fr):Bool:=decide (x.holds=0)&&(decide (x.reading=0)&&decide (x.writing=0))
theorem idle_w (x:Fr) (w:World):Calls Tryz.prog 95 #[x.v] w (RetB (idleB x) w):=by
 have HB:=H_ (fun X=>bl_alloc (Below.refl w.heap.size w) X);obtain ⟨fi,pa,⟨d,v,y⟩,t,hh,rr,ww⟩:=x;have HQ:=H_ (show idleB ⟨fi,pa,⟨d,v,y⟩,t,hh,rr,ww⟩=(decide (hh=0)&&(decide (rr=0)&&decide (ww=0))) from rfl)
 dsimp only [Fr.v]
 go_enter Tryz.func95,Tryz.ntmps95
 by_cases h1:hh=0
 ·by_cases h2:rr=0
  ·by_cases h3:ww=0
   all_goals
    go_wp2;go_ret
    exact ⟨by rw [HQ.out];simp [h1,h2,h3],HB.out _⟩
  ·go_wp2;go_ret
   exact ⟨by rw [HQ.out];simp [h1,h2],HB.out _⟩
 ·go_wp2;go_ret
  exact ⟨by rw [HQ.out];simp [h1],HB.out _⟩
end
section
def partI (pg off n:Int):Int × Int:=(max off (pg*16) - pg*16,min (off+n) ((pg+1)*16) - max off (pg*16))
theorem part_w (pg off n:Int) (w:World) (h1:0≤pg∧pg≤100) (h2:0≤off∧off≤1000) (h3:0≤n∧n≤1000):Calls Tryz.prog 125 #[.int .i64 pg,.int .i64 off,.int .i64 n] w (RetQ (.tuple #[.int .i64 (partI pg off n).1,.int .i64 (partI pg off n).2]) w):=by
 obtain ⟨a1,a2⟩:=h1;obtain ⟨b1,b2⟩:=h2;obtain ⟨c1,c2⟩:=h3;have HP:=H_ (show partI pg off n=(max off (pg*16) - pg*16,min (off+n) ((pg+1)*16) - max off (pg*16)) from rfl);go_enter Tryz.func125,Tryz.ntmps125
 by_cases h:off<pg*16
 ·by_cases h':off+n≤(pg+1)*16
  ·go_wp2
   go_ret2
   refine ⟨?_,rfl⟩;rw [HP.out,Int.max_eq_right (by omega),Int.min_eq_left (by omega),Int.sub_self]
   rfl
  ·go_wp2
   go_ret2
   refine ⟨?_,rfl⟩;rw [HP.out,Int.max_eq_right (by omega),Int.min_eq_right (by omega),Int.sub_self]
   rfl
 ·by_cases h':off+n≤(pg+1)*16
  ·go_wp2
   go_ret2
   refine ⟨?_,rfl⟩;rw [HP.out,Int.max_eq_left (by omega),Int.min_eq_left (by omega)]
   rfl
  ·go_wp2
   go_ret2
   refine ⟨?_,rfl⟩;rw [HP.out,Int.max_eq_left (by omega),Int.min_eq_right (by omega)]
   rfl
def pgL (a k:Nat):List Int:=(List.range k).map fun (j:Nat)=>(((a+j:Nat):Nat):Int)
theorem pgL_succ (a k:Nat):pgL a (k+1)=pgL a k ++ [(((a+k:Nat):Nat):Int)]:=by simp [pgL,List.range_succ]
theorem pgL_len (a k:Nat):(pgL a k).length=k:=by simp [pgL]
def pagesL (off n:Nat):List Int:=pgL (off / 16) ((off+n+15) / 16 - off / 16)
theorem pages_w (off n:Nat) (S:Nat→Prop) (w:World) (h1:1≤n) (h2:off+n≤128) (hS:∀b,w.heap.size≤b→S b):Calls Tryz.prog 84 #[.int .i64 off,.int .i64 n] w (RetIL (pagesL off n) S w):=by
 have hby:=fun w'=>cbytes_w (off:Int) (n:Int) w' (by omega) (by omega) (by omega) (by omega);have q1:¬((n:Int)<1):=by omega
 have q2:((off:Int):Int).tdiv 16=((off / 16:Nat):Int):=by rw [Int.tdiv_eq_ediv_of_nonneg (by omega)];rfl
 have q3:(off:Int) / 16=((off / 16:Nat):Int):=by rfl
 obtain ⟨a,ha,ha1,ha2⟩:∃a:Nat,off / 16=a∧a*16≤off∧off<a*16+16:=⟨off / 16,rfl,by omega,by omega⟩;have HP:=H_ (show pagesL off n=pgL a ((off+n+15) / 16 - a) by rw [←ha];rfl);rw [ha] at q2 q3;clear ha;go_enter Tryz.func84,Tryz.ntmps84
 go_upto_region 5 with (go_at_call 76;(with_reducible refine CM (hby _) ?_);rintro e w1 ⟨rfl,rfl⟩)
 clear q2 q3
 go_loopw [5,6] (fun u i wx=>∃k:Nat,i = .int .i64 ((a+k:Nat):Nat)∧k≤9∧(k=0∨(a+k)*16<off+n+16)∧LO IntR 3 wx w.heap.size S u (pgL a k)∧Below w.heap.size w wx) (fun _ i _=>100 - (intOf i).toNat)
 case atStart=>exact ⟨0,rfl,by omega,.inl rfl,LO.nil _ _ _ _ _,Below.refl _ _⟩
 case round=>
  obtain ⟨k,rfl,hk,hend,ho,hb⟩:=hrel;have HO:=H_ ho;have HB:=H_ hb;clear ho hb
  by_cases hlt:(a+k)*16<off+n
  ·have HX':=H_ (pgL_succ a k);obtain ⟨j,hj⟩:∃j:Nat,j=a+k:=⟨_,rfl⟩;rw [←hj] at HX' hlt ⊢;have hjk:=H_ hj;have j1:j≤8:=by omega
   have j2:((j:Int)*16)<(off:Int)+(n:Int):=by omega
   clear hj
   go_wp2_with (at_builtin;go_loud (refine wpList_push IntR int_el rfl (.tmp 25) (.tmp 27) rfl _ w.heap.size S (pgL a k) rfl (HO.out.alloc _) (by have:=HB.out.size;simp;omega) (by rw [pgL_len];omega) _ #[.int .i64 (j:Int)] rfl _ (heap_at_new _ _ _ rfl) (j:Int) rfl ?_);intro v4 w4 hown4 hg4 hat4)
   go_roundw
   case rel=>exact ⟨k+1,by have:=hjk.out;go_num,by have:=hjk.out;omega,by have:=hjk.out;omega,by rw [HX'.out];exact hown4,(bl_alloc HB.out _).grown hg4 (bl_alloc HB.out _).size (fun b hb=>(HO.out.own hb).1)⟩
   case measure=>simp [intOf];omega
  ·have HE:=H_ (show pagesL off n=pgL a k by rw [HP.out];congr 1;omega);obtain ⟨j,hj⟩:∃j:Nat,j=a+k:=⟨_,rfl⟩;rw [←hj] at hlt ⊢;have j2:¬((j:Int)*16)<(off:Int)+(n:Int):=by omega
   have j1:j≤20:=by omega
   clear hj;go_wp2;go_ret;exact ⟨_,rfl,by rw [HE.out];exact HO.out.la (fun _ _ h=>h) hS,HB.out⟩
end
section
def Fl.v (f:Fl) (h:Nat) (A:Option Addr) (cap:Nat):Value:= .agg (f.rowT h A cap).toArray
def holeB (f:Fl) (p:Nat):Bool:=bits .and .i64 f.blocks (wrap64 (2 ^ p)) == 0
theorem holeq_w (f:Fl) (h:Nat) (A:Option Addr) (cap:Nat) (p:Nat) (hp:p<8) (w:World):Calls Tryz.prog 74 #[f.v h A cap,.int .i64 p] w (RetB (holeB f p) w):=by
 have HB:=H_ (fun X=>bl_alloc (Below.refl w.heap.size w) X);have HQ:=H_ (show holeB f p=(bits .and .i64 f.blocks (wrap64 (2 ^ p)) == 0) from rfl);simp only [Fl.v,Fl.rowT,List.toArray];generalize f.blocks=bk at *;go_enter Tryz.func74,Tryz.ntmps74
 go_upto_region 1 with fail
 go_region
 go_wp2;go_ret
 exact ⟨by rw [HQ.out];rfl,(HB.out _).drew⟩
end
section
theorem one7 {k:Int} (hk:oneB k=true):mk7 k:=by
 have:k=1∨k=2∨k=4:=by simpa [oneB] using hk
 rcases this with rfl | rfl | rfl <;> exact ⟨by decide,by decide⟩
theorem notI_mk7 {a k:Int} (ha:mk7 a) (hk:mk7 k):mk7 (notI a k):=by
 obtain ⟨x,rfl⟩:=mk7_fin ha;obtain ⟨y,rfl⟩:=mk7_fin hk;have:∀x y:Fin 8,0≤notI (x.val:Int) (y.val:Int)∧notI (x.val:Int) (y.val:Int)≤7:=by decide
 exact this x y
theorem markR_leafy {c:Cn} (hl:leafy c) (i m:Int):leafy (markR c i m).1:=by
 unfold markR
 by_cases h:(frR c i m).2=0
 ·rw [if_pos h];obtain ⟨h1,h2,h3,_⟩:=fr_ok h;have h7:=orI_mk7 (leafV_mk7 (hl i.toNat)) (one7 h2);exact hl.upd (x:=((c i.toNat).1,orI (c i.toNat).2 m)) (.inr ⟨fun e=>by have e:(c i.toNat).1=0:=e;omega,h7.1,h7.2,.inl h3⟩) _
 ·rw [if_neg h];exact leafy_zero
theorem unmarkR_leafy {c:Cn} (hl:leafy c) (i m:Int):leafy (unmarkR c i m).1:=by
 unfold unmarkR
 by_cases h:(frR c i m).2=0
 ·rw [if_pos h];obtain ⟨h1,h2,h3,_⟩:=fr_ok h;have h7:=notI_mk7 (leafV_mk7 (hl i.toNat)) (one7 h2);exact hl.upd (x:=((c i.toNat).1,notI (c i.toNat).2 m)) (.inr ⟨fun e=>by have e:(c i.toNat).1=0:=e;omega,h7.1,h7.2,.inl h3⟩) _
 ·rw [if_neg h];exact leafy_zero
theorem setR_leafy {c:Cn} (hl:leafy c) (i v:Int):leafy (setR c i v).1:=by
 unfold setR
 cases inB i with
 | true=>
  refine hl.upd ?_ _
  by_cases hv:v=0
  ·exact .inl (by rw [hv])
  ·exact .inr ⟨hv,Int.le_refl _,by show (0:Int)≤7;decide,.inr rfl⟩
 | false=>exact leafy_zero
def markC (c:Cn) (pg:Int) (dirty writing:Bool):Cn:=
 let a:=if dirty then (markR c pg 1).1 else (unmarkR c pg 1).1
 if writing then (markR a pg 2).1 else (unmarkR a pg 2).1
theorem lt_eq {a b:Int} (h:0<a) (e:a=b):0<b:=e ▸ h
theorem frR_pos {c:Cn} {i m:Int} (hi:inB i=true) (hm:oneB m=true) (hv:0<(c i.toNat).1):(frR c i m).2=0:=by
 unfold frR;rw [if_pos hi,if_pos hm,if_neg (by omega)]
theorem markR_val {c:Cn} {i m:Int} (hi:inB i=true) (hm:oneB m=true) (hv:0<(c i.toNat).1) (j:Nat):((markR c i m).1 j).1=(c j).1:=by
 unfold markR;rw [if_pos (frR_pos hi hm hv)]
 show (upd c i.toNat _ j).1=_
 unfold upd
 split
 ·rename_i h;rw [h]
 ·rfl
theorem unmarkR_val {c:Cn} {i m:Int} (hi:inB i=true) (hm:oneB m=true) (hv:0<(c i.toNat).1) (j:Nat):((unmarkR c i m).1 j).1=(c j).1:=by
 unfold unmarkR;rw [if_pos (frR_pos hi hm hv)]
 show (upd c i.toNat _ j).1=_
 unfold upd
 split
 ·rename_i h;rw [h]
 ·rfl
theorem markC_val {c:Cn} {pg:Int} (hi:inB pg=true) (hv:0<(c pg.toNat).1) (d w:Bool) (j:Nat):((markC c pg d w) j).1=(c j).1:=by
 have m1:oneB 1=true:=rfl;have m2:oneB 2=true:=rfl
 cases d <;> cases w
 ·exact (unmarkR_val hi m2 (lt_eq hv (unmarkR_val hi m1 hv _).symm) j).trans (unmarkR_val hi m1 hv j)
 ·exact (markR_val hi m2 (lt_eq hv (unmarkR_val hi m1 hv _).symm) j).trans (unmarkR_val hi m1 hv j)
 ·exact (unmarkR_val hi m2 (lt_eq hv (markR_val hi m1 hv _).symm) j).trans (markR_val hi m1 hv j)
 ·exact (markR_val hi m2 (lt_eq hv (markR_val hi m1 hv _).symm) j).trans (markR_val hi m1 hv j)
theorem getR_markC {c:Cn} {pg:Int} (hi:inB pg=true) (hv:0<(c pg.toNat).1) (d w:Bool) (p:Int):getR (markC c pg d w) p=getR c p:=by
 unfold getR;rw [markC_val hi hv]
end
section
def treeCells (h:Nat) (A:Option Addr) (cap:Nat) (c:Cn):List Value:=[.int .i64 h,.slice A (cano h c).kids.length cap,.int .i64 (cano h c).val,.int .i64 (cano h c).marks]
theorem LW.tree {w:World} {S:Nat→Prop} {g:Nat} {L:List Fl} (h:LW FlR w S g L) {j:Nat} {y:Fl} (hj:L[j]?=some y) {h':Nat} {A':Option Addr} {cap':Nat} {c':Cn} (hl:leafy c') (ht:TreeOk h' c') (hc:(cano h' c').kids.length≤cap') (hk:NK w S A' (cano h' c').kids) :
  LW FlR (w.setCells g (j*15+2) (treeCells h' A' cap' c')) S g (L.set j {y with c:=c'}):=by
 refine LW.setPart h hj (by show 2+4≤15;omega) ?_ (fun r hr=>?_)
 ·intro u hu;simp only [treeCells,List.mem_cons,List.not_mem_nil,or_false] at hu
  rcases hu with rfl | rfl | rfl | rfl <;> rfl
 ·obtain ⟨t,B,ct,k1,k2,k3,k4,rfl⟩:=hr;exact ⟨h',A',cap',hl,ht,hc,hk,rfl⟩
theorem LW.frame {w:World} {S:Nat→Prop} {g:Nat} {L:List Fr} (h:LW FrR w S g L) {i:Nat} (hi:i<L.length) (x:Fr):LW FrR (w.setCells g (i*9) x.row) S g (L.set i x):=h.set hi rfl
theorem LW.frame_at {w:World} {S:Nat→Prop} {g:Nat} {L:List Fr} (h:LW FrR w S g L) {i:Nat} {x:Fr} (hi:L[i]?=some x):∀(j:Nat) (u:Value),x.row[j]?=some u→w.cell? ⟨g,i*9+j,none⟩=some u:=by
 obtain ⟨r,hr,hc⟩:=h.at_ hi;have hr:r=x.row:=hr;subst hr;exact hc
def markFs (L:List Fl) (j:Nat) (y:Fl) (x:Fr):List Fl:=L.set j {y with c:=markC y.c x.page (x.pg.dirty != 0) (x.writing != 0)}
theorem markFs_len (L:List Fl) (j:Nat) (y:Fl) (x:Fr):(markFs L j y x).length=L.length:=by simp [markFs]
end
section
theorem gb_setCells (w:World) (g o:Nat) (vs:List Value):w.grownBy (w.setCells g o vs) (some g):=by
 obtain ⟨h1,h2,h3,h4⟩:=setCells_same g vs o w;exact ⟨h1,h2,h3,by omega,fun k _ hk=>heap_setCells g vs o w k fun e=>hk (by rw [e])⟩
theorem gb_chain {w w5 w6:World} {g r:Nat} (h5:Below w.heap.size w w5) (h6:w5.grownBy w6 (some g)) (hr:w.heap.size≤r) (cs:Array Value):w.grownBy (w6.setRow r cs) (some g):=by
 have h7:=gb_setRow w6 r cs;refine ⟨(h7.os.trans h6.os).trans h5.os,(h7.tape.trans h6.tape).trans h5.tape,(h7.output.trans h6.output).trans h5.output,by have:=h5.size;have:=h6.size;have:=h7.size;omega,fun k hk hne=>?_⟩;rw [h7.block k (by have:=h5.size;have:=h6.size;omega) (by simp;omega),h6.block k (by have:=h5.size;omega) hne,h5.block k hk]
def RetMk (v:Value) (g:Nat) (S:Nat→Prop) (L:List Fl) (w:World) (en:Ending) (w':World):Prop:=en = .returned v∧LW FlR w' S g L∧w.grownBy w' (some g)
theorem LW.weak {α:Type} {k:Nat} {R:RR α k} {w:World} {S S':Nat→Prop} {g:Nat} {L:List α} (h:LW R w S g L) (hg:¬S' g) (hS:∀b,b<w.heap.size→S b→S' b):LW R w S' g L:=by
 obtain ⟨_,rows,h1,h2⟩:=h;exact ⟨hg,rows,h1,h2.imp fun a r h=>R.wk _ _ _ _ _ hS h⟩
def mkQ (q:Bool) (c:Cn) (p m:Int):Cn:=if q then (markR c p m).1 else (unmarkR c p m).1
theorem mkQ_leafy {c:Cn} (h:leafy c) (q:Bool) (p m:Int):leafy (mkQ q c p m):=by
 unfold mkQ
 cases q
 ·exact unmarkR_leafy h p m
 ·exact markR_leafy h p m
structure MkS (w:World) (S1:Nat→Prop) (oX oF':Obj) (C':Cn) (h1:Nat) (A1:Option Addr) (cap1:Nat) (W:World):Prop where
 x:W.heap[w.heap.size]?=some oX
 r:W.heap[w.heap.size+1]?=some (oCZ)
 f:W.heap[w.heap.size+1+1]?=some oF'
 t:W.heap[w.heap.size+1+1+1]?=some (.cells #[.int .i64 (h1:Int),.slice A1 (cano h1 C').kids.length cap1,.int .i64 (cano h1 C').val,.int .i64 (cano h1 C').marks] 72 (0,0))
 b:Below w.heap.size w W
 lf:leafy C'
 tr:TreeOk h1 C'
 cl:(cano h1 C').kids.length≤cap1
 nk:NK W S1 A1 (cano h1 C').kids
theorem MkS.put {w:World} {S1:Nat→Prop} {oX oF':Obj} {C0 C':Cn} {h0 h1:Nat} {A0 A1:Option Addr} {cap0 cap1:Nat} {W W1:World} (h:MkS w S1 oX oF' C0 h0 A0 cap0 W) (hb:Below W.heap.size W W1) (lf:leafy C') (tr:TreeOk h1 C') (cl:(cano h1 C').kids.length≤cap1) (nk:NK W1 S1 A1 (cano h1 C').kids) (hs:¬S1 (w.heap.size+1+1+1)) :
  MkS w S1 oX oF' C' h1 A1 cap1 (W1.setRow (w.heap.size+1+1+1) #[.int .i64 (h1:Int),.slice A1 (cano h1 C').kids.length cap1,.int .i64 (cano h1 C').val,.int .i64 (cano h1 C').marks]):=
 ⟨(setRow_other _ _ _ _ (by omega)).trans (bk_step h.x hb),(setRow_other _ _ _ _ (by omega)).trans (bk_step h.r hb),(setRow_other _ _ _ _ (by omega)).trans (bk_step h.f hb),setRow_heap _ _ _ _ _ _ (bk_step h.t hb),bl_setRow (bl_step h.b hb) (by omega) _,lf,tr,cl,
  nk.kept (by simp [World.setRow]) (fun z hz _=>setRow_other W1 _ z _ (fun e=>hs (e ▸ hz)))⟩
theorem cmark_w (L:List Fl) (Fs:List Fr) (i j:Nat) (x:Fr) (y:Fl) (g cap:Nat) (b:Value) (P3 P4 P5 P6 P7:Option Addr) (n3 r3 n4' r4 n5' r5 n6' r6 n7' r7:Nat) (S S':Nat→Prop) (w:World) (h:LW FlR w S g L) (hb:LA FrR w S' b Fs) (hx:Fs[i]?=some x) (hj:L[j]?=some y) (hxf:x.file=j)
  (hl:L.length≤100) (hl2:Fs.length≤100) (hcap:L.length≤cap) (hS:∀z,w.heap.size≤z→S z) :
  Calls Tryz.prog 131 #[ckV (.slice (some ⟨g,0,none⟩) L.length cap) b (.slice P3 n3 r3) (.slice P4 n4' r4) (.slice P5 n5' r5) (.slice P6 n6' r6) (.slice P7 n7' r7),.int .i64 ((i:Int)+1)] w (RetMk (ckV (.slice (some ⟨g,0,none⟩) L.length cap) b (.slice P3 n3 r3) (.slice P4 n4' r4) (.slice P5 n5' r5) (.slice P6 n6' r6) (.slice P7 n7' r7)) g S (markFs L j y x) w):=by
 have hgn:¬S g:=h.1;have hgs:=h.lt;obtain ⟨S1,hS1⟩:∃S1:Nat→Prop,S1=fun z=>S z∧z≠w.heap.size+1∧z≠w.heap.size+1+1+1:=⟨_,rfl⟩;have s1:∀z,S1 z→S z∧z≠w.heap.size+1∧z≠w.heap.size+1+1+1:=fun z hz=>by rw [hS1] at hz;exact hz
 have s2:∀z,w.heap.size+1+1+1<z→S1 z:=fun z hz=>by rw [hS1];exact ⟨hS z (by omega),by omega,by omega⟩
 replace h:LW FlR w S1 g L:=h.weak (fun hz=>hgn (s1 g hz).1) (fun z hz h=>by rw [hS1];exact ⟨h,by omega,by omega⟩);clear hS1;obtain ⟨A,c2,rfl,q1,q2⟩:=hb.form;obtain ⟨b1,o1,rfl,hb1,y0,y1,y2,y3,y4,y5,y6,y7,y8⟩:=FrA.cells hb hx;obtain ⟨r,⟨t,B,ct,k1,k2,k3,k4,rfl⟩,hc⟩:=h.at_ hj;have z2:w.cell? ⟨g,j*15+2,none⟩=some (.int .i64 t):=hc 2 _ rfl;have z3:=hc 3 _ rfl;have z4:w.cell? ⟨g,j*15+4,none⟩=some (.int .i64 (cano t y.c).val):=hc 4 _ rfl;have z5:w.cell? ⟨g,j*15+5,none⟩=some (.int .i64 (cano t y.c).marks):=hc 5 _ rfl;have hil:=(g_l hx);have hjl:=(g_l hj);have i2:(i:Int)<(Fs.length:Int):=by omega
 have j2:(j:Int)<(L.length:Int):=by omega
 obtain ⟨fi,pa,⟨dd,vv,yy⟩,tt,hh,rr,ww⟩:=x;have hxf:fi=(j:Int):=hxf;subst hxf;have HZ:(((w.alloc (.cells #[.slice (some ⟨g,0,none⟩) L.length cap,.slice (some ⟨b1,o1,none⟩) Fs.length c2,.slice P3 n3 r3,.slice P4 n4' r4,.slice P5 n5' r5,.slice P6 n6' r6,.slice P7 n7' r7] 30 (0,0))).alloc (oCZ)).alloc (.cells #[.int .i64 (j:Int),.int .i64 pa,.string dd,.int .i64 vv,.int .i64 yy,.int .i64 tt,.int .i64 hh,.int .i64 rr,.int .i64 ww] 55 (0,0))).heap.size=w.heap.size+1+1+1:=by simp
 have HW:=H_ (bl_alloc (bl_alloc (bl_alloc (Below.refl w.heap.size w) (.cells #[.slice (some ⟨g,0,none⟩) L.length cap,.slice (some ⟨b1,o1,none⟩) Fs.length c2,.slice P3 n3 r3,.slice P4 n4' r4,.slice P5 n5' r5,.slice P6 n6' r6,.slice P7 n7' r7] 30 (0,0))) (oCZ)) (.cells #[.int .i64 (j:Int),.int .i64 pa,.string dd,.int .i64 vv,.int .i64 yy,.int .i64 tt,.int .i64 hh,.int .i64 rr,.int .i64 ww] 55 (0,0)));have HX:=H_ (bk_alloc (bk_alloc (heap_alloc_at w (.cells #[.slice (some ⟨g,0,none⟩) L.length cap,.slice (some ⟨b1,o1,none⟩) Fs.length c2,.slice P3 n3 r3,.slice P4 n4' r4,.slice P5 n5' r5,.slice P6 n6' r6,.slice P7 n7' r7] 30 (0,0))) (oCZ)) (.cells #[.int .i64 (j:Int),.int .i64 pa,.string dd,.int .i64 vv,.int .i64 yy,.int .i64 tt,.int .i64 hh,.int .i64 rr,.int .i64 ww] 55 (0,0)));have HR:=H_ (bk_alloc (heap_at_new (w.alloc (.cells #[.slice (some ⟨g,0,none⟩) L.length cap,.slice (some ⟨b1,o1,none⟩) Fs.length c2,.slice P3 n3 r3,.slice P4 n4' r4,.slice P5 n5' r5,.slice P6 n6' r6,.slice P7 n7' r7] 30 (0,0))) (oCZ) (w.heap.size+1) (by simp)) (.cells #[.int .i64 (j:Int),.int .i64 pa,.string dd,.int .i64 vv,.int .i64 yy,.int .i64 tt,.int .i64 hh,.int .i64 rr,.int .i64 ww] 55 (0,0)));have HF:=H_ (heap_at_new ((w.alloc (.cells #[.slice (some ⟨g,0,none⟩) L.length cap,.slice (some ⟨b1,o1,none⟩) Fs.length c2,.slice P3 n3 r3,.slice P4 n4' r4,.slice P5 n5' r5,.slice P6 n6' r6,.slice P7 n7' r7] 30 (0,0))).alloc (oCZ)) (.cells #[.int .i64 (j:Int),.int .i64 pa,.string dd,.int .i64 vv,.int .i64 yy,.int .i64 tt,.int .i64 hh,.int .i64 rr,.int .i64 ww] 55 (0,0)) (w.heap.size+1+1) (by simp));go_enter Tryz.func131,Tryz.ntmps131
 go_upto_region 2 with fail
 generalize ((w.alloc _).alloc _).alloc (.cells #[.int .i64 (j:Int),.int .i64 pa,.string dd,.int .i64 vv,.int .i64 yy,.int .i64 tt,.int .i64 hh,.int .i64 rr,.int .i64 ww] 55 (0,0))=W at HX HR HF HW HZ;replace z2:=(cell_kept (HW.out.block _ hgs)).trans z2;replace z3:=(cell_kept (HW.out.block _ hgs)).trans z3;replace z4:=(cell_kept (HW.out.block _ hgs)).trans z4;replace z5:=(cell_kept (HW.out.block _ hgs)).trans z5;clear y0 y1 y2 y3 y4 y5 y6 y7 y8;obtain ⟨x0,x1,x2,x3,x4,x5,x6⟩:=cs7 HX.out;have f0:=cs1 HF.out
 go_upto_region 3 with fail
 have HM:=H_ (show MkS w S1 (.cells #[.slice (some ⟨g,0,none⟩) L.length cap,.slice (some ⟨b1,o1,none⟩) Fs.length c2,.slice P3 n3 r3,.slice P4 n4' r4,.slice P5 n5' r5,.slice P6 n6' r6,.slice P7 n7' r7] 30 (0,0)) (.cells #[.int .i64 (j:Int),.int .i64 pa,.string dd,.int .i64 vv,.int .i64 yy,.int .i64 tt,.int .i64 hh,.int .i64 rr,.int .i64 ww] 55 (0,0)) y.c t B ct (W.alloc (.cells #[.int .i64 (t:Int),.slice B (cano t y.c).kids.length ct,.int .i64 (cano t y.c).val,.int .i64 (cano t y.c).marks] 72)) from
  ⟨bk_alloc HX.out _,bk_alloc HR.out _,bk_alloc HF.out _,heap_at_new W (.cells #[.int .i64 (t:Int),.slice B (cano t y.c).kids.length ct,.int .i64 (cano t y.c).val,.int .i64 (cano t y.c).marks] 72) (w.heap.size+1+1+1) HZ,bl_alloc HW.out _,k1,k2,k3,k4.step (bl_alloc HW.out _)⟩)
 generalize W.alloc (.cells #[.int .i64 (t:Int),.slice B (cano t y.c).kids.length ct,.int .i64 (cano t y.c).val,.int .i64 (cano t y.c).marks] 72)=W2 at HM;clear x0 x1 x2 x3 x4 x5 x6 f0 z2 z3 z4 z5 HX HR HF HW HZ k1 k2 k3 k4 hc;have g4:=cells_at HM.out.f 4;simp only [List.getElem?_toArray,List.getElem?_cons_zero,List.getElem?_cons_succ] at g4
 go_upto_if 23 with fail
 obtain ⟨q1',hq1⟩:∃q,q=(yy != 0):=⟨_,rfl⟩;rw [←hq1];have HQ1:=H_ hq1;clear g4 hq1;obtain ⟨wc,hwc⟩:∃wc,wc=W2:=⟨_,rfl⟩;subst hwc
 go_cut [] (fun wx=>∃h1 A1 cap1,MkS w S1 (.cells #[.slice (some ⟨g,0,none⟩) L.length cap,.slice (some ⟨b1,o1,none⟩) Fs.length c2,.slice P3 n3 r3,.slice P4 n4' r4,.slice P5 n5' r5,.slice P6 n6' r6,.slice P7 n7' r7] 30 (0,0)) (.cells #[.int .i64 (j:Int),.int .i64 pa,.string dd,.int .i64 vv,.int .i64 yy,.int .i64 tt,.int .i64 hh,.int .i64 rr,.int .i64 ww] 55 (0,0)) (mkQ q1' y.c pa 1) h1 A1 cap1 wx)
 case first=>
  cases q1' with
  | true=>
   obtain ⟨u0,u1,u2,u3⟩:=cs4 HM.out.t;have g1:=cells_at HM.out.f 1;simp only [List.getElem?_toArray,List.getElem?_cons_zero,List.getElem?_cons_succ] at g1;have hlt:=bk_lt HM.out.t;have hmk:=rMark_w _ _ _ _ S1 pa 1 wc HM.out.lf HM.out.tr HM.out.cl HM.out.nk (fun z hz'=>s2 z (by omega))
   go_wp2_with (first
    | (go_at_call 161;(with_reducible refine CM hmk ?_);rintro e w1 ⟨h2,A2,cap2,rfl,t1,c1,n1,hb1⟩;have HT1:=H_ (bk_step HM.out.t hb1))
    | (refine wpList_store_rowTo rfl 72 (.tmp 6) (.tmp 29) rfl rfl (w.heap.size+1+1+1) _ rfl rfl 72 _ HT1.out tree_size rfl (tree_one _ _ _ _ _ _) ?_)
    | fail)
   go_meet
   case rel=>exact ⟨_,_,_,HM.out.put hb1 (markR_leafy HM.out.lf pa 1) t1 c1 n1 (fun h=>(s1 _ h).2.2 rfl)⟩
  | false=>
   obtain ⟨u0,u1,u2,u3⟩:=cs4 HM.out.t;have g1:=cells_at HM.out.f 1;simp only [List.getElem?_toArray,List.getElem?_cons_zero,List.getElem?_cons_succ] at g1;have hlt:=bk_lt HM.out.t;have hmk:=rUnmark_w _ _ _ _ S1 pa 1 wc HM.out.lf HM.out.tr HM.out.cl HM.out.nk (fun z hz'=>s2 z (by omega))
   go_wp2_with (first
    | (go_at_call 162;(with_reducible refine CM hmk ?_);rintro e w1 ⟨h2,A2,cap2,rfl,t1,c1,n1,hb1⟩;have HT1:=H_ (bk_step HM.out.t hb1))
    | (refine wpList_store_rowTo rfl 72 (.tmp 6) (.tmp 36) rfl rfl (w.heap.size+1+1+1) _ rfl rfl 72 _ HT1.out tree_size rfl (tree_one _ _ _ _ _ _) ?_)
    | fail)
   go_meet
   case rel=>exact ⟨_,_,_,HM.out.put hb1 (unmarkR_leafy HM.out.lf pa 1) t1 c1 n1 (fun h=>(s1 _ h).2.2 rfl)⟩
 case rest=>
  clear HM;obtain ⟨h1,A1,cap1,hm⟩:=hcut;have HM:=H_ hm;clear hm;obtain ⟨C3,hC3⟩:∃C3,C3=mkQ q1' y.c pa 1:=⟨_,rfl⟩;rw [←hC3] at HM;have HC3:=H_ hC3;clear hC3;have g8:=cells_at HM.out.f 8;simp only [List.getElem?_toArray,List.getElem?_cons_zero,List.getElem?_cons_succ] at g8
  go_upto_if 40 with fail
  obtain ⟨q2',hq2⟩:∃q,q=(ww != 0):=⟨_,rfl⟩;rw [←hq2];have HQ2:=H_ hq2;clear g8 hq2
  go_cut [] (fun wx=>∃h1 A1 cap1,MkS w S1 (.cells #[.slice (some ⟨g,0,none⟩) L.length cap,.slice (some ⟨b1,o1,none⟩) Fs.length c2,.slice P3 n3 r3,.slice P4 n4' r4,.slice P5 n5' r5,.slice P6 n6' r6,.slice P7 n7' r7] 30 (0,0)) (.cells #[.int .i64 (j:Int),.int .i64 pa,.string dd,.int .i64 vv,.int .i64 yy,.int .i64 tt,.int .i64 hh,.int .i64 rr,.int .i64 ww] 55 (0,0)) (mkQ q2' C3 pa 2) h1 A1 cap1 wx)
  case first=>
   cases q2' with
   | true=>
    obtain ⟨u0,u1,u2,u3⟩:=cs4 HM.out.t;have g1:=cells_at HM.out.f 1;simp only [List.getElem?_toArray,List.getElem?_cons_zero,List.getElem?_cons_succ] at g1;have hlt:=bk_lt HM.out.t;have hmk:=rMark_w _ _ _ _ S1 pa 2 wc HM.out.lf HM.out.tr HM.out.cl HM.out.nk (fun z hz'=>s2 z (by omega))
    go_wp2_with (first
     | (go_at_call 161;(with_reducible refine CM hmk ?_);rintro e w1 ⟨h2,A2,cap2,rfl,t1,c1,n1,hb1⟩;have HT1:=H_ (bk_step HM.out.t hb1))
     | (refine wpList_store_rowTo rfl 72 (.tmp 6) (.tmp 46) rfl rfl (w.heap.size+1+1+1) _ rfl rfl 72 _ HT1.out tree_size rfl (tree_one _ _ _ _ _ _) ?_)
     | fail)
    go_meet
    case rel=>exact ⟨_,_,_,HM.out.put hb1 (markR_leafy HM.out.lf pa 2) t1 c1 n1 (fun h=>(s1 _ h).2.2 rfl)⟩
   | false=>
    obtain ⟨u0,u1,u2,u3⟩:=cs4 HM.out.t;have g1:=cells_at HM.out.f 1;simp only [List.getElem?_toArray,List.getElem?_cons_zero,List.getElem?_cons_succ] at g1;have hlt:=bk_lt HM.out.t;have hmk:=rUnmark_w _ _ _ _ S1 pa 2 wc HM.out.lf HM.out.tr HM.out.cl HM.out.nk (fun z hz'=>s2 z (by omega))
    go_wp2_with (first
     | (go_at_call 162;(with_reducible refine CM hmk ?_);rintro e w1 ⟨h2,A2,cap2,rfl,t1,c1,n1,hb1⟩;have HT1:=H_ (bk_step HM.out.t hb1))
     | (refine wpList_store_rowTo rfl 72 (.tmp 6) (.tmp 53) rfl rfl (w.heap.size+1+1+1) _ rfl rfl 72 _ HT1.out tree_size rfl (tree_one _ _ _ _ _ _) ?_)
     | fail)
    go_meet
    case rel=>exact ⟨_,_,_,HM.out.put hb1 (unmarkR_leafy HM.out.lf pa 2) t1 c1 n1 (fun h=>(s1 _ h).2.2 rfl)⟩
  case rest=>
   clear HM;obtain ⟨h4,A4,cap4,hm⟩:=hcut;have HM:=H_ hm;clear hm;obtain ⟨C4,hC4⟩:∃C4,C4=mkQ q2' C3 pa 2:=⟨_,rfl⟩;rw [←hC4] at HM;have HC4:=H_ hC4;clear hC4;obtain ⟨W5,hW5⟩:∃W5,W5=wc:=⟨_,rfl⟩;subst hW5;have H5:=H_ (h.step HM.out.b);have HTh:=H_ (LW.there H5.out hjl (p:=2) (n:=4) (by omega));have g0:=cs1 HM.out.f;obtain ⟨u0,u1,u2,u3⟩:=cs4 HM.out.t;obtain ⟨x0,x1,x2,x3,x4,x5,x6⟩:=cs7 HM.out.x
   go_upto_region 10 with (first
    | (refine wpList_store_mid rfl 72 (.tmp 61) (.tmp 59) rfl g (j*15+2) #[.int .i64 (h4:Int),.slice A4 (cano h4 C4).kids.length cap4,.int .i64 (cano h4 C4).val,.int .i64 (cano h4 C4).marks] rfl rfl HTh.out tree_size (tree_one _ _ _ _ _ _) ?_)
    | fail)
   have LT:=H_ (LW.tree (L:=L) (h':=h4) (A':=A4) (cap':=cap4) H5.out hj HM.out.lf HM.out.tr HM.out.cl HM.out.nk);have HX6:=H_ ((heap_setCells g (treeCells h4 A4 cap4 C4) (j*15+2) W5 w.heap.size (by omega)).trans HM.out.x);have HR6:=H_ ((heap_setCells g (treeCells h4 A4 cap4 C4) (j*15+2) W5 (w.heap.size+1) (by omega)).trans HM.out.r);rw [show treeCells h4 A4 cap4 C4=[.int .i64 (h4:Int),.slice A4 (cano h4 C4).kids.length cap4,.int .i64 (cano h4 C4).val,.int .i64 (cano h4 C4).marks] from rfl] at LT HX6 HR6;have HG6:=H_ (gb_setCells W5 g (j*15+2) [.int .i64 (h4:Int),.slice A4 (cano h4 C4).kids.length cap4,.int .i64 (cano h4 C4).val,.int .i64 (cano h4 C4).marks]);generalize W5.setCells g (j*15+2) _=W6 at LT HX6 HR6 HG6;clear x0 x1 x2 x3 x4 x5 x6;obtain ⟨x0,x1,x2,x3,x4,x5,x6⟩:=cs7 HX6.out
   go_wp2_with (refine st_ck rfl (.tmp 4) (.tmp 62) rfl rfl (w.heap.size+1) rfl rfl HR6.out rfl ?_)
   show bodyPost Tryz.prog Tryz.f131 _ _ _ _
   refine bodyPost_ret (ck_res rfl _ _ (w.heap.size+1) _ _ _ _ _ _ _ _ _ rfl (setRow_heap _ _ _ _ _ _ HR6.out)) rfl ?_;have LT7:=LW.kept (w':=W6.setRow (w.heap.size+1) ((#[.slice (some ⟨g,0,none⟩) L.length cap,.slice (some ⟨b1,o1,none⟩) Fs.length c2,.slice P3 n3 r3,.slice P4 n4' r4,.slice P5 n5' r5,.slice P6 n6' r6,.slice P7 n7' r7]:Array Value))) LT.out ⟨by simp [World.setRow],fun z hz _=>setRow_other W6 (w.heap.size+1) z ((#[.slice (some ⟨g,0,none⟩) L.length cap,.slice (some ⟨b1,o1,none⟩) Fs.length c2,.slice P3 n3 r3,.slice P4 n4' r4,.slice P5 n5' r5,.slice P6 n6' r6,.slice P7 n7' r7]:Array Value)) (s1 z hz).2.1⟩ (setRow_other W6 (w.heap.size+1) g ((#[.slice (some ⟨g,0,none⟩) L.length cap,.slice (some ⟨b1,o1,none⟩) Fs.length c2,.slice P3 n3 r3,.slice P4 n4' r4,.slice P5 n5' r5,.slice P6 n6' r6,.slice P7 n7' r7]:Array Value)) (by omega));refine ⟨rfl,?_,gb_chain HM.out.b HG6.out (by omega) _⟩;have e:markFs L j y ⟨(j:Int),pa,⟨dd,vv,yy⟩,tt,hh,rr,ww⟩=L.set j {y with c:=C4}:=by
    rw [HC4.out,HC3.out,HQ1.out,HQ2.out];simp only [markFs,markC,mkQ]
   rw [e];exact LW.weak LT7 hgn (fun z _ h=>(s1 z h).1)
end
end Go.Proofs.YthhekebemmckcaaGreatDoor
