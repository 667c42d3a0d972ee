/-
  Lemmas and contracts for the laws of synchronisations (layer 43), part 27; several texts joined by a program.
-/
import Derived.Test.YthhekebemmckcaaGreatDoorJ01
import Derived.Test.YthhekebemmckcaaGreatDoorJ02
import Derived.Test.YthhekebemmckcaaGreatDoorJ16
import Derived.Test.YthhekebemmckcaaGreatDoorJ25
import Derived.Test.YthhekebemmckcaaGreatDoorJ26
namespace Go.Proofs.YthhekebemmckcaaGreatDoor
set_option linter.unusedVariables false
set_option linter.unusedSimpArgs false
set_option maxRecDepth 100000
set_option maxHeartbeats 16000000
open Go.RowKit
section
def RetDk (w:World) (e:Ending) (w':World):Prop:=∃s:ByteArray,s.size=16∧e = .returned (.string s)∧Below w.heap.size w w'
theorem disk_w (f p:Int) (w:World) (h1:0≤f∧f≤100) (h2:0≤p∧p≤100) :
  Calls Tryz.prog 52 #[.int .i64 f,.int .i64 p] w (RetDk w):=by
 obtain ⟨i0,hi,hz0,hz1,hz2⟩:=info_parts u8_info;obtain ⟨f0,f1⟩:=h1;obtain ⟨p0,p1⟩:=h2;go_enter Tryz.func52,Tryz.ntmps52
 go_upto_region 2 with (first
  | (refine wpList_make_full w rfl (.const (.int .i64 16)) (.const (.int .i64 16)) 141 rfl w.heap.size 5 i0 (.int .u8 0) 1 Tryz.underlying141 hi hz0 hz1 .i64 .i64 16 16 16 rfl rfl rfl rfl (by rw [hz2];omega) (by unfold maxLen;omega) (Nat.le_refl _) ?_;intro w4 hown4 hg4))
 obtain ⟨B,hB⟩:∃B,B=w.heap.size:=⟨_,rfl⟩;have HV:=H_ (mk_bytes hown4 (by omega));have HW:=H_ (show Below w.heap.size w w4 from B_.grown hg4 (Nat.le_refl _) (fun b hb=>by cases hb));clear hown4 hg4 hi hz0 hz1 hz2;rw [←hB] at HV ⊢;have hBB:w.heap.size≤B:=by omega
 clear hB;go_wp2
 go_loopw [6,10] (fun s6 s10 wx=>∃(k:Nat) (L:List UInt8),s10 = .int .i64 k∧k≤16∧L.length=16∧LW U8R wx (fun _=>False) B L∧Below w.heap.size w wx) (fun _ s10 _=>16 - (intOf s10).toNat)
 case atStart=>exact ⟨0,_,rfl,by omega,List.length_replicate,HV.out,HW.out⟩
 case round=>
  clear HV HW;obtain ⟨k,L,rfl,hk,hL,hw,hb⟩:=hrel;have HV:=H_ hw;have HW:=H_ hb;have HL:=H_ hL
  by_cases hlt:k<16
  ·have fz:=(hw.slot (i:=k) (p:=0) (by omega) (by omega)).2;obtain ⟨c0,hc0⟩:=(hw.slot (i:=k) (p:=0) (by omega) (by omega)).1;rw [Nat.mul_one,Nat.add_zero] at fz hc0;clear hw hb hL;obtain ⟨m,hm,m0,m1⟩:∃m:Int,(f*7+p*3+(k:Int)).tmod 26=m∧0≤m∧m<26:=⟨_,rfl,by rw [Int.tmod_eq_emod_of_nonneg (by omega)];omega,by rw [Int.tmod_eq_emod_of_nonneg (by omega)];omega⟩;go_wp2;go_roundw
   case rel=>
    rw [show 65+m=((UInt8.ofNat (65+m.toNat)).toNat:Int) by simp [UInt8.toNat_ofNat];omega];exact ⟨k+1,_,by go_num,by omega,by rw [List.length_set];exact HL.out,u8_set HV.out HL.out hlt _,bl_set HW.out ⟨B,k,none⟩ _ hBB⟩
   case measure=>simp [intOf];omega
  ·obtain rfl:k=16:=by omega
   have hcv:=u8_conv (cap:=16) HV.out HL.out;clear hw hb hL;go_wp2;go_ret;exact ⟨_,by simpa [ByteArray.size] using HL.out,rfl,HW.out⟩
def FmP (C:Ck) (n:Int):Prop:=n=0∨∃(i:Nat) (x:Fr),n=(i:Int)+1∧C.frames[i]?=some x∧x.file≠-1
def RetFm (C:Ck) (W:World) (b:Nat) (w:World) (e:Ending) (w':World):Prop:=∃n,FmP C n∧e = .returned (.int .i64 n)∧Tp W b w'∧w.grownBy w' (some b)
theorem frame_t (C:Ck) (a b c d e f g:Value) (S:Nat→Prop) (W w:World) (bt:Nat) (h:CkAt w S a b c d e f g C) (hl:C.frames.length≤100) (hT:Tp W bt w) :
  Calls Tryz.prog 47 #[.pointer (some ⟨bt,0,none⟩),ckV a b c d e f g] w (RetFm C W bt w):=by
 have hbw:=hT.lt;obtain ⟨A1,m1,c1,rfl⟩:=h.files.cap;obtain ⟨A2,c2,rfl,_,_⟩:=h.frames.form;obtain ⟨A3,m3,c3,A4,m4,c4,A5,m5,c5,A6,m6,c6,A7,m7,c7,rfl,rfl,rfl,rfl,rfl⟩:=CkAt.caps5 h;have HF:=H_ h.frames;have HT:=H_ hT;have HX:=H_ (heap_alloc_at w (.cells #[.slice A1 m1 c1,.slice A2 C.frames.length c2,.slice A3 m3 c3,.slice A4 m4 c4,.slice A5 m5 c5,.slice A6 m6 c6,.slice A7 m7 c7] 30));have HW:=H_ (bl_alloc (Below.refl w.heap.size w) (.cells #[.slice A1 m1 c1,.slice A2 C.frames.length c2,.slice A3 m3 c3,.slice A4 m4 c4,.slice A5 m5 c5,.slice A6 m6 c6,.slice A7 m7 c7] 30));clear h hT;go_enter Tryz.func47,Tryz.ntmps47
 go_upto_region 1 with fail
 generalize w.alloc (.cells #[.slice A1 m1 c1,.slice A2 C.frames.length c2,.slice A3 m3 c3,.slice A4 m4 c4,.slice A5 m5 c5,.slice A6 m6 c6,.slice A7 m7 c7] 30)=W1 at HX HW;go_wp2
 go_loopw [5,6] (fun s5 s6 wx=>∃(k:Nat) (L:List Int),s6 = .int .i64 ((k:Int)+1)∧k≤C.frames.length∧L.length≤k∧(∀z ∈ L,FmP C z)∧LO IntR 3 wx (w.heap.size+1) (fun z=>w.heap.size+1≤z) s5 L∧Below w.heap.size w wx∧wx.heap[w.heap.size]?=some (.cells #[.slice A1 m1 c1,.slice A2 C.frames.length c2,.slice A3 m3 c3,.slice A4 m4 c4,.slice A5 m5 c5,.slice A6 m6 c6,.slice A7 m7 c7] 30 (0,0))) (fun _ s6 _=>200 - (intOf s6).toNat)
 case atStart=>exact ⟨0,[],by first | rfl | simp,by omega,by simp,(fun z hz=>by cases hz),LO.nil _ _ _ _ _,HW.out,HX.out⟩
 case round=>
  clear HX HW;obtain ⟨k,L,rfl,hk,hLk,hL,ho,hb,hX⟩:=hrel;have HL:=H_ hL;have HO:=H_ ho;have HW:=H_ hb;have HX:=H_ hX;have x1:=cells_at hX 1;simp only [List.getElem?_toArray,List.getElem?_cons_zero,List.getElem?_cons_succ] at x1
  by_cases hlt:k<C.frames.length
  ·obtain ⟨x,hx⟩:∃x,C.frames[k]?=some x:=⟨_,List.getElem?_eq_getElem hlt⟩;obtain ⟨bb,o,rfl,hbl,y0,_⟩:=FrA.cells HF.out hx;replace y0:=(cell_kept (HW.out.block _ hbl)).trans y0;have HXX:=H_ hx;have k1:(k:Int)<(C.frames.length:Int):=by omega
   clear hL ho hb hX hx
   by_cases hfi:x.file=-1
   ·have d1:(x.file != -1)=false:=by simp [hfi]
    clear hfi;go_wp2;go_roundw
    case rel=>exact ⟨k+1,L,by go_num,by omega,by omega,HL.out,HO.out,HW.out,HX.out⟩
    case measure=>simp [intOf];omega
   ·have d1:(x.file != -1)=true:=bne_iff_ne.2 hfi;have HFI:=H_ hfi;clear hfi
    go_wp2_with (at_builtin;go_loud (refine wpList_push IntR int_el rfl (.tmp 22) (.tmp 24) rfl _ (w.heap.size+1) (fun z=>w.heap.size+1≤z) L rfl (HO.out.alloc _) (by have:=bk_lt HX.out;simp;omega) (by omega) _ #[.int .i64 ((k:Int)+1)] rfl _ (heap_at_new _ _ _ rfl) ((k:Int)+1) rfl ?_);intro v4 w4 hown4 hg4 hat4)
    go_roundw
    case rel=>
     have hne:∀z,u5.ownBlock=some z→w.heap.size+1≤z:=fun z hz=>(HO.out.own hz).1;refine ⟨k+1,_,by go_num,by omega,by simp;omega,fun z hz=>?_,hown4,(bl_alloc HW.out _).grown hg4 (bl_alloc HW.out _).size (fun b hb=>by have:=hne b hb;omega),?_⟩
     ·rcases List.mem_append.1 hz with hz | hz
      ·exact HL.out z hz
      ·obtain rfl:z=(k:Int)+1:=by simpa using hz
       exact .inr ⟨k,x,rfl,HXX.out,HFI.out⟩
     ·exact (hg4.block _ (by simp;have:=bk_lt HX.out;omega) (fun e=>by have:=hne _ e.symm;omega)).trans (bk_alloc HX.out _)
    case measure=>simp [intOf];omega
  ·obtain rfl:k=C.frames.length:=by omega
   have hTr:=H_ (HT.out.step HW.out);have HGB:=H_ (gb_of_below HW.out (some bt));clear hL ho hb hX
   cases L with
   | nil=>
    obtain ⟨A,cap,rfl,q1,q2⟩:=(HO.out.la (S':=Any) (fun _ _ _=>trivial) (fun _ _=>trivial)).form;go_wp2;go_ret;exact ⟨0,.inl rfl,rfl,hTr.out,HGB.out⟩
   | cons z l=>
    obtain ⟨ll,hll⟩:∃ll:Nat,ll=(z :: l).length:=⟨_,rfl⟩;have hl1:1≤ll:=by rw [hll];simp
    have hl2:ll≤100:=by rw [hll];omega
    have HLA:=H_ (HO.out.la (S':=fun z=>w.heap.size+1≤z) (fun _ _ h=>h) (fun _ h=>h));obtain ⟨A,cap,rfl,q1,q2⟩:=HLA.out.form;rw [←hll] at hLk;generalize hLL:z :: l=LL at HL HO HLA hll;clear q1 q2 hLL;rw [←hll] at HLA ⊢;have HLL:=H_ hll;clear hll
    go_wp2_with (go_at_call 7;refine (next_t _ W _ _ (by omega) (by omega) hTr.out).mono ?_;go_loud (rintro e w1 ⟨y,rfl,h0,h1,hT1,hg1⟩;obtain ⟨q,rfl⟩:=Int.eq_ofNat_of_zero_le h0;obtain ⟨zz,hzz⟩:∃zz,LL[q]?=some zz:=⟨_,List.getElem?_eq_getElem (by have:=HLL.out;omega)⟩;have HZ:=H_ (HL.out zz (List.mem_of_getElem? hzz));obtain ⟨b',o',cap',ev,_,_,hb',hS',hcell⟩:=IL.cell HLA.out hzz;rw [←HLL.out] at ev;injection ev with ev1 ev2 ev3;subst ev1;clear ev3 hzz;replace hcell:=(cell_kept (hg1.block b' hb' (by simp;omega))).trans hcell))
    go_ret;exact ⟨zz,HZ.out,rfl,hT1,grownBy_trans HGB.out hg1⟩
end
section
theorem ks_gb {w w':World} {S:Nat→Prop} {b:Nat} (hg:w.grownBy w' (some b)) (hS:¬S b):KeepS S w w':=
 ⟨hg.size,fun z hz hl=>hg.block z hl (fun e=>by injection e with e;exact hS (e ▸ hz))⟩
theorem gb_row {w wx:World} {bt R:Nat} (h2:w.grownBy wx (some bt)) (h3:w.heap.size≤R) (cs:Array Value):w.grownBy (wx.setRow R cs) (some bt):=by
 have hs:=gb_setRow wx R cs;exact ⟨hs.os.trans h2.os,hs.tape.trans h2.tape,hs.output.trans h2.output,Nat.le_trans h2.size hs.size,fun k hk hn=>(hs.block k (Nat.lt_of_lt_of_le hk h2.size) (by simp;omega)).trans (h2.block k hk hn)⟩
def Sx (S:Nat→Prop) (X R:Nat) (K:Option Nat) (z:Nat):Prop:=S z∧z≠X∧z≠R∧K≠some z
structure PC (F G Z:Nat) (S:Nat→Prop) (W w Wk:World) (bt X R:Nat) (K:Option Nat) (a b c d e f g:Value) (C:Ck) (wx:World):Prop where
 inv:Inv F G Z C
 at_:CkAt wx (Sx S X R K) a b c d e f g C
 box:wx.heap[X]?=some (.cells #[a,b,c,d,e,f,g] 30 (0,0))
 res:wx.heap[R]?=some (oCZ)
 tp:Tp W bt wx
 gb:w.grownBy wx (some bt)
 kk:∀z,K=some z→z<wx.heap.size∧z≠bt∧z≠X∧wx.heap[z]?=Wk.heap[z]?
 xw:w.heap.size≤X
 rw_:w.heap.size≤R
 bw:bt<w.heap.size
 xr:X≠R
 nS:¬S bt
 fS:∀z,w.heap.size≤z→S z
def PCs (F G Z:Nat) (S:Nat→Prop) (W w Wk:World) (bt X R:Nat) (K:Option Nat) (wx:World):Prop:=∃a b c d e f g C,PC F G Z S W w Wk bt X R K a b c d e f g C wx
section
variable {F G Z:Nat} {S:Nat→Prop} {W w Wk wx wy:World} {bt X R:Nat} {K:Option Nat} {a b c d e f g a' b' c' d' e' f' g':Value} {C C':Ck}
theorem PC.nb (h:PC F G Z S W w Wk bt X R K a b c d e f g C wx):X≠bt∧R≠bt:=⟨by have:=h.xw;have:=h.bw;omega,by have:=h.rw_;have:=h.bw;omega⟩
theorem PC.keep (h:PC F G Z S W w Wk bt X R K a b c d e f g C wx) (hg:wx.grownBy wy (some bt)) (hT:Tp W bt wy):PC F G Z S W w Wk bt X R K a b c d e f g C wy where
 inv:=h.inv
 at_:=h.at_.kept (ks_gb hg (fun hz=>h.nS hz.1))
 box:=gb_block hg h.nb.1 h.box
 res:=gb_block hg h.nb.2 h.res
 tp:=hT
 gb:=grownBy_trans h.gb hg
 kk:=fun z hz=>by
  obtain ⟨k1,k2,k3,k4⟩:=h.kk z hz;exact ⟨Nat.lt_of_lt_of_le k1 hg.size,k2,k3,(hg.block z k1 (by simpa using k2)).trans k4⟩
 xw:=h.xw
 rw_:=h.rw_
 bw:=h.bw
 xr:=h.xr
 nS:=h.nS
 fS:=h.fS
theorem PC.step (h:PC F G Z S W w Wk bt X R K a b c d e f g C wx) (hb:Below wx.heap.size wx wy):PC F G Z S W w Wk bt X R K a b c d e f g C wy:=h.keep (gb_of_below hb _) (h.tp.step hb)
theorem PC.fresh (h:PC F G Z S W w Wk bt X R K a b c d e f g C wx):∀z,wx.heap.size≤z→Sx S X R K z:=fun z hz=>
 ⟨h.fS z (by have:=h.gb.size;omega),by have:=bk_lt h.box;omega,by have:=bk_lt h.res;omega,fun hk=>by have:=(h.kk z hk).1;omega⟩
theorem PC.store (h:PC F G Z S W w Wk bt X R K a b c d e f g C wx) (hI:Inv F G Z C') (hc:CkAt wx (Sx S X R K) a' b' c' d' e' f' g' C'):PC F G Z S W w Wk bt X R K a' b' c' d' e' f' g' C' (wx.setRow X #[a',b',c',d',e',f',g']) where
 inv:=hI
 at_:=hc.kept (KeepS.of_setRow wx X _ (fun hz=>hz.2.1 rfl))
 box:=setRow_heap _ _ _ _ _ _ h.box
 res:=(setRow_other _ _ _ _ (fun e=>h.xr e.symm)).trans h.res
 tp:=h.tp.gb (gb_setRow _ _ _) (by have:=h.xw;have:=h.bw;omega)
 gb:=gb_row h.gb h.xw _
 kk:=fun z hz=>by
  obtain ⟨k1,k2,k3,k4⟩:=h.kk z hz;exact ⟨by simpa [World.setRow] using k1,k2,k3,(setRow_other _ _ _ _ k3).trans k4⟩
 xw:=h.xw
 rw_:=h.rw_
 bw:=h.bw
 xr:=h.xr
 nS:=h.nS
 fS:=h.fS
theorem PC.start (h:CkAt w S a b c d e f g C) (hI:Inv F G Z C) (hT:Tp W bt w) (hX:X=w.heap.size) (hn:¬S bt) (hS:∀z,w.heap.size≤z→S z) :
  PC F G Z S W w w bt X (X+1) none a b c d e f g C ((w.alloc (.cells #[a,b,c,d,e,f,g] 30)).alloc (oCZ)) where
 inv:=hI
 at_:=(h.weak (fun z hz h=>⟨h,by omega,by omega,fun e=>by cases e⟩)).step (bl_alloc (bl_alloc B_ _) _)
 box:=bk_alloc (heap_at_new w _ X hX.symm) _
 res:=heap_at_new (w.alloc _) _ (X+1) (by simp [hX])
 tp:=(hT.alloc _).alloc _
 gb:=gb_of_below (bl_alloc (bl_alloc B_ _) _) _
 kk:=fun z hz=>by cases hz
 xw:=by omega
 rw_:=by omega
 bw:=hT.lt
 xr:=by omega
 nS:=hn
 fS:=hS
theorem PC.own (h:PC F G Z S W w Wk bt X R none a b c d e f g C wx) (hB:Below wx.heap.size wx wy) (hk:∀z,K=some z→wx.heap.size≤z∧z<wy.heap.size):PC F G Z S W w wy bt X R K a b c d e f g C wy:=
 let h':=h.step hB
 {h' with at_:=(h.at_.weak (S':=Sx S X R K) (fun z hz h=>⟨h.1,h.2.1,h.2.2.1,fun e=>by have:=(hk z e).1;omega⟩)).step hB,kk:=fun z hz=>⟨(hk z hz).2,by have:=(hk z hz).1;have:=h.tp.lt;omega,by have:=(hk z hz).1;have:=bk_lt h.box;omega,rfl⟩}
theorem PC.done (h:PC F G Z S W w Wk bt X R K a b c d e f g C wx):CkAt (wx.setRow R #[a,b,c,d,e,f,g]) S a b c d e f g C∧Tp W bt (wx.setRow R #[a,b,c,d,e,f,g])∧w.grownBy (wx.setRow R #[a,b,c,d,e,f,g]) (some bt):=
 ⟨(h.at_.kept (KeepS.of_setRow wx R _ (fun hz=>hz.2.2.1 rfl))).weak (fun z _ hz=>hz.1),h.tp.gb (gb_setRow _ _ _) (by have:=h.rw_;have:=h.bw;omega),gb_row h.gb h.rw_ _⟩
def CP (F G Z:Nat) (S:Nat→Prop) (W w Wk wx:World) (bt X R:Nat) (K:Option Nat) (a b c d e f g:Value) (C:Ck):Bool→World→Prop
 | false,x=>PC F G Z S W w Wk bt X R K a b c d e f g C x∧wx.grownBy x (some bt)
 | true,x=>PCs F G Z S W w Wk bt X R K x
theorem wp_region_pc {id:Nat} {Q:Exit→Act→World→Prop} {A:Act} {l:List Oper} (m s:Nat) (pl:Nat→Bool) (ls:List (SK (Sx S X R K)))
  (hm:Tryz.prog.follows .mixedOrders=true) (hB:relBA l.toArray m s pl=true) (hs:A.tmps.size=m) (hs0:∀w,GK ls s undef w) (hP:PC F G Z S W w Wk bt X R K a b c d e f g C wx)
  (h:relWalkA Tryz.prog l.toArray (CP F G Z S W w Wk wx bt X R K a b c d e f g C) (KeepS (Sx S X R K)) (GK ls) s pl (fun a'=>∀w',PCs F G Z S W w Wk bt X R K w'→(∀j,j<l.toArray.size→GK ls j (atOp l.toArray a' j) w')→wpList Tryz.prog l.toArray Q [] a' w') 0 l A):(Code.region id l.toArray true).wp Tryz.prog Q A wx:=
 wp_region_relA m s pl (CP F G Z S W w Wk wx bt X R K a b c d e f g C) (KeepS (Sx S X R K)) (GK ls) hm hB hs ⟨hP.step (B_.drew),grownBy_drewN wx 1 _⟩ (fun x y hr=>GK.keep hr) hs0 h
end
def RetSt (F G Z:Nat) (S:Nat→Prop) (W:World) (bt:Nat) (w:World) (en:Ending) (w':World):Prop:=∃C' a b c d e f g,Inv F G Z C'∧en = .returned (ckV a b c d e f g)∧CkAt w' S a b c d e f g C'∧Tp W bt w'∧w.grownBy w' (some bt)
def SK.nat {S:Nat→Prop} (n:Nat):SK S:=⟨fun v _=>∃k:Nat,v = .int .i64 (k:Int)∧k<n,fun _ _ _ _ h=>h⟩
def SK.ir {S:Nat→Prop} (lo hi:Int):SK S:=⟨fun v _=>∃k:Int,v = .int .i64 k∧lo≤k∧k≤hi,fun _ _ _ _ h=>h⟩
def SK.bl {S:Nat→Prop}:SK S:=⟨fun v _=>∃k:Bool,v = .bool k,fun _ _ _ _ h=>h⟩
def SK.s16 {S:Nat→Prop}:SK S:=⟨fun v _=>∃s:ByteArray,v = .string s∧s.size=16,fun _ _ _ _ h=>h⟩
def SK.ck1 (F G Z:Nat) {S:Nat→Prop}:SK S:=⟨fun v w=>∃C a b c d e f g,v=ckV a b c d e f g∧Inv F G Z C∧CkAt w S a b c d e f g C,fun _ _ _ hk ⟨C,a,b,c,d,e,f,g,h1,h2,h3⟩=>⟨C,a,b,c,d,e,f,g,h1,h2,h3.kept hk⟩⟩
def SK.ck2 (F G Z:Nat) {S:Nat→Prop}:SK S:=⟨fun v w=>∃C a b c d e f g er,v = .tuple #[ckV a b c d e f g,.int .i64 er]∧Inv F G Z C∧CkAt w S a b c d e f g C,fun _ _ _ hk ⟨C,a,b,c,d,e,f,g,er,h1,h2,h3⟩=>⟨C,a,b,c,d,e,f,g,er,h1,h2,h3.kept hk⟩⟩
def SK.ck3 (F G Z:Nat) {S:Nat→Prop}:SK S:=⟨fun v w=>∃C a b c d e f g u er,v = .tuple #[ckV a b c d e f g,.int .i64 u,.int .i64 er]∧Inv F G Z C∧CkAt w S a b c d e f g C,fun _ _ _ hk ⟨C,a,b,c,d,e,f,g,u,er,h1,h2,h3⟩=>⟨C,a,b,c,d,e,f,g,u,er,h1,h2,h3.kept hk⟩⟩
def SK.row {S:Nat→Prop} (p:Int→Prop) (n:Nat):SK S:=⟨fun v w=>∃(gg:Nat) (t:TypeId) (l:List Int),v = .slice (some ⟨gg,0,none⟩) n n∧l.length=n∧(∀y ∈ l,p y)∧S gg∧gg<w.heap.size∧w.heap[gg]?=some (.cells (l.map (Value.int .i64)).toArray t (0,0)),fun _ _ _ hk ⟨gg,t,l,h1,h2,h3,h4,h5,h6⟩=>⟨gg,t,l,h1,h2,h3,h4,Nat.lt_of_lt_of_le h5 hk.1,(hk.2 gg h4 h5).trans h6⟩⟩
def SK.rat {S:Nat→Prop} (p:Int→Prop):SK S:=⟨fun v w=>∃(gg i:Nat) (y:Int),v = .pointer (some ⟨gg,i,none⟩)∧p y∧S gg∧gg<w.heap.size∧w.cell? ⟨gg,i,none⟩=some (.int .i64 y),fun _ _ _ hk ⟨gg,i,y,h1,h2,h4,h5,h6⟩=>⟨gg,i,y,h1,h2,h4,Nat.lt_of_lt_of_le h5 hk.1,(cell_kept (hk.2 gg h4 h5)).trans h6⟩⟩
theorem rowc {w:World} {g i:Nat} {l:List Int} {t:TypeId} (h:w.heap[g]?=some (.cells (l.map (Value.int .i64)).toArray t (0,0))) (hi:i<l.length):w.cell? ⟨g,i,none⟩=some (.int .i64 l[i]):=by
 rw [cells_at h];simp [hi]
theorem bytes_i (z:Int) (W w:World) (b:Nat) (h1:1≤z) (h2:z≤1000) (hT:Tp W b w) :
  Calls Tryz.prog 45 #[.pointer (some ⟨b,0,none⟩),.int .i64 z] w (RetBs z.toNat W b w):=by
 obtain ⟨n,rfl⟩:=Int.eq_ofNat_of_zero_le (by omega:0≤z);exact bytes_t n W w b (by omega) (by omega) hT
end
section
variable {τ:Type} {S:Nat→Prop}
abbrev GH (τ:Type):=Option Nat × Option τ
def KG (S:Nat→Prop) (g:GH τ) (w:World) (g':GH τ) (w':World):Prop:=
 w.heap.size≤w'.heap.size∧(∀z,S z→g'.1≠some z→z<w.heap.size→w'.heap[z]?=w.heap[z]?)∧(g'.1=g.1∨g.1=none∧∀z,g'.1=some z→w.heap.size≤z)∧(g'.2=g.2∨g.2=none)
theorem KG.ans {r:Option Nat} {t:τ} {w w':World} (h:Below w.heap.size w w'):KG S (r,none) w (r,some t) w':=⟨h.size,fun z hz _ hl=>h.block z hl,.inl rfl,.inr rfl⟩
theorem KG.alloc {r:Option τ} {w:World} (o:Obj):KG S (none,r) w (some w.heap.size,r) (w.alloc o):=⟨by simp,fun z _ _ hl=>(Below.refl w.heap.size w |>.alloc (Nat.le_refl _) o).block z hl,.inr ⟨rfl,fun z hz=>by injection hz with hz;omega⟩,.inl rfl⟩
theorem KG.store {r:Option τ} {w:World} {Z:Nat} (cs:Array Value):KG S (some Z,r) w (some Z,r) (w.setRow Z cs):=⟨by simp [World.setRow],fun z _ hn _=>setRow_other _ _ _ _ (fun e=>hn (by rw [e])),.inl rfl,.inl rfl⟩
def Sg (S:Nat→Prop) (g:GH τ) (z:Nat):Prop:=S z∧g.1≠some z
theorem KG.s {g g':GH τ} {w w':World} (h:KG S g w g' w'):KeepS (Sg S g') w w':=⟨h.1,fun z hz hl=>h.2.1 z hz.1 hz.2 hl⟩
theorem KG.up {g g':GH τ} {w w':World} (h:KG S g w g' w'):∀z,z<w.heap.size→Sg S g z→Sg S g' z:=fun z hl hz=>⟨hz.1,fun e=>by
 rcases h.2.2.1 with h1 | ⟨h1,h2⟩
 ·exact hz.2 (h1 ▸ e)
 ·have:=h2 z e;omega⟩
structure SG (S:Nat→Prop) (τ:Type) where
 p:GH τ→Value→World→Prop
 st:∀v g w g' w',KG S g w g' w'→p g v w→p g' v w'
def SG.any:SG S τ:=⟨fun _ _ _=>True,fun _ _ _ _ _ _ h=>h⟩
def SG.eq (x:Value):SG S τ:=⟨fun _ v _=>v=x,fun _ _ _ _ _ _ h=>h⟩
def SG.box:SG S τ:=⟨fun g v _=>∃z,v = .pointer (some ⟨z,0,none⟩)∧g.1=some z,fun _ g _ g' _ h ⟨z,h1,h2⟩=>⟨z,h1,by
 rcases h.2.2.1 with h3 | ⟨h3,_⟩
 ·rw [h3];exact h2
 ·rw [h3] at h2;cases h2⟩⟩
structure RQ (τ:Type) where
 q:World→(Nat→Prop)→τ→Value→Prop
 st:∀w w' S t v,KeepS S w w'→q w S t v→q w' S t v
 wk:∀w S S' t v,(∀b,b<w.heap.size→S b→S' b)→q w S t v→q w S' t v
def SG.res (R:RQ τ):SG S τ where
 p g v w:=∃t,g.2=some t∧R.q w (Sg S g) t v
 st v g w g' w' h:=fun ⟨t,h1,h2⟩=>by
  refine ⟨t,?_,R.st _ _ _ _ _ h.s (R.wk _ _ _ _ _ h.up h2)⟩
  rcases h.2.2.2 with h3 | h3
  ·rw [h3];exact h1
  ·rw [h3] at h1;cases h1
def RQ.flat (f:τ→Value):RQ τ:=⟨fun _ _ t v=>v=f t,fun _ _ _ _ _ _ h=>h,fun _ _ _ _ _ _ h=>h⟩
def GG (ls:List (SG S τ)) (g:GH τ) (j:Nat) (v:Value) (w:World):Prop:=(ls.getD j SG.any).p g v w
theorem GG.keep {ls:List (SG S τ)} {g g':GH τ} {w w':World} (h:KG S g w g' w') (j:Nat) (v:Value) (hg:GG ls g j v w):GG ls g' j v w':=(ls.getD j SG.any).st v g w g' w' h hg
structure CG (bx cl s:Nat) (B:World→Prop) (N:Nat) (o:Obj) (I:τ→Prop) (D:τ→World→Nat→Prop) (g:GH τ) (d:Nat→Bool) (x:World):Prop where
 b:B x
 nb:d bx=false→g.1=none
 nc:d cl=false→g.2=none
 bo:∀z,g.1=some z→N≤z∧z<x.heap.size∧(d s=false→x.heap[z]?=some o)
 an:∀t,g.2=some t→I t
 st:d s=true→∃z t,g=(some z,some t)∧D t x z
theorem nds {a p:Bool} (hp:a=true→p=false) (h:p=true):a=false:=by
 cases ha:a with
 | false=>rfl
 | true=>rw [hp ha] at h;cases h
theorem done_ne {d:Nat→Bool} {i j:Nat} (h:(j == i)=false):doneA d i j=d j:=by unfold doneA;rw [h,Bool.or_false]
theorem done_self (d:Nat→Bool) (i:Nat):doneA d i i=true:=by simp [doneA]
section
variable {bx cl s i:Nat} {B:World→Prop} {N:Nat} {o:Obj} {I:τ→Prop} {D:τ→World→Nat→Prop} {g:GH τ} {d:Nat→Bool} {x y:World}
theorem CG.pure (h:CG bx cl s B N o I D g d x) (i:Nat) (h1:(bx == i)=false) (h2:(cl == i)=false) (h3:(s == i)=false):CG bx cl s B N o I D g (doneA d i) x:=
 ⟨h.b,fun e=>h.nb (by rwa [done_ne h1] at e),fun e=>h.nc (by rwa [done_ne h2] at e),fun z hz=>by rw [done_ne h3];exact h.bo z hz,h.an,fun e=>h.st (by rwa [done_ne h3] at e)⟩
theorem CG.boxed {r:Option τ} (h:CG bx cl s B N o I D (none,r) d x) (h2:(cl == bx)=false) (h3:(s == bx)=false) (hd:d s=false) (hN:N≤x.heap.size) (o':Obj) (ho:(x.alloc o').heap[x.heap.size]?=some o) (hB:B (x.alloc o')):CG bx cl s B N o I D (some x.heap.size,r) (doneA d bx) (x.alloc o'):=
 ⟨hB,fun e=>(by rw [done_self] at e;cases e),fun e=>h.nc (by rwa [done_ne h2] at e),fun z hz=>by
  injection hz with hz
  subst hz;exact ⟨hN,by simp,fun _=>ho⟩,h.an,fun e=>by rw [done_ne h3,hd] at e;cases e⟩
theorem CG.called {r:Option Nat} {t:τ} (h:CG bx cl s B N o I D (r,none) d x) (h1:(bx == cl)=false) (h3:(s == cl)=false) (hd:d s=false) (hb:Below x.heap.size x y) (hB:B y) (hI:I t):CG bx cl s B N o I D (r,some t) (doneA d cl) y:=
 ⟨hB,fun e=>h.nb (by rwa [done_ne h1] at e),fun e=>(by rw [done_self] at e;cases e),fun z hz=>by
  obtain ⟨q1,q2,q3⟩:=h.bo z hz;exact ⟨q1,Nat.lt_of_lt_of_le q2 hb.size,fun _=>(hb.block z q2).trans (q3 hd)⟩,fun t' ht=>by injection ht with ht;subst ht;exact hI,fun e=>by rw [done_ne h3,hd] at e;cases e⟩
theorem CG.stored {z:Nat} {t:τ} {cs:Array Value} (h:CG bx cl s B N o I D (some z,some t) d x) (hB:B (x.setRow z cs)) (hD:D t (x.setRow z cs) z):CG bx cl s B N o I D (some z,some t) (doneA d s) (x.setRow z cs):=
 ⟨hB,fun e=>absurd (h.nb (by unfold doneA at e;simp at e;exact e.1)) (by simp),fun e=>absurd (h.nc (by unfold doneA at e;simp at e;exact e.1)) (by simp),fun z' hz=>by
  obtain ⟨q1,q2,_⟩:=h.bo z' hz;exact ⟨q1,by simpa [World.setRow] using q2,fun e=>(by rw [done_self] at e;cases e)⟩,h.an,fun _=>⟨z,t,rfl,hD⟩⟩
end
theorem wp_region_sg2 {P:Program} {id:Nat} {Q:Exit→Act→World→Prop} {A:Act} {W:World} {l:List Oper} (m s:Nat) (pl:Nat→Bool) (C:GH τ→(Nat→Bool)→World→Prop) (ls:List (SG S τ))
  (hm:P.follows .mixedOrders=true) (hB:relBC l.toArray m s pl=true) (hs:A.tmps.size=m) (hC:C (none,none) (fun _=>false) {W with drawn:=W.drawn+1}) (hs0:(List.range l.toArray.size).all (fun i=>(l.toArray[i]?).all (fun o=>o.dst.isSome)||i == s)=true) (hs1:∀g w,GG ls g s undef w)
  (h:relWalkE P l.toArray C (GG ls) s pl (fun a'=>∀g d w',(∀j,j<l.toArray.size→d j=true)→C g d w'→(∀j,j<l.toArray.size→GG ls g j (atOp l.toArray a' j) w')→wpList P l.toArray Q [] a' w') 0 l A):(Code.region id l.toArray true).wp P Q A W:=
 wp_region_relE m s pl C (GG ls) (none,none) hm hB hs hC (fun i o ho hd g v w hg=>by
  have hi:i<l.toArray.size:=(Array.getElem?_eq_some_iff.1 ho).1;have:=List.all_eq_true.1 hs0 i (List.mem_range.2 hi);rw [ho] at this;simp [hd] at this;subst this;exact hs1 g w) h
end
section
theorem index_w (l:List Int) (n:Int) (v:Value) (S:Nat→Prop) (w:World) (h:LA IntR w S v l):Calls Tryz.prog 61 #[v,.int .i64 n] w (RetQ (.int .i64 (atL l n)) w):=by
 obtain ⟨A,cap,rfl,hc,hm⟩:=h.form;have H:=H_ h;clear h;unfold maxLen at hm;go_enter Tryz.func61,Tryz.ntmps61;go_wp2
 go_loop [5,8] (fun _ i=>∃k:Nat,i = .int .i64 k∧k≤l.length∧n ∉ l.take k) (fun _ i=>l.length - (intOf i).toNat)
 case atStart=>exact ⟨0,rfl,by omega,by simp⟩
 case round=>
  obtain ⟨k,rfl,hk,hn⟩:=hrel;have HN:=H_ hn;clear hn
  by_cases hlt:k<l.length
  ·obtain ⟨x,hx⟩:∃x,l[k]?=some x:=⟨_,List.getElem?_eq_getElem hlt⟩;obtain ⟨b,o,cap',hv,_,_,hb,_,c0⟩:=IL.cell H.out hx;injection hv with e1 e2 e3
   subst e1 e3;have HX:=H_ hx;clear hx e2
   by_cases hxn:x=n
   ·subst hxn;go_wp2;go_ret;exact ⟨ret_int (atL_found HX.out HN.out).symm,rfl⟩
   ·have hnx:¬n=x:=fun e=>hxn e.symm;go_wp2
    go_round
    case rel=>exact ⟨k+1,by go_num,by omega,not_take_succ HX.out HN.out hxn⟩
    case measure=>simp [intOf];omega
  ·obtain rfl:k=l.length:=by omega
   go_wp2;go_ret
   exact ⟨ret_int (atL_none HN.out).symm,rfl⟩
theorem contains_w (l:List Int) (n:Int) (v:Value) (S:Nat→Prop) (w:World) (h:LA IntR w S v l):Calls Tryz.prog 32 #[v,.int .i64 n] w (RetQ (.bool (decide (0≤atL l n))) w):=by
 have hi:=index_w l n v S w h;go_enter Tryz.func32,Tryz.ntmps32
 go_wp2_with (go_at_call 61;go_loud (refine CM hi ?_);rintro e w1 ⟨rfl,rfl⟩)
 go_ret;exact ⟨rfl,rfl⟩
abbrev GS2:=Option Value × Option Value × Nat
structure SmC (w:World) (S1:Nat→Prop) (v1 v2:Value) (s:Sy) (g:GS2) (d:Nat→Bool) (x:World):Prop where
 na:d 2=false→g.1=none
 nb:d 5=false→g.2.1=none
 n0:d 7=false→g.2.2=0
 n1:d 9=false→g.2.2≤1
 n2:d 9=true→g.2.2=2
 x0:g.2.2=0→x.heap[w.heap.size]?=some (.cells #[.int .i64 s.file,.int .i64 s.size,.int .i64 s.stage,v1,v2,.bool s.failed] 37 (0,0))
 x1:g.2.2=1→∃u,g.1=some u∧x.heap[w.heap.size]?=some (.cells #[.int .i64 s.file,.int .i64 s.size,.int .i64 s.stage,u,v2,.bool s.failed] 37 (0,0))
 x2:g.2.2=2→∃u v,g.1=some u∧g.2.1=some v∧x.heap[w.heap.size]?=some (.cells #[.int .i64 s.file,.int .i64 s.size,.int .i64 s.stage,u,v,.bool s.failed] 37 (0,0))
 r:x.heap[w.heap.size+1]?=some (oSZ)
 a:SyA x S1 v1 v2 s
 b:Below w.heap.size w x
 s1:∀z,S1 z→z≠w.heap.size∧z≠w.heap.size+1
def KS (X:Nat) (g:GS2) (w:World) (g':GS2) (w':World):Prop:=(w.heap.size≤w'.heap.size∧∀z,z≠X→z<w.heap.size→w'.heap[z]?=w.heap[z]?)∧(g'.1=g.1∨g.1=none)∧(g'.2.1=g.2.1∨g.2.1=none)∧g.2.2≤g'.2.2
structure HF (X:Nat) where
 p:GS2→Value→World→Prop
 st:∀v g w g' w',KS X g w g' w'→p g v w→p g' v w'
def HF.any {X:Nat}:HF X:=⟨fun _ _ _=>True,fun _ _ _ _ _ _ h=>h⟩
def HF.eq {X:Nat} (x:Value):HF X:=⟨fun _ v _=>v=x,fun _ _ _ _ _ _ h=>h⟩
def HF.ge {X:Nat} (n:Nat):HF X:=⟨fun g _ _=>n≤g.2.2,fun _ g _ g' _ h hn=>Nat.le_trans hn h.2.2.2⟩
def HF.a {X:Nat} (S:Nat→Prop) (hS:∀z,S z→z≠X) (l:List Int):HF X where
 p g v w:=g.1=some v∧LA IntR w S v l
 st v g w g' w' h:=fun ⟨h1,h2⟩=>by
  refine ⟨?_,h2.kept ⟨h.1.1,fun z hz hl=>h.1.2 z (hS z hz) hl⟩⟩
  rcases h.2.1 with e | e
  ·rw [e];exact h1
  ·rw [e] at h1;cases h1
def HF.b {X:Nat} (S:Nat→Prop) (hS:∀z,S z→z≠X) (l:List Int):HF X where
 p g v w:=g.2.1=some v∧LA IntR w S v l
 st v g w g' w' h:=fun ⟨h1,h2⟩=>by
  refine ⟨?_,h2.kept ⟨h.1.1,fun z hz hl=>h.1.2 z (hS z hz) hl⟩⟩
  rcases h.2.2.1 with e | e
  ·rw [e];exact h1
  ·rw [e] at h1;cases h1
def GH2 {X:Nat} (ls:List (HF X)) (g:GS2) (j:Nat) (v:Value) (w:World):Prop:=(ls.getD j HF.any).p g v w
theorem GH2.keep {X:Nat} {ls:List (HF X)} {g g':GS2} {w w':World} (h:KS X g w g' w') (j:Nat) (v:Value) (hg:GH2 ls g j v w):GH2 ls g' j v w':=(ls.getD j HF.any).st v g w g' w' h hg
section
variable {w x y:World} {S1:Nat→Prop} {v1 v2:Value} {s:Sy} {g:GS2} {d:Nat→Bool}
theorem SmC.pure (h:SmC w S1 v1 v2 s g d x) (i:Nat) (h2:(2 == i)=false) (h5:(5 == i)=false) (h7:(7 == i)=false) (h9:(9 == i)=false):SmC w S1 v1 v2 s g (doneA d i) x:=
 {h with na:=fun e=>h.na (by rwa [done_ne h2] at e),nb:=fun e=>h.nb (by rwa [done_ne h5] at e),n0:=fun e=>h.n0 (by rwa [done_ne h7] at e),n1:=fun e=>h.n1 (by rwa [done_ne h9] at e),n2:=fun e=>h.n2 (by rwa [done_ne h9] at e)}
theorem SmC.cloneA {u:Value} (h:SmC w S1 v1 v2 s g d x) (hb:Below x.heap.size x y) (h0:g.2.2=0):SmC w S1 v1 v2 s (some u,g.2.1,g.2.2) (doneA d 2) y where
 na:=fun e=>(by rw [done_self] at e;cases e)
 nb:=fun e=>h.nb (by rwa [done_ne rfl] at e)
 n0:=fun e=>h.n0 (by rwa [done_ne rfl] at e)
 n1:=fun e=>h.n1 (by rwa [done_ne rfl] at e)
 n2:=fun e=>h.n2 (by rwa [done_ne rfl] at e)
 x0:=fun e=>bk_step (h.x0 e) hb
 x1:=fun e=>absurd e (by show ¬g.2.2=1;omega)
 x2:=fun e=>absurd e (by show ¬g.2.2=2;omega)
 r:=bk_step h.r hb
 a:=h.a.step hb
 b:=bl_step h.b hb
 s1:=h.s1
theorem SmC.cloneB {u:Value} (h:SmC w S1 v1 v2 s g d x) (hb:Below x.heap.size x y) (h0:g.2.2=0):SmC w S1 v1 v2 s (g.1,some u,g.2.2) (doneA d 5) y where
 na:=fun e=>h.na (by rwa [done_ne rfl] at e)
 nb:=fun e=>(by rw [done_self] at e;cases e)
 n0:=fun e=>h.n0 (by rwa [done_ne rfl] at e)
 n1:=fun e=>h.n1 (by rwa [done_ne rfl] at e)
 n2:=fun e=>h.n2 (by rwa [done_ne rfl] at e)
 x0:=fun e=>bk_step (h.x0 e) hb
 x1:=fun e=>absurd e (by show ¬g.2.2=1;omega)
 x2:=fun e=>absurd e (by show ¬g.2.2=2;omega)
 r:=bk_step h.r hb
 a:=h.a.step hb
 b:=bl_step h.b hb
 s1:=h.s1
theorem SmC.sto1 {u:Value} (h:SmC w S1 v1 v2 s g d x) (h0:g.2.2=0) (hu:g.1=some u):SmC w S1 v1 v2 s (g.1,g.2.1,1) (doneA d 7) (x.setCell ⟨w.heap.size,3,none⟩ u) where
 na:=fun e=>h.na (by rwa [done_ne rfl] at e)
 nb:=fun e=>h.nb (by rwa [done_ne rfl] at e)
 n0:=fun e=>(by rw [done_self] at e;cases e)
 n1:=fun e=>Nat.le_refl _
 n2:=fun e=>absurd (h.n2 (by rwa [done_ne rfl] at e)) (by omega)
 x0:=fun e=>(by cases e)
 x1:=fun e=>⟨u,hu,set_same (h.x0 h0) u⟩
 x2:=fun e=>(by cases e)
 r:=(Below.heap_setCell x ⟨w.heap.size,3,none⟩ u (w.heap.size+1) (by show w.heap.size+1≠w.heap.size;omega)).trans h.r
 a:=h.a.kept ⟨by simp [World.setCell],fun z hz _=>Below.heap_setCell x ⟨w.heap.size,3,none⟩ u z (by show z≠w.heap.size;exact (h.s1 z hz).1)⟩
 b:=bl_set h.b ⟨w.heap.size,3,none⟩ u (Nat.le_refl _)
 s1:=h.s1
theorem SmC.sto2 {u:Value} (h:SmC w S1 v1 v2 s g d x) (h0:g.2.2=1) (hu:g.2.1=some u):SmC w S1 v1 v2 s (g.1,g.2.1,2) (doneA d 9) (x.setCell ⟨w.heap.size,4,none⟩ u) where
 na:=fun e=>h.na (by rwa [done_ne rfl] at e)
 nb:=fun e=>h.nb (by rwa [done_ne rfl] at e)
 n0:=fun e=>absurd (h.n0 (by rwa [done_ne rfl] at e)) (by omega)
 n1:=fun e=>(by rw [done_self] at e;cases e)
 n2:=fun e=>rfl
 x0:=fun e=>(by cases e)
 x1:=fun e=>(by cases e)
 x2:=fun e=>by
  obtain ⟨u0,h1,h2⟩:=h.x1 h0;exact ⟨u0,u,h1,hu,set_same h2 u⟩
 r:=(Below.heap_setCell x ⟨w.heap.size,4,none⟩ u (w.heap.size+1) (by show w.heap.size+1≠w.heap.size;omega)).trans h.r
 a:=h.a.kept ⟨by simp [World.setCell],fun z hz _=>Below.heap_setCell x ⟨w.heap.size,4,none⟩ u z (by show z≠w.heap.size;exact (h.s1 z hz).1)⟩
 b:=bl_set h.b ⟨w.heap.size,4,none⟩ u (Nat.le_refl _)
 s1:=h.s1
end
theorem same_w43 (s:Sy) (v1 v2:Value) (S:Nat→Prop) (w:World) (h:SyA w S v1 v2 s) (hS:∀z,w.heap.size≤z→S z):Calls Tryz.prog 31 #[syV s v1 v2] w (RetSy s S w):=by
 obtain ⟨A1,m1,c1,e1⟩:=h.t.cap;obtain ⟨A2,m2,c2,e2⟩:=h.g.cap;subst e1 e2;have HM1:=H_ h.m1;have HM2:=H_ h.m2;obtain ⟨S1,s1,s2,s3⟩:=s1set hS;replace h:=h.weak s3;clear s3;have hlt:=h.lt;have hlg:=h.lg;have HS:=H_ (SyB.start h (fun z hz=>(s1 z hz).2));clear h;go_enter Tryz.func31,Tryz.ntmps31
 go_upto_region 1 with fail
 generalize (w.alloc _).alloc _=W at HS;obtain ⟨x0,x1,x2,x3,x4,x5⟩:=cs6 HS.out.x;clear x0 x1 x2 x3 x4 x5;have hSX:∀z,S1 z→z≠w.heap.size:=fun z hz=>(s1 z hz).2.1;have hfr:=HS.out.fresh
 go_cut [] (fun wx=>∃u1 n1 k1 u2 n2 k2,SyB w S1 (.slice u1 n1 k1) (.slice u2 n2 k2) s wx)
 case first=>
  refine wp_region_relE (Γ:=GS2) 12 7 (fun i=>decide (i≤6)) (SmC w S1 (.slice A1 m1 c1) (.slice A2 m2 c2) s) (GH2 (X:=w.heap.size) [HF.eq (.pointer (some ⟨w.heap.size,3,none⟩)),HF.eq (.slice A1 m1 c1),HF.a S1 hSX s.todo,HF.eq (.pointer (some ⟨w.heap.size,4,none⟩)),HF.eq (.slice A2 m2 c2),HF.b S1 hSX s.going,HF.eq (.pointer (some ⟨w.heap.size,3,none⟩)),HF.ge 1,HF.eq (.pointer (some ⟨w.heap.size,4,none⟩)),HF.any]) (none,none,0) (by kernel_rfl) (by kernel_rfl) rfl ⟨fun _=>rfl,fun _=>rfl,fun _=>rfl,fun _=>by show 0≤1;omega,fun e=>(by cases e),fun _=>HS.out.x,fun e=>(by cases e),fun e=>(by cases e),HS.out.r,HS.out.a.step (B_.drew),bl_step HS.out.b (B_.drew),fun z hz=>(s1 z hz).2⟩ ?_ ?_
  ·intro i o ho hd g v x hg
   by_cases h7:i=7
   ·subst h7;exact hg
   ·by_cases h9:i=9
    ·subst h9;exact trivial
    ·exfalso
     have hi:=(Array.getElem?_eq_some_iff.1 ho).1;simp at hi;obtain rfl | rfl | rfl | rfl | rfl | rfl | rfl | rfl:i=0∨i=1∨i=2∨i=3∨i=4∨i=5∨i=6∨i=8:=by omega
     all_goals (simp at ho;subst ho;cases hd)
  refine rE (fun g d xw hn hp hC hd K hK=>?_) (fun v0=>?_)
  ·skip
   go_simp;exact hK g _ xw (hC.pure 0 rfl rfl rfl rfl) (fun _ _ h=>h) rfl
  simp only [ly];refine rE (fun g d xw hn hp hC hd K hK=>?_) (fun v1=>?_)
  ·obtain rfl:v0=_:=hd 0 (by kernel_rfl);have hb:=hC.x0 (hC.n0 (nds hp rfl));have x3:=cells_at hb 3;simp only [List.getElem?_toArray,List.getElem?_cons_zero,List.getElem?_cons_succ] at x3;go_simp;exact hK g _ xw (hC.pure 1 rfl rfl rfl rfl) (fun _ _ h=>h) rfl
  simp only [ly];refine rE (fun g d xw hn hp hC hd K hK=>?_) (fun v2'=>?_)
  ·obtain rfl:v1=_:=hd 1 (by kernel_rfl);have h0:=hC.n0 (nds hp rfl);have hna:=hC.na hn;go_simp
   go_at_call 60
   refine CM (sclone_w s.todo _ S1 xw hC.a.t (by omega)) ?_;rintro e w1 ⟨u,rfl,ho,hb⟩;have hxs:=bk_lt hC.r;have hks:KS w.heap.size g xw (some u,g.2.1,g.2.2) w1:=⟨⟨hb.size,fun z _ hl=>hb.block z hl⟩,.inr hna,.inl rfl,Nat.le_refl _⟩;exact hK (some u,g.2.1,g.2.2) _ w1 (hC.cloneA hb h0) (fun j v h=>GH2.keep hks j v h) ⟨rfl,(ho.lo (S:=fun _=>False)).la (fun _ _ h=>h.elim) (fun z hz=>s2 z (by omega))⟩
  simp only [ly];refine rE (fun g d xw hn hp hC hd K hK=>?_) (fun v3=>?_)
  ·skip
   go_simp;exact hK g _ xw (hC.pure 3 rfl rfl rfl rfl) (fun _ _ h=>h) rfl
  simp only [ly];refine rE (fun g d xw hn hp hC hd K hK=>?_) (fun v4=>?_)
  ·obtain rfl:v3=_:=hd 3 (by kernel_rfl);have hb:=hC.x0 (hC.n0 (nds hp rfl));have x4:=cells_at hb 4;simp only [List.getElem?_toArray,List.getElem?_cons_zero,List.getElem?_cons_succ] at x4;go_simp;exact hK g _ xw (hC.pure 4 rfl rfl rfl rfl) (fun _ _ h=>h) rfl
  simp only [ly];refine rE (fun g d xw hn hp hC hd K hK=>?_) (fun v5=>?_)
  ·obtain rfl:v4=_:=hd 4 (by kernel_rfl);have h0:=hC.n0 (nds hp rfl);have hnb:=hC.nb hn;go_simp
   go_at_call 60
   refine CM (sclone_w s.going _ S1 xw hC.a.g (by omega)) ?_;rintro e w1 ⟨u,rfl,ho,hb⟩;have hxs:=bk_lt hC.r;have hks:KS w.heap.size g xw (g.1,some u,g.2.2) w1:=⟨⟨hb.size,fun z _ hl=>hb.block z hl⟩,.inl rfl,.inr hnb,Nat.le_refl _⟩;exact hK (g.1,some u,g.2.2) _ w1 (hC.cloneB hb h0) (fun j v h=>GH2.keep hks j v h) ⟨rfl,(ho.lo (S:=fun _=>False)).la (fun _ _ h=>h.elim) (fun z hz=>s2 z (by omega))⟩
  simp only [ly];refine rE (fun g d xw hn hp hC hd K hK=>?_) (fun v6=>?_)
  ·skip
   go_simp;exact hK g _ xw (hC.pure 6 rfl rfl rfl rfl) (fun _ _ h=>h) rfl
  simp only [ly];refine rE (fun g d xw hn hp hC hd K hK=>?_) (fun v7=>?_)
  ·obtain ⟨ha,hla⟩:=hd 2 (by kernel_rfl);obtain rfl:v6=_:=hd 6 (by kernel_rfl);obtain ⟨B1,b1,q1,rfl⟩:=hla.cap;have h0:=hC.n0 hn;have hb:=hC.x0 h0;have x3:=cells_at hb 3;have fz:=free_at hb 3;simp only [List.getElem?_toArray,List.getElem?_cons_zero,List.getElem?_cons_succ] at x3;go_simp;have hks:KS w.heap.size g xw (g.1,g.2.1,1) (xw.setCell ⟨w.heap.size,3,none⟩ (.slice B1 b1 q1)):=⟨⟨by simp [World.setCell],fun z hz _=>Below.heap_setCell xw ⟨w.heap.size,3,none⟩ _ z (by show z≠w.heap.size;exact hz)⟩,.inl rfl,.inl rfl,by show g.2.2≤1;omega⟩;exact hK (g.1,g.2.1,1) undef _ (hC.sto1 h0 ha) (fun j v h=>GH2.keep hks j v h) (by show 1≤1;omega)
  simp only [ly];refine rE (fun g d xw hn hp hC hd K hK=>?_) (fun v8=>?_)
  ·skip
   go_simp;exact hK g _ xw (hC.pure 8 rfl rfl rfl rfl) (fun _ _ h=>h) rfl
  simp only [ly];refine rE (fun g d xw hn hp hC hd K hK=>?_) (fun v9=>?_)
  ·obtain ⟨ha,hla⟩:=hd 5 (by kernel_rfl);obtain rfl:v8=_:=hd 8 (by kernel_rfl);have h1:1≤g.2.2:=hd 7 (by kernel_rfl);obtain ⟨B1,b1,q1,rfl⟩:=hla.cap;have h1':g.2.2=1:=by have:=hC.n1 hn;omega
   obtain ⟨u0,hu0,hb⟩:=hC.x1 h1';have x4:=cells_at hb 4;have fz:=free_at hb 4;simp only [List.getElem?_toArray,List.getElem?_cons_zero,List.getElem?_cons_succ] at x4;go_simp;have hks:KS w.heap.size g xw (g.1,g.2.1,2) (xw.setCell ⟨w.heap.size,4,none⟩ (.slice B1 b1 q1)):=⟨⟨by simp [World.setCell],fun z hz _=>Below.heap_setCell xw ⟨w.heap.size,4,none⟩ _ z (by show z≠w.heap.size;exact hz)⟩,.inl rfl,.inl rfl,by show g.2.2≤2;omega⟩;exact hK (g.1,g.2.1,2) undef _ (hC.sto2 h1' ha) (fun j v h=>GH2.keep hks j v h) trivial
  simp only [ly];refine relWalkE_nil ?_;intro g d wz hdone hC hG;obtain ⟨u,v,hu,hv,hx⟩:=hC.x2 (hC.n2 (hdone 9 (by simp)));obtain ⟨a1,l1⟩:=hG 2 (by simp);obtain ⟨a2,l2⟩:=hG 5 (by simp);obtain rfl:u=v2':=by rw [hu] at a1;injection a1
  obtain rfl:v=v5:=by rw [hv] at a2;injection a2
  obtain ⟨B1,b1,q1,rfl⟩:=l1.cap;obtain ⟨B2,b2,q2,rfl⟩:=l2.cap;have HX:=H_ (show SyB w S1 (.slice B1 b1 q1) (.slice B2 b2 q2) s wz from ⟨hx,hC.r,⟨l1,l2,hlt,hlg⟩,hC.b,hC.s1⟩);clear hG hdone hx l1 l2 hC;go_wp2;go_meet
  case rel=>exact ⟨_,_,_,_,_,_,HX.out⟩
 case rest=>
  clear HS HM1 HM2;obtain ⟨A1,m1,c1,A2,m2,c2,hS2⟩:=hcut;have HS2:=H_ hS2;obtain ⟨x0,x1,x2,x3,x4,x5⟩:=cs6 hS2.x;clear hS2
  go_wp2_with (refine st_sy rfl (.tmp 2) (.tmp 11) rfl rfl (w.heap.size+1) rfl rfl (HS2.out).r rfl ?_)
  show bodyPost Tryz.prog Tryz.f31 _ _ _ _
  refine bodyPost_ret (sy_res rfl _ _ (w.heap.size+1) _ _ _ _ _ _ _ _ rfl (setRow_heap _ _ _ _ _ _ (HS2.out).r)) rfl ?_;obtain ⟨r1,r2⟩:=(HS2.out).back (fun z hz=>(s1 z hz).1) #[.int .i64 s.file,.int .i64 s.size,.int .i64 s.stage,.slice A1 m1 c1,.slice A2 m2 c2,.bool s.failed];exact ⟨_,_,rfl,r1,r2⟩
end
end Go.Proofs.YthhekebemmckcaaGreatDoor
