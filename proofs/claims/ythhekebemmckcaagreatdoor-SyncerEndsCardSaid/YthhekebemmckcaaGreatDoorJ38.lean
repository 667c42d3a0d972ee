/-
  Lemmas and contracts for the laws of synchronisations (layer 43), part 38; several texts joined by a program.
-/
import Derived.Test.YthhekebemmckcaaGreatDoorJ01
import Derived.Test.YthhekebemmckcaaGreatDoorJ22
import Derived.Test.YthhekebemmckcaaGreatDoorJ24
import Derived.Test.YthhekebemmckcaaGreatDoorJ27
import Derived.Test.YthhekebemmckcaaGreatDoorJ30
import Derived.Test.YthhekebemmckcaaGreatDoorJ32
import Derived.Test.YthhekebemmckcaaGreatDoorJ33
import Derived.Test.YthhekebemmckcaaGreatDoorJ36
import Derived.Test.YthhekebemmckcaaGreatDoorJ37
namespace Go.Proofs.YthhekebemmckcaaGreatDoor
set_option linter.unusedVariables false
set_option linter.unusedSimpArgs false
set_option maxRecDepth 100000
set_option maxHeartbeats 16000000
open Go.RowKit
section
variable {F G Z:Nat}
abbrev RetI2 (F G Z:Nat) (S:Nat→Prop) (w:World) (e:Ending) (w':World):Prop:=RetCkE (fun C'=>Inv F G Z C') S w e w'
theorem RetCkE.inv {P:Ck→Prop} {S:Nat→Prop} {w w':World} {e:Ending} (hP:∀C',P C'→Inv F G Z C') (h:RetCkE P S w e w'):RetI2 F G Z S w e w':=by
 obtain ⟨C',er,a,b,c,d,e',f,g,h1,h2,h3,h4⟩:=h;exact ⟨C',er,a,b,c,d,e',f,g,hP _ h1,h2,h3,h4⟩
def RetI3 (F G Z:Nat) (S:Nat→Prop) (w:World) (e:Ending) (w':World):Prop:=∃C' err a b c d e' f g rq,Inv F G Z C'∧e = .returned (.tuple #[ckV a b c d e' f g,rq,.int .i64 err])∧CkAt w' S a b c d e' f g C'∧Below w.heap.size w w'
section
variable (C:Ck) (i:Nat) (x:Fr) (a b c d e f g:Value) (S:Nat→Prop) (w:World) (h:CkAt w S a b c d e f g C) (hI:Inv F G Z C) (hx:C.frames[i]?=some x) (hf:x.file≠-1) (hS:∀z,w.heap.size≤z→S z)
include h hI hx hf hS
theorem hold_i (n:Int) (hn:-1≤n∧n≤1):Calls Tryz.prog 54 #[ckV a b c d e f g,.int .i64 ((i:Int)+1),.int .i64 n] w (RetI2 F G Z S w):=by
 obtain ⟨j,y,hu,_⟩:=hI.used hx hf;exact (hold_w C i j x y n a b c d e f g S w h hI.ok hu (by omega) hS).mono fun e w' he=>RetCkE.inv (fun C'=>hI.putP hu) he
theorem readBegin_i (n:Int) (hn:1≤n∧n≤3):Calls Tryz.prog 50 #[ckV a b c d e f g,.int .i64 ((i:Int)+1),.int .i64 n] w (RetI2 F G Z S w):=by
 obtain ⟨j,y,hu,_⟩:=hI.used hx hf;exact (readBegin_w C i j x y n a b c d e f g S w h hI.ok hu hn hS).mono fun e w' he=>RetCkE.inv (fun C'=>hI.putP hu) he
theorem readEnd_i (t:ByteArray) (ok:Bool) (ht:t.size=16):Calls Tryz.prog 51 #[ckV a b c d e f g,.int .i64 ((i:Int)+1),.string t,.bool ok] w (RetI2 F G Z S w):=by
 obtain ⟨j,y,hu,_⟩:=hI.used hx hf;exact (readEnd_w C i j x y t ok a b c d e f g S w h hI.ok hu ht hS).mono fun e w' he=>RetCkE.inv (fun C'=>hI.putP hu) he
theorem end_i (n:Int):Calls Tryz.prog 49 #[ckV a b c d e f g,.int .i64 ((i:Int)+1),.int .i64 n] w (RetI2 F G Z S w):=by
 obtain ⟨j,y,hu,_⟩:=hI.used hx hf;exact (end_w C i j x y n a b c d e f g S w h hI.ok hu (hI.file j y hu.fl).err hS).mono fun e w' he=>RetCkE.inv (fun C'=>hI.putQ hu) he
theorem begin_i:Calls Tryz.prog 48 #[ckV a b c d e f g,.int .i64 ((i:Int)+1)] w (RetI3 F G Z S w):=by
 obtain ⟨j,y,hu,_⟩:=hI.used hx hf;obtain ⟨s,hs,hs7⟩:=(hI.file j y hu.fl).slot;refine (begin_w C i j x y s a b c d e f g S w h hI.ok hu hs hs7 hI.pok hS).mono fun e w' he=>?_;obtain ⟨C',er,a,b,c,d,e',f,g,rq,h1,h2,h3,h4⟩:=he;exact ⟨C',er,a,b,c,d,e',f,g,rq,hI.putB hu h1,h2,h3,h4⟩
theorem evict_i:Calls Tryz.prog 53 #[ckV a b c d e f g,.int .i64 ((i:Int)+1)] w (RetI2 F G Z S w):=by
 obtain ⟨j,y,hu,_⟩:=hI.used hx hf;obtain ⟨t,k,l,gp,z,clk,hg,hck⟩:=hI.goneH hu;refine (evict_w C i j t k x y l gp z clk a b c d e f g S w h hI.ok hu hg hck hS).mono fun e w' he=>RetCkE.inv (fun C' hC=>?_) he
 rcases hC with rfl | ⟨v,zz,hv,rfl⟩
 ·exact hI
 ·exact hI.gone hu hg hv _ (by rw [List.length_set];exact hI.nk)
end
theorem getFile {F G Z:Nat} {C:Ck} {j:Nat} (hI:Inv F G Z C) (hj:j<F):∃y sz,C.files[j]?=some y∧y.size=((sz:Nat):Int)∧sz≤128:=by
 have hl:j<C.files.length:=by rw [hI.nf];exact hj
 obtain ⟨sz,h1,h2⟩:=(hI.file j _ (List.getElem?_eq_getElem hl)).size;exact ⟨_,sz,List.getElem?_eq_getElem hl,h1,h2⟩
def InQ (F G Z:Nat) (j p:Nat) (C':Ck) (n err:Int):Prop:=Inv F G Z C'∧(err=0→∃(i:Nat) (x:Fr) (y':Fl),n=(i:Int)+1∧C'.files[j]?=some y'∧FrU C' i x j y'∧x.page=p)
section
variable (C:Ck) (j:Nat) (a b c d e f g:Value) (S:Nat→Prop) (w:World) (h:CkAt w S a b c d e f g C) (hI:Inv F G Z C) (hj:j<F) (hS:∀z,w.heap.size≤z→S z)
include h hI hj hS
theorem punch_i (off n:Nat) (h2:off+n≤128):Calls Tryz.prog 56 #[ckV a b c d e f g,.int .i64 j,.int .i64 off,.int .i64 n] w (RetI2 F G Z S w):=by
 obtain ⟨y,sz,hy,hsz,_⟩:=getFile hI hj;exact punch_w C j off n sz y a b c d e f g S w h hI hy hsz h2 hS
theorem truncate_i (sn:Nat) (h2:sn≤128):Calls Tryz.prog 55 #[ckV a b c d e f g,.int .i64 j,.int .i64 sn] w (RetI2 F G Z S w):=by
 obtain ⟨y,sz,hy,hsz,_⟩:=getFile hI hj;exact truncate_w C j sn sz y a b c d e f g S w h hI hy hsz h2 hS
theorem enter_i (pr pa p:Nat) (wr0:Bool) (hpr:pr<8) (hpa:pa<64) (hp8:p<8):Calls Tryz.prog 57 #[ckV a b c d e f g,.int .i64 pr,.int .i64 pa,.int .i64 j,.int .i64 p,.bool wr0] w (RetI2 F G Z S w):=by
 obtain ⟨y,sz,hy,hsz,_⟩:=getFile hI hj;exact enter_w C pr pa j p sz y wr0 a b c d e f g S w h hI hy hsz hpr hpa hp8 hS
theorem cwrite_i (off:Nat) (s:ByteArray) (h1:1≤s.size) (h2:off+s.size≤128):Calls Tryz.prog 38 #[ckV a b c d e f g,.int .i64 j,.int .i64 off,.string s] w (RetI2 F G Z S w):=by
 obtain ⟨y,sz,hy,hsz,_⟩:=getFile hI hj;refine (cwrite_w C j off sz y s a b c d e f g S w h hI hy hsz h1 h2 hS).mono fun e w' he=>?_;obtain ⟨C',er,a,b,c,d,e',f,g,h1,h2,h3,h4⟩:=he;exact ⟨C',er,a,b,c,d,e',f,g,h1.1,h2,h3,h4⟩
theorem insert_i (p t k:Nat) (u:Bool) (hp:p<8) (ht:t<G) (hk:k<Z):Calls Tryz.prog 37 #[ckV a b c d e f g,.int .i64 j,.int .i64 p,.int .i64 t,.int .i64 k,.bool u] w (RetIn (InQ F G Z j p) S w):=by
 obtain ⟨y,sz,hy,hsz,_⟩:=getFile hI hj;have hl:t<C.lists.length:=by rw [hI.nl];exact ht
 have hg:t<C.groups.length:=by rw [hI.ng];exact ht
 have hc:t<C.clocks.length:=by rw [hI.nk];exact ht
 refine (insert_w40 C j p t k u y _ _ _ a b c d e f g S w h hI hy hp (List.getElem?_eq_getElem hl) (List.getElem?_eq_getElem hg) (List.getElem?_eq_getElem hc) (by rw [hI.nz];exact hk) hS).mono fun e w' he=>?_;obtain ⟨C',n,er,a,b,c,d,e',f,g,h1,h2,h3,h4⟩:=he;obtain ⟨q1,q2⟩:=h1.inv hI hy hp ht (List.getElem?_eq_getElem hl) (List.getElem?_eq_getElem hg);refine ⟨C',n,er,a,b,c,d,e',f,g,⟨q1,fun h0=>?_⟩,h2,h3,h4⟩;obtain ⟨i,x,y',r1,r2,r3,r4,_⟩:=q2 h0;exact ⟨i,x,y',r1,r2,r3,r4⟩
end
end
section
def RetIO (l:List Int) (S:Nat→Prop) (w:World) (e:Ending) (w':World):Prop:=∃v,e = .returned v∧LO IntR 3 w' w.heap.size S v l∧Below w.heap.size w w'
theorem pages_o (off n:Nat) (S:Nat→Prop) (w:World) (h1:1≤n) (h2:off+n≤128):Calls Tryz.prog 84 #[.int .i64 off,.int .i64 n] w (RetIO (pagesL off n) S w):=by
 have hby:=fun w'=>cbytes_w (off:Int) (n:Int) w' (by omega) (by omega) (by omega) (by omega);have q1:¬((n:Int)<1):=by omega
 have q2:((off:Int):Int).tdiv 16=((off / 16:Nat):Int):=by rw [Int.tdiv_eq_ediv_of_nonneg (by omega)];rfl
 have q3:(off:Int) / 16=((off / 16:Nat):Int):=by rfl
 obtain ⟨a,ha,ha1,ha2⟩:∃a:Nat,off / 16=a∧a*16≤off∧off<a*16+16:=⟨off / 16,rfl,by omega,by omega⟩;have HP:=H_ (show pagesL off n=pgL a ((off+n+15) / 16 - a) by rw [←ha];rfl);rw [ha] at q2 q3;clear ha;go_enter Tryz.func84,Tryz.ntmps84
 go_upto_region 5 with (go_at_call 76;(with_reducible refine CM (hby _) ?_);rintro e w1 ⟨rfl,rfl⟩)
 clear q2 q3
 go_loopw [5,6] (fun u i wx=>∃k:Nat,i = .int .i64 ((a+k:Nat):Nat)∧k≤9∧(k=0∨(a+k)*16<off+n+16)∧LO IntR 3 wx w.heap.size S u (pgL a k)∧Below w.heap.size w wx) (fun _ i _=>100 - (intOf i).toNat)
 case atStart=>exact ⟨0,rfl,by omega,.inl rfl,LO.nil _ _ _ _ _,Below.refl _ _⟩
 case round=>
  obtain ⟨k,rfl,hk,hend,ho,hb⟩:=hrel;have HO:=H_ ho;have HB:=H_ hb;clear ho hb
  by_cases hlt:(a+k)*16<off+n
  ·have HX':=H_ (pgL_succ a k);obtain ⟨j,hj⟩:∃j:Nat,j=a+k:=⟨_,rfl⟩;rw [←hj] at HX' hlt ⊢;have hjk:=H_ hj;have j1:j≤8:=by omega
   have j2:((j:Int)*16)<(off:Int)+(n:Int):=by omega
   clear hj
   go_wp2_with (at_builtin;go_loud (refine wpList_push IntR int_el rfl (.tmp 25) (.tmp 27) rfl _ w.heap.size S (pgL a k) rfl (HO.out.alloc _) (by have:=HB.out.size;simp;omega) (by rw [pgL_len];omega) _ #[.int .i64 (j:Int)] rfl _ (heap_at_new _ _ _ rfl) (j:Int) rfl ?_);intro v4 w4 hown4 hg4 hat4)
   go_roundw
   case rel=>exact ⟨k+1,by have:=hjk.out;go_num,by have:=hjk.out;omega,by have:=hjk.out;omega,by rw [HX'.out];exact hown4,(bl_alloc HB.out _).grown hg4 (bl_alloc HB.out _).size (fun b hb=>(HO.out.own hb).1)⟩
   case measure=>simp [intOf];omega
  ·have HE:=H_ (show pagesL off n=pgL a k by rw [HP.out];congr 1;omega);obtain ⟨j,hj⟩:∃j:Nat,j=a+k:=⟨_,rfl⟩;rw [←hj] at hlt ⊢;have j2:¬((j:Int)*16)<(off:Int)+(n:Int):=by omega
   have j1:j≤20:=by omega
   clear hj;go_wp2;go_ret;exact ⟨_,rfl,by rw [HE.out];exact HO.out,HB.out⟩
section
variable {F G Z:Nat} {S:Nat→Prop} {W w Wk wx wy:World} {bt X R N:Nat} {K:Option Nat} {a b c d e f g:Value} {C:Ck}
structure PB (F G Z:Nat) (S:Nat→Prop) (W w Wk:World) (bt X R N:Nat) (K:Option Nat) (a b c d e f g:Value) (C:Ck) (wx:World):Prop where
 pc:PC F G Z S W w Wk bt X R K a b c d e f g C wx
 old:CkAt wx (fun z=>Sx S X R K z∧z<N) a b c d e f g C
 xn:X<N
 rn:R<N
 kn:∀z,K=some z→z<N
 wn:w.heap.size≤N
 nn:N≤wx.heap.size
theorem PC.pb (h:PC F G Z S W w Wk bt X R K a b c d e f g C wx):PB F G Z S W w Wk bt X R wx.heap.size K a b c d e f g C wx:=
 ⟨h,h.at_.weak (fun z hz h=>⟨h,hz⟩),bk_lt h.box,bk_lt h.res,fun z hz=>(h.kk z hz).1,h.gb.size,Nat.le_refl _⟩
theorem PB.step (h:PB F G Z S W w Wk bt X R N K a b c d e f g C wx) (hb:Below wx.heap.size wx wy):PB F G Z S W w Wk bt X R N K a b c d e f g C wy:=
 ⟨h.pc.step hb,h.old.step hb,h.xn,h.rn,h.kn,h.wn,Nat.le_trans h.nn hb.size⟩
theorem PB.aside (h:PB F G Z S W w Wk bt X R N K a b c d e f g C wx) {z:Nat} (hz:N≤z) (cs:Array Value):PB F G Z S W w Wk bt X R N K a b c d e f g C (wx.setRow z cs):=by
 have ho:=h.old.kept (KeepS.of_setRow wx z cs (fun hh=>by omega));have h1:=h.xn;have h2:=h.rn;have h3:=h.wn;have hp:=h.pc;refine ⟨⟨hp.inv,ho.weak (fun z _ hz=>hz.1),(setRow_other _ _ _ _ (by omega)).trans hp.box,(setRow_other _ _ _ _ (by omega)).trans hp.res,hp.tp.gb (gb_setRow _ _ _) (by have:=hp.bw;omega),gb_row hp.gb (by omega) _,fun z' hz'=>?_,hp.xw,hp.rw_,hp.bw,hp.xr,hp.nS,hp.fS⟩,ho,h1,h2,h.kn,h3,by simpa [World.setRow] using h.nn⟩;obtain ⟨k1,k2,k3,k4⟩:=hp.kk z' hz';have:=h.kn z' hz';exact ⟨by simpa [World.setRow] using k1,k2,k3,(setRow_other _ _ _ _ (by omega)).trans k4⟩
end
theorem ready_l {W1 wx:World} {u:Value} {L:List Int} (ho:LO IntR 3 wx W1.heap.size (fun z=>W1.heap.size≤z) u L) (hl:1≤L.length) (ha:∀z ∈ L,0≤z∧z<8) (hn:L.length≤20) (hb:Below W1.heap.size W1 wx) :
  ∃(gl cl:Nat) (L:List Int),u = .slice (some ⟨gl,0,none⟩) L.length cl∧W1.heap.size≤gl∧gl<wx.heap.size∧(∀(k:Nat) (z:Int),L[k]?=some z→wx.cell? ⟨gl,k,none⟩=some (.int .i64 z))∧(∀z ∈ L,0≤z∧z<8)∧L.length≤20∧Below W1.heap.size W1 wx:=by
 obtain ⟨gl,cl,rfl,_,_,h1,hw⟩:=ho.lw hl;refine ⟨gl,cl,L,rfl,h1,hw.lt,fun k z hk=>?_,ha,hn,hb⟩;obtain ⟨r,hr,hc⟩:=hw.at_ hk;have hr:r=[.int .i64 z]:=hr;subst hr;have:=hc 0 _ rfl;rw [Nat.mul_one,Nat.add_zero] at this;exact this
def RQ.ck3:RQ (Ck × Int × Int):=⟨fun w S t v=>∃a b c d e f g,v = .tuple #[ckV a b c d e f g,.int .i64 t.2.1,.int .i64 t.2.2]∧CkAt w S a b c d e f g t.1,fun _ _ _ _ _ hk ⟨a,b,c,d,e,f,g,h1,h2⟩=>⟨a,b,c,d,e,f,g,h1,h2.kept hk⟩,fun _ _ _ _ _ hS ⟨a,b,c,d,e,f,g,h1,h2⟩=>⟨a,b,c,d,e,f,g,h1,h2.weak hS⟩⟩
def RQ.ck {τ:Type} (f0:τ→Ck):RQ τ:=⟨fun w S t v=>∃a b c d e f g,v=ckV a b c d e f g∧CkAt w S a b c d e f g (f0 t),fun _ _ _ _ _ hk ⟨a,b,c,d,e,f,g,h1,h2⟩=>⟨a,b,c,d,e,f,g,h1,h2.kept hk⟩,fun _ _ _ _ _ hS ⟨a,b,c,d,e,f,g,h1,h2⟩=>⟨a,b,c,d,e,f,g,h1,h2.weak hS⟩⟩
theorem andNot3 {a:Int} (ha:0≤a∧a≤3):0≤bits .andNot .i64 3 a∧bits .andNot .i64 3 a≤3:=by
 obtain rfl | rfl | rfl | rfl:a=0∨a=1∨a=2∨a=3:=by omega
 all_goals decide
theorem PutP.used {C C':Ck} {i j:Nat} {x:Fr} {y:Fl} (h:PutP C i j x y C') (hu:FrU C i x j y):∃x2,C'.frames[i]?=some x2∧x2.file≠-1:=by
 rcases h with rfl | ⟨x',_,h2,_,_,rfl⟩
 ·exact ⟨x,hu.fr,by rw [hu.ix];omega⟩
 ·exact ⟨x',get_self hu.fr,by rw [h2,hu.ix];omega⟩
end
section
structure Pl where
 dev:Int
 slot:Int
def Pl.row (x:Pl):List Value:=[.int .i64 x.dev,.int .i64 x.slot]
def PlR:RR Pl 2:=RR.flat Pl.row (fun a=>⟨rfl,fun u hu=>by
 simp only [Pl.row,List.mem_cons,List.not_mem_nil,or_false] at hu
 rcases hu with rfl | rfl <;> rfl⟩)
structure PlsOk (L:List Pl):Prop where
 each:∀x ∈ L,0≤x.dev∧x.dev<4∧0≤x.slot∧x.slot<7
 pos:1≤L.length
 few:L.length≤8
 dup:∀(i k:Nat) (x y:Pl),k<i→L[i]?=some x→L[k]?=some y→y.dev≠x.dev∨y.slot≠x.slot
theorem PlA.cells {w:World} {S:Nat→Prop} {A:Option Addr} {n cap:Nat} {L:List Pl} (h:LA PlR w S (.slice A n cap) L) {i:Nat} {x:Pl} (hi:L[i]?=some x):∃b o,A=some ⟨b,o,none⟩∧b<w.heap.size∧w.cell? ⟨b,o+i*2,none⟩=some (.int .i64 x.dev)∧w.cell? ⟨b,o+i*2+1,none⟩=some (.int .i64 x.slot):=by
 obtain ⟨b,o,cap',r,hv,c1,c2,hb,hS,hp,hc⟩:=h.at_ hi;injection hv with e1 _ _
 have hp:r=x.row:=hp;subst hp;exact ⟨b,o,e1,hb,hc 0 _ rfl,hc 1 _ rfl⟩
theorem places_w (L:List Pl) (v:Value) (S:Nat→Prop) (w:World) (h:LA PlR w S v L) (ok:PlsOk L):Calls Tryz.prog 41 #[v] w (RetB true w):=by
 obtain ⟨A,cap,rfl,hc1,hc2⟩:=h.form;obtain ⟨ok1,l1,l2,ok3⟩:=ok;have H:=H_ h;have OK:=H_ ok1;have OD:=H_ ok3;have n1:(1:Int)≤(L.length:Int):=by omega
 have n2:(L.length:Int)≤8:=by omega
 have hsl:=fun w'=>slots_w w';unfold maxLen at hc2;clear h ok1 ok3;go_enter Tryz.func41,Tryz.ntmps41;go_wp2
 go_loopw [3,4] (fun i _ wx=>∃k:Nat,i = .int .i64 k∧k≤L.length∧Below w.heap.size w wx) (fun i _ _=>L.length - (intOf i).toNat)
 case atStart=>exact ⟨0,rfl,by omega,Below.refl _ _⟩
 case round=>
  obtain ⟨k,rfl,hk,hb⟩:=hrel;have HB:=H_ hb;clear hb
  by_cases hlt:k<L.length
  ·obtain ⟨x,hx⟩:∃x,L[k]?=some x:=⟨_,List.getElem?_eq_getElem hlt⟩;obtain ⟨b,o,rfl,hbl,c0,c1⟩:=PlA.cells (H.out.step HB.out) hx;obtain ⟨r1,r2,r3,r4⟩:=OK.out x (List.mem_of_getElem? hx);have HXX:=H_ hx;have klt:(k:Int)<(L.length:Int):=by omega
   have d1:decide (x.dev<0)=false:=dF (by omega);have d2:decide (4≤x.dev)=false:=dF (by omega);have d3:decide (x.slot<0)=false:=dF (by omega);have d4:decide (7≤x.slot)=false:=dF (by omega);clear hx
   go_upto_region 4 with fail
   go_quiet ((go_at_call 82;exact Calls.quiet_of_eq (hsl _)));have HB2:=H_ (below_drewN HB.out nq);clear HB d1 d2 d3 d4 r1 r2 r3 r4 c0 c1;go_wp2
   go_loopw [4] (fun i wx=>∃q:Nat,i = .int .i64 q∧q≤k∧Below w.heap.size w wx) (fun i _=>k - (intOf i).toNat)
   case atStart=>exact ⟨0,rfl,by omega,HB2.out⟩
   case round=>
    obtain ⟨q,rfl,hq,hb⟩:=hrel;have HB:=H_ hb;clear hb HB2
    by_cases hqk:q<k
    ·obtain ⟨y,hy⟩:∃y,L[q]?=some y:=⟨_,List.getElem?_eq_getElem (by omega)⟩;obtain ⟨b1,o1,e1,hbl1,c0,c1⟩:=PlA.cells (H.out.step HB.out) HXX.out;obtain ⟨b2,o2,e2,hbl2,c2,c3⟩:=PlA.cells (H.out.step HB.out) hy;injection e1 with e1
     injection e1 with e11 e12
     injection e2 with e2
     injection e2 with e21 e22
     subst e11 e12 e21 e22;have hne:=OD.out k q x y hqk HXX.out hy;have qk:(q:Int)<(k:Int):=by omega
     have ql:(q:Int)<(L.length:Int):=by omega
     clear hy
     by_cases hdv:y.dev=x.dev
     ·have hsn:¬y.slot=x.slot:=by
       rcases hne with h | h
       ·exact absurd hdv h
       ·exact h
      clear hne
      go_upto_region 9 with fail
      go_quiet (fail);go_wp2;go_roundw
      case rel=>exact ⟨q+1,by go_num,by omega,below_drewN HB.out nq⟩
      case measure=>simp [intOf];omega
     ·clear hne
      go_upto_region 9 with fail
      go_quiet (fail);go_wp2;go_roundw
      case rel=>exact ⟨q+1,by go_num,by omega,below_drewN HB.out nq⟩
      case measure=>simp [intOf];omega
    ·obtain rfl:k=q:=by omega
     go_wp2;go_roundw
     case rel=>exact ⟨k+1,by go_num,by omega,HB.out⟩
     case measure=>simp [intOf];omega
  ·obtain rfl:k=L.length:=by omega
   go_wp2;go_ret
   exact ⟨rfl,HB.out⟩
end
section
abbrev GP:=Option (Value × Bool)
def KPh (g:GP) (w:World) (g':GP) (w':World):Prop:=(g=none∧g'=none∧Below w.heap.size w w')∨(g'≠none∧∀v p,g=some (v,p)→∃p',g'=some (v,p'))
structure PF where
 p:GP→Value→World→Prop
 st:∀v g w g' w',KPh g w g' w'→p g v w→p g' v w'
def PF.any:PF:=⟨fun _ _ _=>True,fun _ _ _ _ _ _ h=>h⟩
def PF.eq (x:Value):PF:=⟨fun _ v _=>v=x,fun _ _ _ _ _ _ h=>h⟩
def PF.p0 (q:SP):PF:=⟨fun g v w=>g=none→q.p v w,fun v g w g' w' h hp hg=>by
 rcases h with ⟨h1,_,h3⟩ | ⟨h1,_⟩
 ·exact q.st v w w' h3 (hp h1)
 ·exact absurd hg h1⟩
def PF.res:PF:=⟨fun g v _=>∃p,g=some (v,p),fun v g w g' w' h ⟨p,hp⟩=>by
 rcases h with ⟨h1,_,_⟩ | ⟨_,h2⟩
 ·rw [h1] at hp;cases hp
 ·exact h2 v p hp⟩
def GF (ls:List PF) (g:GP) (j:Nat) (v:Value) (w:World):Prop:=(ls.getD j PF.any).p g v w
theorem GF.keep {ls:List PF} {g g':GP} {w w':World} (h:KPh g w g' w') (j:Nat) (v:Value) (hg:GF ls g j v w):GF ls g' j v w':=(ls.getD j PF.any).st v g w g' w' h hg
structure PhC (s t:Nat) (P0:World→Prop) (P1 P2:Value→World→Prop) (g:GP) (d:Nat→Bool) (x:World):Prop where
 n0:d s=false→g=none
 n1:d t=false→∀v,g≠some (v,true)
 c0:g=none→P0 x
 c1:∀v,g=some (v,false)→P1 v x
 c2:∀v,g=some (v,true)→P2 v x
 fin:d t=true→∃v,g=some (v,true)
section
variable {s t:Nat} {P0:World→Prop} {P1 P2:Value→World→Prop} {g:GP} {d:Nat→Bool} {x y:World}
theorem PhC.start (h:P0 x):PhC s t P0 P1 P2 none (fun _=>false) x:=⟨fun _=>rfl,fun _ v h=>(by cases h),fun _=>h,fun v h=>(by cases h),fun v h=>(by cases h),fun h=>(by cases h)⟩
theorem PhC.pure (h:PhC s t P0 P1 P2 g d x) (i:Nat) (h1:(s == i)=false) (h2:(t == i)=false):PhC s t P0 P1 P2 g (doneA d i) x:=
 ⟨fun e=>h.n0 (by rwa [done_ne h1] at e),fun e=>h.n1 (by rwa [done_ne h2] at e),h.c0,h.c1,h.c2,fun e=>h.fin (by rwa [done_ne h2] at e)⟩
theorem PhC.step (h:PhC s t P0 P1 P2 none d x) (i:Nat) (h1:(s == i)=false) (h2:(t == i)=false) (hP:P0 y):PhC s t P0 P1 P2 none (doneA d i) y:=
 ⟨fun e=>rfl,fun e v h=>(by cases h),fun _=>hP,fun v h=>(by cases h),fun v h=>(by cases h),fun e=>(by
  obtain ⟨v,hv⟩:=h.fin (by rwa [done_ne h2] at e)
  cases hv)⟩
theorem PhC.app (h:PhC s t P0 P1 P2 none d x) (h2:(t == s)=false) {v:Value} (hP:P1 v y):PhC s t P0 P1 P2 (some (v,false)) (doneA d s) y:=
 ⟨fun e=>(by rw [done_self] at e;cases e),fun e v h=>(by injection h with h;injection h with _ h;cases h),fun e=>(by cases e),fun v' e=>(by injection e with e;injection e with e _;subst e;exact hP),fun v h=>(by injection h with h;injection h with _ h;cases h),fun e=>(by
  obtain ⟨v,hv⟩:=h.fin (by rwa [done_ne h2] at e)
  cases hv)⟩
theorem PhC.sto {v:Value} (h:PhC s t P0 P1 P2 (some (v,false)) d x) (h2:(s == t)=false) (hP:P2 v y):PhC s t P0 P1 P2 (some (v,true)) (doneA d t) y:=
 ⟨fun e=>absurd (h.n0 (by rwa [done_ne h2] at e)) (by simp),fun e=>(by rw [done_self] at e;cases e),fun e=>(by cases e),fun v' e=>(by injection e with e;injection e with _ e;cases e),fun v' e=>(by injection e with e;injection e with e _;subst e;exact hP),fun _=>⟨v,rfl⟩⟩
end
theorem wp_region_ph {P:Program} {id:Nat} {Q:Exit→Act→World→Prop} {A:Act} {W:World} {l:List Oper} (m s t:Nat) (pl:Nat→Bool) (P0:World→Prop) (P1 P2:Value→World→Prop) (ls:List PF)
  (hm:P.follows .mixedOrders=true) (hB:relBC l.toArray m s pl=true) (hs:A.tmps.size=m) (hC:P0 {W with drawn:=W.drawn+1}) (hs0:(List.range l.toArray.size).all (fun i=>(l.toArray[i]?).all (fun o=>o.dst.isSome)||i == t)=true) (hs1:∀g w,GF ls g t undef w)
  (h:relWalkE P l.toArray (PhC s t P0 P1 P2) (GF ls) s pl (fun a'=>∀g d w',(∀j,j<l.toArray.size→d j=true)→PhC s t P0 P1 P2 g d w'→(∀j,j<l.toArray.size→GF ls g j (atOp l.toArray a' j) w')→wpList P l.toArray Q [] a' w') 0 l A):(Code.region id l.toArray true).wp P Q A W:=
 wp_region_relE m s pl (PhC s t P0 P1 P2) (GF ls) none hm hB hs (PhC.start hC) (fun i o ho hd g v w hg=>by
  have hi:i<l.toArray.size:=(Array.getElem?_eq_some_iff.1 ho).1;have:=List.all_eq_true.1 hs0 i (List.mem_range.2 hi);rw [ho] at this;simp [hd] at this;subst this;exact hs1 g w) h
end
section
def newFl (p:Pl):Fl:=⟨p.dev,p.slot,zeroC,0,0,0,0,0,0,0,0,0⟩
def lrNo:Lr:=⟨[],[],[]⟩
def newC (Ls:List Pl) (sz:List Int) (gs:List Gr):Ck:=⟨Ls.map newFl,List.replicate (freeZ (newZs 1 sz)) frNo,newZs 1 sz,gs,List.replicate gs.length lrNo,List.replicate gs.length 0,[]⟩
theorem newFl_row (w:World) (S:Nat→Prop) (p:Pl):FlR.p w S (newFl p) ((newFl p).rowT 0 none 0):=
 ⟨0,none,0,fun i=> .inl rfl,TreeOk.zero,Nat.le_refl _,.nil _,rfl⟩
theorem freeZ_new:∀(l:List Int) (a:Int),(∀n ∈ l,1≤n)→(freeZ (newZs a l):Int)=sumI l
 | [],_,_=>rfl
 | x :: l,a,h=>by
  have ih:=freeZ_new l (a+x) (fun n hn=>h n (List.mem_cons_of_mem _ hn));have hx:=h x (List.mem_cons_self ..);have e:sumI (x :: l)=x+sumI l:=by unfold sumI;rw [List.foldl_cons,foldl_add];omega
  have e2:freeZ (newZs a (x :: l))=x.toNat+freeZ (newZs (a+x) l):=by
   show freeZ (newZ a x :: newZs (a+x) l)=_
   unfold freeZ;rw [List.map_cons,List.sum_cons]
   congr 1
   exact upN_len a x.toNat
  rw [e,e2];omega
theorem getR_zero (p:Int):getR zeroC p=0:=by unfold getR;split <;> rfl
theorem mem_new:∀(l:List Int) (a:Int) (z:Zn) (f:Int),(∀n ∈ l,1≤n)→z ∈ newZs a l→f ∈ z.free→a≤f∧f<a+sumI l
 | [],_,z,f,_,h,_=>by cases h
 | x :: l,a,z,f,hn,h,hf=>by
  have hx:=hn x (List.mem_cons_self ..);have e:sumI (x :: l)=x+sumI l:=by unfold sumI;rw [List.foldl_cons,foldl_add];omega
  have hp:0≤sumI l:=by rw [←freeZ_new l 0 (fun n hn'=>hn n (List.mem_cons_of_mem _ hn'))];omega
  rcases List.mem_cons.1 h with rfl | h
  ·have:=upN_mem (show f ∈ upN a x.toNat from hf);omega
  ·have:=mem_new l (a+x) z f (fun n hn'=>hn n (List.mem_cons_of_mem _ hn')) h hf;omega
theorem inv_new {F G Z:Nat} {Ls:List Pl} {sz:List Int} {gs:List Gr} (hF:Ls.length=F) (hG:gs.length=G) (hZ:sz.length=Z) (hf:1≤F∧F≤3∧1≤G∧G≤2∧1≤Z∧Z≤2) (hP:PlsOk Ls) (hz:SzOk sz) (hg:GrsOk gs):Inv F G Z (newC Ls sz gs) where
 few:=hf
 nf:=by simp [newC,hF]
 nr:=by
  have:=freeZ_new sz 1 hz.each;have h1:=hz.all;have h2:1≤sumI sz:=by
   have hx:sz[0]?=some sz[0]:=List.getElem?_eq_getElem hz.pos;have:=hz.each _ (List.mem_of_getElem? hx);have:=(hz.part 0 (by omega)).2.2 _ hx;have:=(hz.part 0 (by omega)).1;omega
  simp only [newC,List.length_replicate];omega
 ng:=hG
 nl:=by simp [newC,hG]
 nk:=by simp [newC,hG]
 nz:=by simp [newC,newZs_len,hZ]
 ten:=fun i x hx=>by
  have hx:(List.replicate _ frNo)[i]?=some x:=hx;obtain rfl:=(List.mem_replicate.1 (List.mem_of_getElem? hx)).2
  show (0:Int)<G
  omega
 file:=fun j y hy=>by
  have hy:(Ls.map newFl)[j]?=some y:=hy;rw [List.getElem?_map] at hy;obtain ⟨p,hp,rfl⟩:=Option.map_eq_some_iff.1 hy;obtain ⟨_,_,h3,h4⟩:=hP.each p (List.mem_of_getElem? hp);exact ⟨⟨0,rfl,by omega⟩,⟨p.slot.toNat,by show p.slot=_;omega,by omega⟩,by show (0:Int)≤0;omega,by show (0:Int)≤1000000;omega,Iff.rfl⟩
 frame:=fun i x hx=>by
  have hx:(List.replicate _ frNo)[i]?=some x:=hx;obtain rfl:=(List.mem_replicate.1 (List.mem_of_getElem? hx)).2;exact .inl rfl
 find:=fun j y p hy h0=>by
  have hy:(Ls.map newFl)[j]?=some y:=hy;rw [List.getElem?_map] at hy;obtain ⟨q,hq,rfl⟩:=Option.map_eq_some_iff.1 hy;have h0:0<getR zeroC p:=h0;rw [getR_zero] at h0;omega
 free:=fun k z hk f hf'=>by
  have hk:(newZs 1 sz)[k]?=some z:=hk;have:=mem_new sz 1 z f hz.each (List.mem_of_getElem? hk) hf';have h2:=freeZ_new sz 1 hz.each;refine ⟨(f - 1).toNat,frNo,by omega,?_,rfl⟩
  show (List.replicate _ frNo)[_]?=_
  rw [List.getElem?_replicate,if_pos (by omega)]
 zok:=hz.zones
 zsum:=by
  show nxt (newZs 1 sz)=((List.replicate _ frNo).length:Int)+1
  rw [nxt_newZs,List.length_replicate,freeZ_new sz 1 hz.each];omega
 gok:=hg
 lok:=fun t l hl=>by
  have hl:(List.replicate _ lrNo)[t]?=some l:=hl;obtain rfl:=(List.mem_replicate.1 (List.mem_of_getElem? hl)).2;exact ⟨fun x hx=>(by cases hx),List.nodup_nil,fun x hx=>(by cases hx),List.Pairwise.nil⟩
 pok:=⟨fun p hp=>(by cases hp),List.Pairwise.nil⟩
theorem made_same (a:Value) (k n:Nat) (hk:0<k):(madeCells (Array.replicate k a) (n*k)).toList=(List.replicate n (List.replicate k a)).flatten:=by
 rw [List.flatten_replicate_replicate];apply List.ext_getElem?;intro i
 by_cases h:i<n*k
 ·have hm:i % k<k:=Nat.mod_lt _ hk;simp [madeCells,h,List.getElem?_replicate,hm]
 ·simp [madeCells,h,List.getElem?_replicate]
end
section
structure SyOk (s:Sy):Prop where
 t:s.todo.Pairwise (·<·)
 g:s.going.Pairwise (·<·)
 few:s.todo.length+s.going.length≤16
theorem outL_lt {p:Int}:∀{l:List Int},p ∈ l→(outL l p).length+1≤l.length
 | x :: l,h=>by
  by_cases e:x=p
  ·have e':outL (x :: l) p=outL l p:=by unfold outL;rw [List.filter_cons,if_neg (by simp [e])]
   rw [e'];have:=outL_len l p;simp;omega
  ·have e':outL (x :: l) p=x :: outL l p:=by unfold outL;rw [List.filter_cons,if_pos (bne_iff_ne.2 e)]
   rw [e'];have:=outL_lt (l:=l) (by rcases List.mem_cons.1 h with h | h;exact absurd h.symm e;exact h)
   simp;omega
theorem SyOk.begun {s:Sy} (h:SyOk s) (p:Int):SyOk (begunS s p):=by
 unfold begunS
 split
 ·rename_i hc
  exact ⟨outL_asc h.t,putL_asc h.g,by have:=outL_lt hc.2;have:=putL_len p s.going;have:=h.few;show (outL s.todo p).length+(putL p s.going).length≤16;omega⟩
 ·exact h
theorem SyOk.gone {s:Sy} (h:SyOk s) (p:Int):SyOk (goneS s p):=by
 unfold goneS
 split
 ·exact ⟨outL_asc h.t,h.g,by have:=outL_len s.todo p;have:=h.few;show (outL s.todo p).length+s.going.length≤16;omega⟩
 ·exact h
theorem SyOk.ended {s:Sy} (h:SyOk s) (p e:Int):SyOk (endedS s p e):=by
 unfold endedS
 split
 ·exact ⟨h.t,outL_asc h.g,by have:=outL_len s.going p;have:=h.few;show s.todo.length+(outL s.going p).length≤16;omega⟩
 ·exact h
theorem SyOk.next {s:Sy} (h:SyOk s):SyOk (nextS s):=by
 unfold nextS
 split
 ·exact ⟨h.t,h.g,h.few⟩
 ·exact h
theorem SyOk.fin {s:Sy} (h:SyOk s) (e:Int):SyOk (finS s e).1:=by
 unfold finS
 split
 ·exact ⟨h.t,h.g,h.few⟩
 ·exact h
theorem SyOk.stage {s:Sy} (h:SyOk s) (k:Int):SyOk {s with stage:=k}:=⟨h.t,h.g,h.few⟩
theorem listP_mem {f:Nat→Bool} {x:Int}:∀{k:Nat},x ∈ listP f k→∃j:Nat,j<k∧x=(j:Int)∧f j=true
 | k+1,h=>by
  rcases List.mem_append.1 (show x ∈ listP f k ++ (if f k then [(k:Int)] else []) from h) with h | h
  ·obtain ⟨j,h1,h2⟩:=listP_mem h;exact ⟨j,by omega,h2⟩
  ·cases hf:f k with
   | true=>rw [hf,if_pos rfl] at h;exact ⟨k,by omega,List.mem_singleton.1 h,hf⟩
   | false=>rw [hf,if_neg (by simp)] at h;cases h
theorem listP_asc (f:Nat→Bool):∀k,(listP f k).Pairwise (·<·)
 | 0=>List.Pairwise.nil
 | k+1=>by
  show (listP f k ++ (if f k then [(k:Int)] else [])).Pairwise (·<·)
  refine List.pairwise_append.2 ⟨listP_asc f k,by split <;> simp,fun x hx y hy=>?_⟩;obtain ⟨j,h1,rfl,_⟩:=listP_mem hx
  split at hy
  ·obtain rfl:=List.mem_singleton.1 hy;omega
  ·cases hy
theorem SyOk.start (C:Ck) (i:Nat) (y:Fl):SyOk (startS C i y):=⟨listP_asc _ _,listP_asc _ _,by have:=listP_len (todoC C y) 8;have:=listP_len (goingC C y) 8;show (listP _ 8).length+(listP _ 8).length≤16;omega⟩
theorem SyOk.none:SyOk startN:=⟨List.Pairwise.nil,List.Pairwise.nil,by simp [startN]⟩
def awC:Ck:=newC [⟨0,0⟩] [8] [⟨8,0,0⟩]
def awY:Fl:=newFl ⟨0,0⟩
theorem aw_ins {C':Ck} {n err:Int} {l:Lr} (h:InP awC 0 0 0 0 false awY l ⟨8,0,0⟩ C' n err):∃ac,C'=insC awC 0 0 0 0 awY l ⟨8,0,0⟩ (takeZ awC.zones false 0).1 ac:=by
 rcases h with ⟨_,_,h | h | h⟩ | ⟨_,_,i,ac,_,h1,_,h2⟩
 ·exact absurd h (by decide)
 ·exact absurd rfl h
 ·exact absurd (show (takeZ awC.zones false 0).2.2=0 by decide +kernel) h
 ·have e:(takeZ awC.zones false 0).2.1=1:=by decide +kernel
  rw [e] at h1;obtain rfl:i=0:=by omega
  exact ⟨ac,h2⟩
def awY1:Fl:={awY with c:=(setR zeroC 0 1).1}
theorem aw_get0:getR awY1.c 0=1:=by decide +kernel
theorem aw_getk (k:Nat) (h:k≠0):getR awY1.c (k:Int)=0:=by
 unfold getR
 split
 ·show (upd zeroC 0 (1,0) ((k:Int).toNat)).1=0
  unfold upd;rw [if_neg (by simp;exact h)]
  rfl
 ·rfl
def awX:Fr:=⟨0,0,insPg awY 0,0,0,0,0⟩
theorem aw_hole:insPg awY 0=holeG:=by
 unfold insPg;rw [show holeB awY 0=true by decide +kernel]
 rfl
theorem aw_need:needI (insPg awY 0).valid (partI 0 0 3).1 (partI 0 0 3).2 true=0:=by rw [aw_hole];decide +kernel
theorem aw_pages:pagesL 0 3=[0]:=by decide +kernel
theorem aw_frU {l:Lr} {ac:Bool}:FrU (insC awC 0 0 0 0 awY l ⟨8,0,0⟩ (takeZ awC.zones false 0).1 ac) 0 awX 0 awY1 where
 fr:=by
  show (awC.frames.set 0 awX)[0]?=some awX
  rw [List.getElem?_set_self]
  show 0<(List.replicate _ _).length
  rw [List.length_replicate]
  decide +kernel
 fl:=rfl
 ix:=rfl
 ok:=⟨⟨by decide,by decide⟩,⟨by decide,by decide⟩,by show PgOk (insPg awY 0);exact insPg_ok _ _,⟨by decide,by decide⟩,⟨by decide,by decide⟩,⟨by decide,by decide⟩⟩
theorem aw_un {l:Lr} {ac:Bool}:∀p ∈ pagesL 0 3,UnOk (insC awC 0 0 0 0 awY l ⟨8,0,0⟩ (takeZ awC.zones false 0).1 ac) 0 awY1 0 3 true p:=by
 rw [aw_pages];intro p hp;obtain rfl:=List.mem_singleton.1 hp;exact ⟨0,awX,aw_get0,aw_frU,rfl,aw_need⟩
theorem aw_start {F G Z:Nat} {l:Lr} {ac:Bool} {C2:Ck} {err:Int} (h:WrP F G Z (insC awC 0 0 0 0 awY l ⟨8,0,0⟩ (takeZ awC.zones false 0).1 ac) 0 0 3 0 awY1 C2 err):∃y2,C2.files[0]?=some y2∧startS C2 0 y2=⟨0,3,1,[0],[],false⟩:=by
 obtain ⟨_,h⟩:=h;obtain ⟨_,Cn,y1,hput,hf,rfl⟩:=h (by decide) aw_un;generalize hC:insC awC 0 0 0 0 awY l ⟨8,0,0⟩ (takeZ awC.zones false 0).1 ac=C1 at hput;have hU:FrU C1 0 awX 0 awY1:=by rw [←hC];exact aw_frU
 have hn:(0+3+15) / 16 - 0 / 16=1:=by decide
 rw [hn] at hput
 cases hput with
 | @step _ i t C x x' y l' p h0 hp hfr hpg hget e1 e2 e3 e4 hl=>
  cases h0
  rw [aw_pages] at hp;obtain rfl:(0:Int)=p:=Option.some.inj hp;obtain rfl:y=awY1:=Option.some.inj (hfr.fl.symm.trans hU.fl);rw [aw_get0] at hget;obtain rfl:i=0:=by omega
  obtain rfl:x=awX:=Option.some.inj (hfr.fr.symm.trans hU.fr);have hfl:0<C1.files.length:=(g_l hU.fl);have hrl:0<C1.frames.length:=(g_l hU.fr);have hf':(markFs C1.files 0 awY1 x')[0]?=some y1:=hf;unfold markFs at hf';rw [List.getElem?_set_self hfl] at hf';have hy1:=Option.some.inj hf';refine ⟨_,List.getElem?_set_self (by show 0<(markFs C1.files 0 awY1 x').length;rw [markFs_len];exact hfl),?_⟩;have hx':({accC (putC C1 0 0 awY1 x') t l' 0 with files:=(markFs C1.files 0 awY1 x').set 0 {y1 with size:=max y1.size ((0:Nat)+(3:Nat))}}:Ck).frames[0]?=some x':=List.getElem?_set_self hrl
  generalize hCC:({accC (putC C1 0 0 awY1 x') t l' 0 with files:=(accC (putC C1 0 0 awY1 x') t l' 0).files.set 0 {y1 with size:=max y1.size (((0:Nat):Int)+((3:Nat):Int))}}:Ck)=CC
  have hx2:CC.frames[0]?=some x':=by rw [←hCC];exact List.getElem?_set_self hrl
  have hg:∀k:Int,getR y1.c k=getR awY1.c k:=fun k=>by
   rw [←hy1];rw [e2];exact getR_markC (by decide) (by show (0:Int)<(awY1.c 0).1;decide +kernel) _ _ k
  have ht0:∀k:Nat,todoC CC {y1 with size:=max y1.size (((0:Nat):Int)+((3:Nat):Int))} k=decide (k=0):=fun k=>by
   show dirtyV CC (getR y1.c k)=_
   rw [hg]
   by_cases hk:k=0
   ·subst hk;rw [show ((0:Nat):Int)=0 from rfl,aw_get0];unfold dirtyV;rw [show ((1:Int) - 1).toNat=0 from rfl,hx2];simp [e4]
   ·rw [aw_getk k hk];simp [dirtyV,hk]
  have hg0:∀k:Nat,goingC CC {y1 with size:=max y1.size (((0:Nat):Int)+((3:Nat):Int))} k=false:=fun k=>by
   show writV CC (getR y1.c k)=_
   rw [hg]
   by_cases hk:k=0
   ·subst hk;rw [show ((0:Nat):Int)=0 from rfl,aw_get0];unfold writV;rw [show ((1:Int) - 1).toNat=0 from rfl,hx2];simp [e3,awX]
   ·rw [aw_getk k hk];simp [writV]
  unfold startS;rw [listP_congr (g:=fun k=>decide (k=0)) 8 (fun k _=>ht0 k),listP_congr (g:=fun _=>false) 8 (fun k _=>hg0 k)];rw [show (max y1.size (((0:Nat):Int)+((3:Nat):Int)))=3 by rw [←hy1];show max (0:Int) (0+3)=3;decide]
  rfl
end
end Go.Proofs.YthhekebemmckcaaGreatDoor
