/-
  Lemmas and contracts for the laws of synchronisations (layer 43), part 34; several texts joined by a program.
-/
import Derived.Test.YthhekebemmckcaaGreatDoorJ01
import Derived.Test.YthhekebemmckcaaGreatDoorJ16
import Derived.Test.YthhekebemmckcaaGreatDoorJ25
namespace Go.Proofs.YthhekebemmckcaaGreatDoor
set_option linter.unusedVariables false
set_option linter.unusedSimpArgs false
set_option maxRecDepth 100000
set_option maxHeartbeats 16000000
open Go.RowKit
section
variable {F G Z:Nat}
def bitB (w:Int) (p:Nat):Bool:=bits .and .i64 w (wrap64 (2 ^ p)) != 0
theorem bit_or_fin:∀(w:Fin 256) (p q:Fin 8),(bitB (bits .or .i64 (w.val:Int) (wrap64 (2 ^ p.val))) q.val=(decide (q=p)||bitB (w.val:Int) q.val))∧0≤bits .or .i64 (w.val:Int) (wrap64 (2 ^ p.val))∧bits .or .i64 (w.val:Int) (wrap64 (2 ^ p.val))<256:=by decide +kernel
theorem bit_or {w:Int} (hw:0≤w∧w<256) {p q:Nat} (hp:p<8) (hq:q<8):bitB (bits .or .i64 w (wrap64 (2 ^ p))) q=(decide (q=p)||bitB w q):=by
 obtain ⟨n,rfl⟩:∃n:Nat,w=n:=⟨w.toNat,by omega⟩;have:=(bit_or_fin ⟨n,by omega⟩ ⟨p,hp⟩ ⟨q,hq⟩).1;rw [this];simp
theorem bit_or_rng {w:Int} (hw:0≤w∧w<256) {p:Nat} (hp:p<8):0≤bits .or .i64 w (wrap64 (2 ^ p))∧bits .or .i64 w (wrap64 (2 ^ p))<256:=by
 obtain ⟨n,rfl⟩:∃n:Nat,w=n:=⟨w.toNat,by omega⟩;exact (bit_or_fin ⟨n,by omega⟩ ⟨p,hp⟩ ⟨0,by omega⟩).2
theorem bit_zero:∀q:Fin 8,bitB 0 q.val=false:=by decide +kernel
def whB (off n sz q:Nat):Bool:=decide ((partI q off n).1=0∧(q:Int)*16+(partI q off n).2=min (sz:Int) (((q:Int)+1)*16))
structure ClS (C:Ck) (j:Nat) (y:Fl) (off n sz k:Nat) (wh cu:Int) (may:Bool):Prop where
 w:0≤wh∧wh<256
 c:0≤cu∧cu<256
 wb:∀q,q<8→(bitB wh q=true↔∃m,m<k∧off / 16+m=q∧whB off n sz q=true)
 cb:∀q,q<8→(bitB cu q=true↔∃m,m<k∧off / 16+m=q∧whB off n sz q=false)
 ok:may=true→∀m,m<k→whB off n sz (off / 16+m)=false→UnOk C j y off n true ((off / 16+m:Nat):Int)
theorem ClS.zero (C:Ck) (j:Nat) (y:Fl) (off n sz:Nat):ClS C j y off n sz 0 0 0 true:=
 ⟨⟨by omega,by omega⟩,⟨by omega,by omega⟩,fun q hq=>by rw [bit_zero ⟨q,hq⟩];simp,fun q hq=>by rw [bit_zero ⟨q,hq⟩];simp,fun _ m hm=>by omega⟩
theorem ClS.whole {C:Ck} {j:Nat} {y:Fl} {off n sz k:Nat} {wh cu:Int} {may:Bool} (h:ClS C j y off n sz k wh cu may) {p:Nat} (hp:p=off / 16+k) (hp8:p<8) (hw:whB off n sz p=true) (m':Bool) (hm:m'=true→may=true):ClS C j y off n sz (k+1) (bits .or .i64 wh (wrap64 (2 ^ p))) cu m':=by
 refine ⟨bit_or_rng h.w hp8,h.c,fun q hq=>?_,fun q hq=>?_,fun ht m hmk hf=>?_⟩
 ·rw [bit_or h.w hp8 hq];simp only [Bool.or_eq_true,decide_eq_true_eq];rw [h.wb q hq]
  constructor
  ·rintro (rfl | ⟨m,h1,h2,h3⟩)
   ·exact ⟨k,by omega,hp.symm,hw⟩
   ·exact ⟨m,by omega,h2,h3⟩
  ·rintro ⟨m,h1,h2,h3⟩
   by_cases e:m=k
   ·subst e;exact .inl (by omega)
   ·exact .inr ⟨m,by omega,h2,h3⟩
 ·rw [h.cb q hq]
  constructor
  ·rintro ⟨m,h1,h2,h3⟩;exact ⟨m,by omega,h2,h3⟩
  ·rintro ⟨m,h1,h2,h3⟩
   by_cases e:m=k
   ·subst e;rw [show q=p by omega,hw] at h3
    cases h3
   ·exact ⟨m,by omega,h2,h3⟩
 ·by_cases e:m=k
  ·subst e;rw [←hp,hw] at hf
   cases hf
  ·exact h.ok (hm ht) m (by omega) hf
theorem ClS.cut {C:Ck} {j:Nat} {y:Fl} {off n sz k:Nat} {wh cu:Int} {may:Bool} (h:ClS C j y off n sz k wh cu may) {p:Nat} (hp:p=off / 16+k) (hp8:p<8) (hw:whB off n sz p=false) (m':Bool) (hm:m'=true→may=true∧UnOk C j y off n true (p:Int)):ClS C j y off n sz (k+1) wh (bits .or .i64 cu (wrap64 (2 ^ p))) m':=by
 refine ⟨h.w,bit_or_rng h.c hp8,fun q hq=>?_,fun q hq=>?_,fun ht m hmk hf=>?_⟩
 ·rw [h.wb q hq]
  constructor
  ·rintro ⟨m,h1,h2,h3⟩;exact ⟨m,by omega,h2,h3⟩
  ·rintro ⟨m,h1,h2,h3⟩
   by_cases e:m=k
   ·subst e;rw [show q=p by omega,hw] at h3
    cases h3
   ·exact ⟨m,by omega,h2,h3⟩
 ·rw [bit_or h.c hp8 hq];simp only [Bool.or_eq_true,decide_eq_true_eq];rw [h.cb q hq]
  constructor
  ·rintro (rfl | ⟨m,h1,h2,h3⟩)
   ·exact ⟨k,by omega,hp.symm,hw⟩
   ·exact ⟨m,by omega,h2,h3⟩
  ·rintro ⟨m,h1,h2,h3⟩
   by_cases e:m=k
   ·subst e;exact .inl (by omega)
   ·exact .inr ⟨m,by omega,h2,h3⟩
 ·by_cases e:m=k
  ·subst e;rw [←hp];exact (hm ht).2
  ·exact h.ok (hm ht).1 m (by omega) hf
def clipN (off n sz:Nat):Nat:=min n (sz - off)
def RetCl (C:Ck) (j:Nat) (y:Fl) (off n sz:Nat) (w:World) (en:Ending) (w':World):Prop:=∃wh cu may,en = .returned (.tuple #[.int .i64 wh,.int .i64 cu,.bool may])∧ClS C j y off (clipN off n sz) sz (if clipN off n sz=0 then 0 else (off+clipN off n sz+15) / 16 - off / 16) wh cu may∧Below w.heap.size w w'
theorem pages0_w (off:Nat) (S:Nat→Prop) (w:World):Calls Tryz.prog 84 #[.int .i64 off,.int .i64 0] w (RetIL [] S w):=by
 go_enter Tryz.func84,Tryz.ntmps84;go_wp2;go_ret;exact ⟨_,rfl,LA.nil _ _ _,Below.refl _ _⟩
theorem clear_w (C:Ck) (j off n sz:Nat) (y:Fl) (a b c d e f g:Value) (S:Nat→Prop) (w:World) (h:CkAt w S a b c d e f g C) (hl:CkOk C) (hj:C.files[j]?=some y) (hsz:y.size=sz) (hs8:sz≤128) (hF:FindOk C j y) (h2:off+n≤128) :
  Calls Tryz.prog 98 #[ckV a b c d e f g,.int .i64 j,.int .i64 off,.int .i64 n] w (RetCl C j y off n sz w):=by
 have hjl':=(g_l hj);have hhf:=fun w' (hb:Below w.heap.size w w')=>hasFile_w C j a b c d e f g S w' (h.step hb) hjl';have hby:=fun w'=>cbytes_w (off:Int) (n:Int) w' (by omega) (by omega) (by omega) (by omega);have hfd:=fun p w' (hb:Below w.heap.size w w')=>find_w40 C j y p a b c d e f g S w' (h.step hb) hj;obtain ⟨cn,hcn⟩:∃cn,cn=clipN off n sz:=⟨_,rfl⟩;have hcn2:cn≤n∧(cn=0∨off+cn≤sz):=by unfold clipN at hcn;omega
 have hpg:∀w',Calls Tryz.prog 84 #[.int .i64 (off:Int),.int .i64 (cn:Int)] w' (RetIL (if cn=0 then [] else pagesL off cn) Any w'):=fun w'=>by
  by_cases e:cn=0
  ·rw [if_pos e,e];exact pages0_w off Any w'
  ·rw [if_neg e];exact pages_w off cn Any w' (by omega) (by omega) (fun _ _=>trivial)
 have hprt:=fun (p:Nat) (hp:p<8) w'=>part_w (p:Int) (off:Int) (cn:Int) w' ⟨by omega,by omega⟩ ⟨by omega,by omega⟩ ⟨by omega,by omega⟩;obtain ⟨A1,cf0,rfl,q1,q2⟩:=h.files.form;obtain ⟨A2,m2,c2,rfl⟩:=h.frames.cap;obtain ⟨A3,m3,c3,A4,m4,c4,A5,m5,c5,A6,m6,c6,A7,m7,c7,rfl,rfl,rfl,rfl,rfl⟩:=CkAt.caps5 h;obtain ⟨bf,of,kt,KB,kc,rfl,hbf,k1,k2,k3,k4,hcf⟩:=FlA.cells h.files hj;have hjl:=(g_l hj);have hl1:C.files.length≤100:=hl.files.2;have j2:(j:Int)<(C.files.length:Int):=by omega
 have j0:(0:Int)≤(j:Int):=by omega
 have H:=H_ h;have HL:=H_ hl;have HJ:=H_ hj;clear h hl hj k1 k2 k3 k4;have HFO:=H_ hF;have HSZ:=H_ hsz;have HCN:=H_ hcn;have HX:=H_ (heap_alloc_at w (.cells #[.slice (some ⟨bf,of,none⟩) C.files.length cf0,.slice A2 m2 c2,.slice A3 m3 c3,.slice A4 m4 c4,.slice A5 m5 c5,.slice A6 m6 c6,.slice A7 m7 c7] 30));have HW:=H_ (bl_alloc (Below.refl w.heap.size w) (.cells #[.slice (some ⟨bf,of,none⟩) C.files.length cf0,.slice A2 m2 c2,.slice A3 m3 c3,.slice A4 m4 c4,.slice A5 m5 c5,.slice A6 m6 c6,.slice A7 m7 c7] 30));have z6w:w.cell? ⟨bf,of+j*15+6,none⟩=some (.int .i64 (sz:Int)):=by rw [←hsz];exact hcf 6 _ rfl
 have HZW:=H_ z6w;clear hF hcf hsz hcn z6w;go_enter Tryz.func98,Tryz.ntmps98
 go_upto_region 1 with fail
 generalize w.alloc (.cells #[.slice (some ⟨bf,of,none⟩) C.files.length cf0,.slice A2 m2 c2,.slice A3 m3 c3,.slice A4 m4 c4,.slice A5 m5 c5,.slice A6 m6 c6,.slice A7 m7 c7] 30)=W at HX HW;obtain ⟨x0,x1,x2,x3,x4,x5,x6⟩:=cs7 HX.out
 go_upto_region 3 with (first
  | (go_at_call 39;go_loud (refine CM (hhf _ HW.out) ?_);rintro e w1 ⟨rfl,hb1⟩;have HX1:=bkh HX hb1;have HW1:=blh HW hb1;clear hb1)
  | (go_at_call 76;go_loud (refine CM (hby _) ?_);rintro e w2 ⟨rfl,rfl⟩)
  | fail)
 clear hhf hby x0 x1 x2 x3 x4 x5 x6 HX HW;obtain ⟨x0,x1,x2,x3,x4,x5,x6⟩:=cs7 HX1.out;have z6:w1.cell? ⟨bf,of+j*15+6,none⟩=some (.int .i64 (sz:Int)):=(cell_kept (HW1.out.block _ hbf)).trans HZW.out
 go_cut [3] (fun s3 wx=>s3 = .int .i64 (cn:Int)∧wx=w1)
 case first=>
  by_cases e1:(n:Int)≤(sz:Int) - (off:Int)
  ·have d1:decide ((n:Int)≤(sz:Int) - (off:Int))=true:=decide_eq_true e1;have d2:decide ((n:Int)<0)=false:=dF (by omega);have hcv:cn=n:=by have:=HCN.out;unfold clipN at this;omega
   have HCV:=H_ hcv;clear hcv;go_wp2;go_meet
   case rel=>exact ⟨by rw [HCV.out],rfl⟩
  ·have d1:decide ((n:Int)≤(sz:Int) - (off:Int))=false:=decide_eq_false e1
   by_cases e2:off≤sz
   ·have d2:decide ((sz:Int) - (off:Int)<0)=false:=dF (by omega);have hcv:(cn:Int)=(sz:Int) - (off:Int):=by have:=HCN.out;unfold clipN at this;omega
    have HCV:=H_ hcv;clear hcv;go_wp2;go_meet
    case rel=>exact ⟨by rw [HCV.out],rfl⟩
   ·have d2:decide ((sz:Int) - (off:Int)<0)=true:=dT (by omega);have hcv:(cn:Int)=0:=by have:=HCN.out;unfold clipN at this;omega
    have HCV:=H_ hcv;clear hcv;go_wp2;go_meet
    case rel=>exact ⟨by rw [HCV.out],rfl⟩
 case rest=>
  obtain ⟨rfl,rfl⟩:=hcut;clear x0 x1 x2 x3 x4 x5 x6 z6
  go_upto_region 6 with (go_at_call 84;go_loud (refine CM (hpg _) ?_);rintro e w3 ⟨pv,rfl,hpv,hb3⟩;have HX3:=bkh HX1 hb3;have HW3:=blh HW1 hb3;have HPV:=H_ (hpv.old);clear hpv hb3)
  obtain ⟨B,hB⟩:∃B,B=w3.heap.size:=⟨_,rfl⟩;rw [←hB] at HPV;have hB1:w.heap.size<B:=by rw [hB];exact bk_lt HX3.out
  obtain ⟨lst,hlst⟩:∃lst,lst=(if cn=0 then [] else pagesL off cn):=⟨_,rfl⟩;rw [←hlst] at HPV;obtain ⟨cnt,hcnt⟩:∃cnt,cnt=(if cn=0 then 0 else (off+cn+15) / 16 - off / 16):=⟨_,rfl⟩;have hpl:lst.length=cnt:=by
   rw [hlst,hcnt]
   split
   ·rfl
   ·rw [pagesL_len]
  have hc9:cnt≤9:=by rw [hcnt];split <;> omega
  obtain ⟨A8,cap8,hpv8,_,_⟩:=HPV.out.form;rw [hpl] at hpv8;subst hpv8;have HB:=H_ hB;have HCT:=H_ hcnt;have HLS:=H_ hlst;have HPL:=H_ hpl;clear hB hcnt hlst hpg hpl;go_wp2
  go_loopw [11,12,13,15] (fun s11 s12 s13 s15 wx=>∃(k:Nat) (wh cu:Int) (may:Bool),s11 = .int .i64 wh∧s12 = .int .i64 cu∧s13 = .bool may∧s15 = .int .i64 k∧k≤cnt∧ClS C j y off cn sz k wh cu may∧LA IntR wx (fun z=>Any z∧z<B) (.slice A8 cnt cap8) lst∧Below w.heap.size w wx∧B≤wx.heap.size∧wx.heap[w.heap.size]?=some (.cells #[.slice (some ⟨bf,of,none⟩) C.files.length cf0,.slice A2 m2 c2,.slice A3 m3 c3,.slice A4 m4 c4,.slice A5 m5 c5,.slice A6 m6 c6,.slice A7 m7 c7] 30 (0,0))) (fun _ _ _ s15 _=>100 - (intOf s15).toNat)
  case atStart=>exact ⟨0,0,0,true,rfl,rfl,rfl,rfl,by omega,.zero _ _ _ _ _ _,HPV.out,HW3.out,by rw [HB.out];exact Nat.le_refl _,HX3.out⟩
  case round=>
   clear HPV HW3 HX3 HX1 HW1;obtain ⟨k,wh,cu,may,rfl,rfl,rfl,rfl,hk,hcl,hp,hb,hBs,hX⟩:=hrel;have HCL:=H_ hcl;have HP:=H_ hp;have HW:=H_ hb;have HX:=H_ hX;obtain ⟨x0,x1,x2,x3,x4,x5,x6⟩:=cs7 hX;clear hcl hb hX
   by_cases hlt:k<cnt
   ·have hcn0:cn≠0:=fun e=>by have:=HCT.out;rw [if_pos e] at this;omega
    have hcnt':cnt=(off+cn+15) / 16 - off / 16:=by have:=HCT.out;rw [if_neg hcn0] at this;exact this
    have hls':lst=pagesL off cn:=by have:=HLS.out;rw [if_neg hcn0] at this;exact this
    have hget:=pagesL_get off cn k (by omega);rw [←hls'] at hget;have hrg:=pg_range (off:=off) (n:=cn) (k:=k) (by omega) (by omega);obtain ⟨p,hpe⟩:∃p:Nat,p=off / 16+k:=⟨_,rfl⟩;rw [←hpe] at hget hrg;obtain ⟨r1,r2,r3⟩:=hrg;have HPE:=H_ hpe;have HGET:=H_ hget;obtain ⟨at',ct,hpt,hac⟩:∃at' ct:Nat,partI p off cn=((at':Int),(ct:Int))∧at'+ct≤16:=by
     obtain ⟨g1,g2,g3,g4⟩:=part_ok r1 r2;exact ⟨(partI p off cn).1.toNat,(partI p off cn).2.toNat,Prod.ext (by dsimp only;omega) (by dsimp only;omega),by omega⟩
    have hprt':∀w',Calls Tryz.prog 125 #[.int .i64 (p:Int),.int .i64 (off:Int),.int .i64 (cn:Int)] w' (RetQ (.tuple #[.int .i64 (at':Int),.int .i64 (ct:Int)]) w'):=fun w'=>by
     have:=hprt p r3 w';rw [hpt] at this;exact this
    have HPT:=H_ hpt;have hwB:whB off cn sz p=decide ((at':Int)=0∧(p:Int)*16+(ct:Int)=min (sz:Int) (((p:Int)+1)*16)):=by unfold whB;rw [hpt]
    have HWB:=H_ hwB;obtain ⟨b8,o8,cap9,hv8,_,_,hb8,hb8s,l0⟩:=IL.cell hp hget;rw [HPL.out] at hv8;injection hv8 with e81 e82 e83
    subst e81 e83;clear hget hpe hp hpt hwB hls' hcnt' hprt hcn0 e82
    go_upto_region 10 with (go_at_call 125;go_loud (refine CM (hprt' _) ?_);rintro e w4 ⟨rfl,rfl⟩)
    go_cut [18,19] (fun s18 s19 wx=>(∃(m:Int) (ok:Bool),s18 = .int .i64 m∧s19 = .bool ok∧(ok=false∨ok=true∧∃(i:Nat) (x:Fr),m=(i:Int)+1∧getR y.c p=(i:Int)+1∧FrU C i x j y∧x.page=p))∧LA IntR wx (fun z=>Any z∧z<B) (.slice (some ⟨b8,o8,none⟩) cnt cap8) lst∧Below w.heap.size w wx∧B≤wx.heap.size∧wx.heap[w.heap.size]?=some (.cells #[.slice (some ⟨bf,of,none⟩) C.files.length cf0,.slice A2 m2 c2,.slice A3 m3 c3,.slice A4 m4 c4,.slice A5 m5 c5,.slice A6 m6 c6,.slice A7 m7 c7] 30 (0,0)))
    case first=>
     have xe:=ext_cell wr;have hbX:=bk_lt HX.out
     by_cases hv:getR y.c p≤0
     ·have hfq:∀z,Calls Tryz.prog 23 #[ckV (.slice (some ⟨bf,of,none⟩) C.files.length cf0) (.slice A2 m2 c2) (.slice A3 m3 c3) (.slice A4 m4 c4) (.slice A5 m5 c5) (.slice A6 m6 c6) (.slice A7 m7 c7),.int .i64 j,.int .i64 p] (ext wr z) (fun e w''=>e = .returned (.tuple #[.int .i64 0,.bool false])∧Below (ext wr z).heap.size (ext wr z) w''):=fun z=>by
       have:=hfd p (ext wr z) (bl_step HW.out (below_ext wr z));unfold RetFd fdV at this;rw [if_pos hv] at this;exact this
      clear hv hfd;refine wp_region_ext (by kernel_rfl) (by kernel_rfl) ?_
      repeat (go_big_quiet_step ((exact ext_call (hfq _))))
      refine wpQuiet_nil ?_;rintro w' ⟨z,rfl⟩;go_wp2;go_meet
      case rel=>exact ⟨⟨0,false,rfl,rfl,.inl rfl⟩,HP.out.step (below_ext wr z),bl_step HW.out (below_ext wr z),Nat.le_trans hBs (below_ext wr z).size,bk_step HX.out (below_ext wr z)⟩
     ·obtain ⟨i,x,hgi,hU,hxp⟩:=HFO.out p (by omega);have hfq:∀z,Calls Tryz.prog 23 #[ckV (.slice (some ⟨bf,of,none⟩) C.files.length cf0) (.slice A2 m2 c2) (.slice A3 m3 c3) (.slice A4 m4 c4) (.slice A5 m5 c5) (.slice A6 m6 c6) (.slice A7 m7 c7),.int .i64 j,.int .i64 p] (ext wr z) (fun e w''=>e = .returned (.tuple #[.int .i64 ((i:Int)+1),.bool true])∧Below (ext wr z).heap.size (ext wr z) w''):=fun z=>by
       have:=hfd p (ext wr z) (bl_step HW.out (below_ext wr z));unfold RetFd fdV at this;rw [if_neg hv,hgi] at this;exact this
      have HU:=H_ hU;have HGI:=H_ hgi;have HXP:=H_ hxp;clear hv hfd hU hgi hxp;refine wp_region_ext (by kernel_rfl) (by kernel_rfl) ?_
      repeat (go_big_quiet_step ((exact ext_call (hfq _))))
      refine wpQuiet_nil ?_;rintro w' ⟨z,rfl⟩;go_wp2;go_meet
      case rel=>exact ⟨⟨_,true,rfl,rfl,.inr ⟨rfl,i,x,rfl,HGI.out,HU.out,HXP.out⟩⟩,HP.out.step (below_ext wr z),bl_step HW.out (below_ext wr z),Nat.le_trans hBs (below_ext wr z).size,bk_step HX.out (below_ext wr z)⟩
    case rest=>
     clear x0 x1 x2 x3 x4 x5 x6 l0 HP HW HX;obtain ⟨⟨m,ok,rfl,rfl,hok⟩,hp,hb,hBs,hX⟩:=hcut;have HP:=H_ hp;have HW:=H_ hb;have HX:=H_ hX;have HOK:=H_ hok;clear hp hb hX hok
     go_upto_region 11 with fail
     go_cut [97] (fun s97 wx=>s97 = .bool (whB off cn sz p)∧LA IntR wx (fun z=>Any z∧z<B) (.slice (some ⟨b8,o8,none⟩) cnt cap8) lst∧Below w.heap.size w wx∧B≤wx.heap.size∧wx.heap[w.heap.size]?=some (.cells #[.slice (some ⟨bf,of,none⟩) C.files.length cf0,.slice A2 m2 c2,.slice A3 m3 c3,.slice A4 m4 c4,.slice A5 m5 c5,.slice A6 m6 c6,.slice A7 m7 c7] 30 (0,0)))
     case first=>
      have xe:=ext_cell wc;have hbX:=bk_lt HX.out;obtain ⟨b8',o8',cap8',hv8',_,_,hb8',_,l0⟩:=IL.cell HP.out HGET.out;rw [HPL.out] at hv8';injection hv8' with ee ee3 ee4
      clear ee3 ee4;injection ee with ee
      injection ee with ee1 ee2
      subst ee1 ee2;have z6:wc.cell? ⟨bf,of+j*15+6,none⟩=some (.int .i64 (sz:Int)):=(cell_kept (HW.out.block _ hbf)).trans HZW.out;have hbF:bf<wc.heap.size:=Nat.lt_of_lt_of_le hbf HW.out.size;obtain ⟨x0,x1,x2,x3,x4,x5,x6⟩:=cs7 HX.out;have w1':IntKind.i64.wrap ((p:Int)*16)=(p:Int)*16:=IntWalk.i64_in _ (by omega);have w2':IntKind.i64.wrap ((p:Int)*16+(ct:Int))=(p:Int)*16+(ct:Int):=IntWalk.i64_in _ (by omega);have w3':IntKind.i64.wrap ((p:Int)+1)=(p:Int)+1:=IntWalk.i64_in _ (by omega);have w4':IntKind.i64.wrap (((p:Int)+1)*16)=((p:Int)+1)*16:=IntWalk.i64_in _ (by omega)
      by_cases a0:at'=0
      ·have d0:((at':Int) == 0)=true:=beq_iff_eq.2 (by omega)
       by_cases hm:(sz:Int)≤((p:Int)+1)*16
       ·have dm:decide ((sz:Int)≤((p:Int)+1)*16)=true:=decide_eq_true hm
        by_cases he:(p:Int)*16+(ct:Int)=(sz:Int)
        ·have de:((p:Int)*16+(ct:Int) == (sz:Int))=true:=beq_iff_eq.2 he;have HV:=H_ (show whB off cn sz p=true by rw [HWB.out];exact decide_eq_true ⟨by omega,by omega⟩);clear a0 he;refine wp_region_ext (by kernel_rfl) (by kernel_rfl) ?_
         repeat (go_big_quiet_step (fail))
         refine wpQuiet_nil ?_;rintro w' ⟨z,rfl⟩;go_wp2;go_meet
         case rel=>exact ⟨by rw [HV.out],HP.out.step (below_ext wc z),bl_step HW.out (below_ext wc z),Nat.le_trans hBs (below_ext wc z).size,bk_step HX.out (below_ext wc z)⟩
        ·have de:((p:Int)*16+(ct:Int) == (sz:Int))=false:=beq_eq_false_iff_ne.2 he;have HV:=H_ (show whB off cn sz p=false by rw [HWB.out];exact decide_eq_false (fun h=>by omega));clear a0 he;refine wp_region_ext (by kernel_rfl) (by kernel_rfl) ?_
         repeat (go_big_quiet_step (fail))
         refine wpQuiet_nil ?_;rintro w' ⟨z,rfl⟩;go_wp2;go_meet
         case rel=>exact ⟨by rw [HV.out],HP.out.step (below_ext wc z),bl_step HW.out (below_ext wc z),Nat.le_trans hBs (below_ext wc z).size,bk_step HX.out (below_ext wc z)⟩
       ·have dm:decide ((sz:Int)≤((p:Int)+1)*16)=false:=decide_eq_false hm
        by_cases he:(p:Int)*16+(ct:Int)=((p:Int)+1)*16
        ·have de:((p:Int)*16+(ct:Int) == ((p:Int)+1)*16)=true:=beq_iff_eq.2 he;have HV:=H_ (show whB off cn sz p=true by rw [HWB.out];exact decide_eq_true ⟨by omega,by omega⟩);clear a0 he;refine wp_region_ext (by kernel_rfl) (by kernel_rfl) ?_
         repeat (go_big_quiet_step (fail))
         refine wpQuiet_nil ?_;rintro w' ⟨z,rfl⟩;go_wp2;go_meet
         case rel=>exact ⟨by rw [HV.out],HP.out.step (below_ext wc z),bl_step HW.out (below_ext wc z),Nat.le_trans hBs (below_ext wc z).size,bk_step HX.out (below_ext wc z)⟩
        ·have de:((p:Int)*16+(ct:Int) == ((p:Int)+1)*16)=false:=beq_eq_false_iff_ne.2 he;have HV:=H_ (show whB off cn sz p=false by rw [HWB.out];exact decide_eq_false (fun h=>by omega));clear a0 he;refine wp_region_ext (by kernel_rfl) (by kernel_rfl) ?_
         repeat (go_big_quiet_step (fail))
         refine wpQuiet_nil ?_;rintro w' ⟨z,rfl⟩;go_wp2;go_meet
         case rel=>exact ⟨by rw [HV.out],HP.out.step (below_ext wc z),bl_step HW.out (below_ext wc z),Nat.le_trans hBs (below_ext wc z).size,bk_step HX.out (below_ext wc z)⟩
      ·have d0:((at':Int) == 0)=false:=beq_eq_false_iff_ne.2 (by omega);have HV:=H_ (show whB off cn sz p=false by rw [HWB.out];exact decide_eq_false (fun h=>by omega));clear a0;refine wp_region_ext (by kernel_rfl) (by kernel_rfl) ?_
       repeat (go_big_quiet_step (fail))
       refine wpQuiet_nil ?_;rintro w' ⟨z,rfl⟩;go_wp2;go_meet
       case rel=>exact ⟨by rw [HV.out],HP.out.step (below_ext wc z),bl_step HW.out (below_ext wc z),Nat.le_trans hBs (below_ext wc z).size,bk_step HX.out (below_ext wc z)⟩
     case rest=>
      obtain ⟨rfl,hp,hb,hBs,hX⟩:=hcut;have HP:=H_ hp;have HW:=H_ hb;have HX:=H_ hX;obtain ⟨b8',o8',cap8',hv8',_,_,hb8',_,l0⟩:=IL.cell hp HGET.out;rw [HPL.out] at hv8';injection hv8' with ee ee3 ee4
      clear ee3 ee4;injection ee with ee
      injection ee with ee1 ee2
      subst ee1 ee2;obtain ⟨x0,x1,x2,x3,x4,x5,x6⟩:=cs7 hX;clear hp hb hX
      cases hwb:whB off cn sz p with
      | true=>
       have HWT:=H_ hwb;clear hwb
       rcases HOK.out with rfl | ⟨rfl,i,x,rfl,hgi,hU,hxp⟩
       ·cases may
        all_goals
         go_wp2;go_roundw
         case rel=>exact ⟨k+1,_,cu,_,rfl,rfl,rfl,by go_num,by omega,HCL.out.whole HPE.out r3 HWT.out _ (fun h=>by first | exact h | rfl),HP.out,HW.out,hBs,HX.out⟩
         case measure=>simp [intOf];omega
       ·cases may with
        | false=>
         clear hgi hU hxp;go_wp2;go_roundw
         case rel=>exact ⟨k+1,_,cu,_,rfl,rfl,rfl,by go_num,by omega,HCL.out.whole HPE.out r3 HWT.out _ (fun h=>h),HP.out,HW.out,hBs,HX.out⟩
         case measure=>simp [intOf];omega
        | true=>
         obtain ⟨A2',cr0,ea,q3,q4⟩:=H.out.frames.form;injection ea with ea1 ea2 ea3
         subst ea1 ea2 ea3;obtain ⟨bb,o,rfl,hbl,y0,y1,y2,y3,y4,y5,y6,y7,y8⟩:=FrA.cells H.out.frames hU.fr;have hil:=(g_l hU.fr);have i2:(i:Int)<(C.frames.length:Int):=by omega
         have hl2:C.frames.length≤100:=HL.out.frames.2;replace y0:=(cell_kept (HW.out.block _ hbl)).trans y0;replace y1:=(cell_kept (HW.out.block _ hbl)).trans y1;replace y2:=(cell_kept (HW.out.block _ hbl)).trans y2;replace y3:=(cell_kept (HW.out.block _ hbl)).trans y3;replace y4:=(cell_kept (HW.out.block _ hbl)).trans y4;replace y5:=(cell_kept (HW.out.block _ hbl)).trans y5;replace y6:=(cell_kept (HW.out.block _ hbl)).trans y6;replace y7:=(cell_kept (HW.out.block _ hbl)).trans y7;replace y8:=(cell_kept (HW.out.block _ hbl)).trans y8;have hidw:=fun w'=>idle_w x w';clear hgi hU hxp
         cases hid:idleB x
         all_goals
          rw [hid] at hidw;clear hid
          go_wp2_with (go_at_call 95;go_loud (refine CM (hidw _) ?_);rintro e w5 ⟨rfl,hb5⟩)
          go_roundw
          case rel=>exact ⟨k+1,_,cu,_,rfl,rfl,rfl,by go_num,by omega,HCL.out.whole HPE.out r3 HWT.out _ (fun h=>by first | exact h | rfl),HP.out.step hb5,bl_step HW.out hb5,Nat.le_trans hBs hb5.size,bk_step HX.out hb5⟩
          case measure=>simp [intOf];omega
      | false=>
       have HWT:=H_ hwb;clear hwb
       rcases HOK.out with rfl | ⟨rfl,i,x,rfl,hgi,hU,hxp⟩
       ·go_wp2;go_roundw
        case rel=>exact ⟨k+1,wh,_,_,rfl,rfl,rfl,by go_num,by omega,HCL.out.cut HPE.out r3 HWT.out _ (fun h=>by cases h),HP.out,HW.out,hBs,HX.out⟩
        case measure=>simp [intOf];omega
       ·obtain ⟨A2',cr0,ea,q3,q4⟩:=H.out.frames.form;injection ea with ea1 ea2 ea3
        subst ea1 ea2 ea3;obtain ⟨bb,o,rfl,hbl,y0,y1,y2,y3,y4,y5,y6,y7,y8⟩:=FrA.cells H.out.frames hU.fr;have hil:=(g_l hU.fr);have i2:(i:Int)<(C.frames.length:Int):=by omega
        have hl2:C.frames.length≤100:=HL.out.frames.2;replace y0:=(cell_kept (HW.out.block _ hbl)).trans y0;replace y1:=(cell_kept (HW.out.block _ hbl)).trans y1;replace y2:=(cell_kept (HW.out.block _ hbl)).trans y2;replace y3:=(cell_kept (HW.out.block _ hbl)).trans y3;replace y4:=(cell_kept (HW.out.block _ hbl)).trans y4;replace y5:=(cell_kept (HW.out.block _ hbl)).trans y5;replace y6:=(cell_kept (HW.out.block _ hbl)).trans y6;replace y7:=(cell_kept (HW.out.block _ hbl)).trans y7;replace y8:=(cell_kept (HW.out.block _ hbl)).trans y8;have hnd:=fun w'=>needs_w x.pg.data x.pg.valid x.pg.dirty (at':Int) (ct:Int) true w' hU.ok.pg (by omega) (by omega) (by omega) (by omega);have HUN:=H_ (show needI x.pg.valid (at':Int) (ct:Int) true=0→UnOk C j y off cn true (p:Int) from fun h0=>⟨i,x,hgi,hU,hxp,by rw [HPT.out];exact h0⟩);have hbx:=bk_lt HX.out;clear hgi hU hxp
        go_upto_region 18 with fail
        have HFx:=H_ (heap_at_new wc (oF x) wc.heap.size rfl);have HXx:=H_ (bk_alloc HX.out (oF x));have hbl5:=bl_alloc (Below.refl wc.heap.size wc) (oF x);have HWx:=blh HW hbl5;have HPx:=H_ (HP.out.step hbl5);have hBx:B≤(wc.alloc (oF x)).heap.size:=Nat.le_trans hBs hbl5.size;clear hbl5;generalize wc.alloc (oF x)=W9 at HFx HXx HWx HPx hBx;clear x0 x1 x2 x3 x4 x5 x6 y0 y1 y2 y3 y4 y5 y6 y7 y8 l0;obtain ⟨f0,f1,f2,f3,f4,f5,f6,f7,f8⟩:=cs9 HFx.out
        cases may
        all_goals cases hd1:(x.reading == 0)
        all_goals cases hd2:(x.writing == 0)
        all_goals cases hd3:(needI x.pg.valid (at':Int) (ct:Int) true == 0)
        all_goals
         have HD3:=H_ hd3
         go_wp2_with (go_at_call 126;go_loud (refine CM (hnd _) ?_);rintro e w5 ⟨rfl,hb5⟩;clear f0 f1 f2 f3 f4 f5 f6 f7 f8;have f0:=cells_at (bk_step HFx.out hb5) 0;have f1:=cells_at (bk_step HFx.out hb5) 1;have f2:=cells_at (bk_step HFx.out hb5) 2;have f3:=cells_at (bk_step HFx.out hb5) 3;have f4:=cells_at (bk_step HFx.out hb5) 4;have f5:=cells_at (bk_step HFx.out hb5) 5;have f6:=cells_at (bk_step HFx.out hb5) 6;have f7:=cells_at (bk_step HFx.out hb5) 7;have f8:=cells_at (bk_step HFx.out hb5) 8;simp only [List.getElem?_toArray,List.getElem?_cons_zero,List.getElem?_cons_succ] at f0 f1 f2 f3 f4 f5 f6 f7 f8)
         go_roundw
         case rel=>exact ⟨k+1,wh,_,_,rfl,rfl,rfl,by go_num,by omega,HCL.out.cut HPE.out r3 HWT.out _ (fun h=>by first | (cases h;done) | exact ⟨rfl,HUN.out (beq_iff_eq.1 HD3.out)⟩),HPx.out.step hb5,bl_step HWx.out hb5,Nat.le_trans hBx hb5.size,bk_step HXx.out hb5⟩
         case measure=>simp [intOf];omega
   ·obtain rfl:k=cnt:=by omega
    go_wp2
    go_ret3
    exact ⟨wh,cu,may,rfl,by rw [←HCN.out,←HCT.out];exact HCL.out,HW.out⟩
end
end Go.Proofs.YthhekebemmckcaaGreatDoor
