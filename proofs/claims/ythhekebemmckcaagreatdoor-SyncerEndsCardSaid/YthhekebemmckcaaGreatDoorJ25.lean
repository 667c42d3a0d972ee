/-
  Lemmas and contracts for the laws of synchronisations (layer 43), part 25; several texts joined by a program.
-/
import Derived.Test.YthhekebemmckcaaGreatDoorJ01
import Derived.Test.YthhekebemmckcaaGreatDoorJ16
import Derived.Test.YthhekebemmckcaaGreatDoorJ24
namespace Go.Proofs.YthhekebemmckcaaGreatDoor
set_option linter.unusedVariables false
set_option linter.unusedSimpArgs false
set_option maxRecDepth 100000
set_option maxHeartbeats 16000000
open Go.RowKit
section
theorem pagesL_len (off n:Nat):(pagesL off n).length=(off+n+15) / 16 - off / 16:=pgL_len _ _
theorem pagesL_get (off n k:Nat) (hk:k<(off+n+15) / 16 - off / 16):(pagesL off n)[k]?=some (((off / 16+k:Nat):Nat):Int):=by
 unfold pagesL pgL;rw [List.getElem?_map,List.getElem?_range hk]
 rfl
theorem pagesL_mem {off n:Nat} {p:Int} (h:p ∈ pagesL off n):∃k,k<(off+n+15) / 16 - off / 16∧p=((off / 16+k:Nat):Int):=by
 unfold pagesL pgL at h;obtain ⟨k,hk,rfl⟩:=List.mem_map.1 h;exact ⟨k,by simpa using hk,rfl⟩
theorem part_ok {off n p:Nat} (h1:p*16<off+n) (h2:off<(p+1)*16):0≤(partI p off n).1∧0≤(partI p off n).2∧(partI p off n).1≤16∧(partI p off n).2≤16 - (partI p off n).1:=by
 unfold partI;refine ⟨?_,?_,?_,?_⟩ <;> (dsimp only;omega)
theorem pg_range {off n k:Nat} (hk:k<(off+n+15) / 16 - off / 16) (h2:off+n≤128):(off / 16+k)*16<off+n∧off<(off / 16+k+1)*16∧off / 16+k<8:=by omega
def NdR:RR (Int × Int) 2:=RR.flat (fun x=>[.int .i64 x.1,.int .i64 x.2]) (fun a=>⟨rfl,fun u hu=>by simp at hu;rcases hu with rfl | rfl <;> rfl⟩)
theorem nd_info:(Tryz.prog.info? 187).map (fun i=>(i.zero,i.size,i.bytes))=some (some (.agg #[.int .i64 0,.int .i64 0]),2,16):=by kernel_rfl
theorem nd_el:Elem Tryz.prog 129 187 2:=by
 obtain ⟨i,h1,h2,h3,h4⟩:=info_parts nd_info;exact ⟨i,_,16,Tryz.underlying129,h1,h2,h3,h4,rfl,by omega,by omega⟩
def UnOk (C:Ck) (j:Nat) (y:Fl) (off n:Nat) (wr:Bool) (p:Int):Prop:=∃(i:Nat) (x:Fr),getR y.c p=(i:Int)+1∧FrU C i x j y∧x.page=p∧needI x.pg.valid (partI p off n).1 (partI p off n).2 wr=0
def RetUn (C:Ck) (j:Nat) (y:Fl) (off n:Nat) (wr:Bool) (w:World) (en:Ending) (w':World):Prop:=∃u K err,en = .returned (.tuple #[u,.int .i64 err])∧LA NdR w' Any u K∧K.length≤100∧(err=0∨err=4)∧(err=0→K=[]→∀p ∈ pagesL off n,UnOk C j y off n wr p)∧((∀p ∈ pagesL off n,UnOk C j y off n wr p)→err=0∧K=[])∧Below w.heap.size w w'
theorem unread_w (C:Ck) (j:Nat) (y:Fl) (off n:Nat) (wr0:Bool) (a b c d e f g:Value) (S:Nat→Prop) (w:World) (h:CkAt w S a b c d e f g C) (hl:CkOk C) (hj:C.files[j]?=some y) (hF:FindOk C j y) (h1:1≤n) (h2:off+n≤128) :
  Calls Tryz.prog 77 #[ckV a b c d e f g,.int .i64 j,.int .i64 off,.int .i64 n,.bool wr0] w (RetUn C j y off n wr0 w):=by
 have hjl':=(g_l hj);have hhf:=fun w' (hb:Below w.heap.size w w')=>hasFile_w C j a b c d e f g S w' (h.step hb) hjl';have hby:=fun w'=>cbytes_w (off:Int) (n:Int) w' (by omega) (by omega) (by omega) (by omega);have hpg:=fun w'=>pages_w off n Any w' h1 h2 (fun _ _=>trivial);have hfd:=fun p w' (hb:Below w.heap.size w w')=>find_w40 C j y p a b c d e f g S w' (h.step hb) hj;have hprt:=fun (p:Nat) (hp:p<8) w'=>part_w (p:Int) (off:Int) (n:Int) w' ⟨by omega,by omega⟩ ⟨by omega,by omega⟩ ⟨by omega,by omega⟩;obtain ⟨A1,cf0,rfl,q1,q2⟩:=h.files.form;obtain ⟨A2,m2,c2,rfl⟩:=h.frames.cap;obtain ⟨A3,m3,c3,A4,m4,c4,A5,m5,c5,A6,m6,c6,A7,m7,c7,rfl,rfl,rfl,rfl,rfl⟩:=CkAt.caps5 h;obtain ⟨bf,of,kt,KB,kc,rfl,hbf,k1,k2,k3,k4,hcf⟩:=FlA.cells h.files hj;have hjl:=(g_l hj);have hl1:C.files.length≤100:=hl.files.2;have j2:(j:Int)<(C.files.length:Int):=by omega
 have j0:(0:Int)≤(j:Int):=by omega
 have H:=H_ h;have HL:=H_ hl;have HJ:=H_ hj;clear h hl hj k1 k2 k3 k4;have HFO:=H_ hF;have HX:=H_ (heap_alloc_at w (.cells #[.slice (some ⟨bf,of,none⟩) C.files.length cf0,.slice A2 m2 c2,.slice A3 m3 c3,.slice A4 m4 c4,.slice A5 m5 c5,.slice A6 m6 c6,.slice A7 m7 c7] 30));have HW:=H_ (bl_alloc (Below.refl w.heap.size w) (.cells #[.slice (some ⟨bf,of,none⟩) C.files.length cf0,.slice A2 m2 c2,.slice A3 m3 c3,.slice A4 m4 c4,.slice A5 m5 c5,.slice A6 m6 c6,.slice A7 m7 c7] 30));clear hF hcf;go_enter Tryz.func77,Tryz.ntmps77
 go_upto_region 1 with fail
 generalize w.alloc (.cells #[.slice (some ⟨bf,of,none⟩) C.files.length cf0,.slice A2 m2 c2,.slice A3 m3 c3,.slice A4 m4 c4,.slice A5 m5 c5,.slice A6 m6 c6,.slice A7 m7 c7] 30)=W at HX HW;obtain ⟨x0,x1,x2,x3,x4,x5,x6⟩:=cs7 HX.out
 go_upto_region 5 with (first
  | (go_at_call 39;go_loud (refine CM (hhf _ HW.out) ?_);rintro e w1 ⟨rfl,hb1⟩;have HX1:=bkh HX hb1;have HW1:=blh HW hb1;clear hb1)
  | (go_at_call 76;go_loud (refine CM (hby _) ?_);rintro e w2 ⟨rfl,rfl⟩)
  | (go_at_call 84;go_loud (refine CM (hpg _) ?_);rintro e w3 ⟨pv,rfl,hpv,hb3⟩;have HX3:=bkh HX1 hb3;have HW3:=blh HW1 hb3;have HPV:=H_ (hpv.old);clear hpv hb3)
  | fail)
 clear hhf hby hpg x0 x1 x2 x3 x4 x5 x6 HX HW HX1 HW1;obtain ⟨B,hB⟩:∃B,B=w3.heap.size:=⟨_,rfl⟩;rw [←hB] at HPV;have hB1:w.heap.size<B:=by rw [hB];exact bk_lt HX3.out
 obtain ⟨cnt,hcnt⟩:∃cnt,cnt=(off+n+15) / 16 - off / 16:=⟨_,rfl⟩;have hpl:(pagesL off n).length=cnt:=by rw [pagesL_len,hcnt]
 have hc9:cnt≤9:=by omega
 obtain ⟨A8,cap8,hpv8,_,_⟩:=HPV.out.form;rw [hpl] at hpv8;subst hpv8;have HB:=H_ hB;have HCN:=H_ hcnt;clear hB hcnt;go_wp2
 go_loopw [12,14] (fun s12 s14 wx=>∃(k:Nat) (K:List (Int × Int)),s14 = .int .i64 k∧k≤cnt∧K.length≤k∧LO NdR 187 wx B (fun _=>False) s12 K∧LA IntR wx (fun z=>Any z∧z<B) (.slice A8 cnt cap8) (pagesL off n)∧(K=[]→∀(m:Nat) (p:Int),m<k→(pagesL off n)[m]?=some p→UnOk C j y off n wr0 p)∧((∀p ∈ pagesL off n,UnOk C j y off n wr0 p)→K=[])∧Below w.heap.size w wx∧B≤wx.heap.size∧wx.heap[w.heap.size]?=some (.cells #[.slice (some ⟨bf,of,none⟩) C.files.length cf0,.slice A2 m2 c2,.slice A3 m3 c3,.slice A4 m4 c4,.slice A5 m5 c5,.slice A6 m6 c6,.slice A7 m7 c7] 30 (0,0))) (fun _ s14 _=>100 - (intOf s14).toNat)
 case atStart=>exact ⟨0,[],rfl,by omega,by simp,LO.nil _ _ _ _ _,HPV.out,fun _ m p hm=>absurd hm (by omega),fun _=>rfl,HW3.out,by rw [HB.out];exact Nat.le_refl _,HX3.out⟩
 case round=>
  clear HPV HW3 HX3;obtain ⟨k,K,rfl,hk,hKl,ho,hp,hgood,hback,hb,hBs,hX⟩:=hrel;have HBK:=H_ hback;clear hback;have HO:=H_ ho;have HP:=H_ hp;have HG:=H_ hgood;have HW:=H_ hb;have HX:=H_ hX;have hbX:=bk_lt hX;obtain ⟨x0,x1,x2,x3,x4,x5,x6⟩:=cs7 hX;clear ho hgood hb hX
  by_cases hlt:k<cnt
  ·have hget:=pagesL_get off n k (by have:=HCN.out;omega);have hrg:=pg_range (off:=off) (n:=n) (k:=k) (by have:=HCN.out;omega) h2;obtain ⟨p,hpe⟩:∃p:Nat,p=off / 16+k:=⟨_,rfl⟩;rw [←hpe] at hget hrg;obtain ⟨r1,r2,r3⟩:=hrg;have HGET:=H_ hget;have hpo:=part_ok r1 r2;have HPO:=H_ hpo;obtain ⟨b8,o8,cap9,hv8,_,_,hb8,_,l0⟩:=IL.cell hp hget;injection hv8 with e81 e82 e83
   subst e81 e82 e83;have hpt:=hprt p r3;clear hget hpe hp hpo r1 r2
   by_cases hv:getR y.c p≤0
   ·have HNV:=H_ hv;have hfq:∀z,Calls Tryz.prog 23 #[ckV (.slice (some ⟨bf,of,none⟩) C.files.length cf0) (.slice A2 m2 c2) (.slice A3 m3 c3) (.slice A4 m4 c4) (.slice A5 m5 c5) (.slice A6 m6 c6) (.slice A7 m7 c7),.int .i64 j,.int .i64 p] (ext wr z) (fun e w''=>e = .returned (.tuple #[.int .i64 0,.bool false])∧Below (ext wr z).heap.size (ext wr z) w''):=fun z=>by
     have:=hfd p (ext wr z) (bl_step HW.out (below_ext wr z));unfold RetFd fdV at this;rw [if_pos hv] at this;exact this
    have xe:=ext_cell wr;clear hv hfd
    go_upto_region 8 with fail
    refine wp_region_ext (by kernel_rfl) (by kernel_rfl) ?_
    repeat (go_big_quiet_step ((exact ext_call (hfq _))))
    refine wpQuiet_nil ?_;rintro w' ⟨z,rfl⟩;go_wp2
    go_ret2
    exact ⟨_,[],4,rfl,LA.nil _ _ _,by simp,.inr rfl,fun h=>absurd h (by decide),fun h=>by
     obtain ⟨i,x,g1,_⟩:=h p (List.mem_of_getElem? HGET.out);have:=HNV.out;omega,bl_step HW.out (below_ext _ _)⟩
   ·obtain ⟨i,x,hgi,hU,hxp⟩:=HFO.out p (by omega);have hfq:∀z,Calls Tryz.prog 23 #[ckV (.slice (some ⟨bf,of,none⟩) C.files.length cf0) (.slice A2 m2 c2) (.slice A3 m3 c3) (.slice A4 m4 c4) (.slice A5 m5 c5) (.slice A6 m6 c6) (.slice A7 m7 c7),.int .i64 j,.int .i64 p] (ext wr z) (fun e w''=>e = .returned (.tuple #[.int .i64 ((i:Int)+1),.bool true])∧Below (ext wr z).heap.size (ext wr z) w''):=fun z=>by
     have:=hfd p (ext wr z) (bl_step HW.out (below_ext wr z));unfold RetFd fdV at this;rw [if_neg hv,hgi] at this;exact this
    have HGI:=H_ hgi;have HXP:=H_ hxp;have HU:=H_ hU;obtain ⟨A2',cr0,ea,q3,q4⟩:=H.out.frames.form;injection ea with ea1 ea2 ea3
    subst ea1 ea2 ea3;obtain ⟨bb,o,rfl,hbl,y0,y1,y2,y3,y4,y5,y6,y7,y8⟩:=FrA.cells H.out.frames hU.fr;have hil:=(g_l hU.fr);have i2:(i:Int)<(C.frames.length:Int):=by omega
    have hl2:C.frames.length≤100:=HL.out.frames.2;have hnd:=fun w'=>needs_w x.pg.data x.pg.valid x.pg.dirty (partI p off n).1 (partI p off n).2 wr0 w' hU.ok.pg HPO.out.1 HPO.out.2.1 HPO.out.2.2.1 HPO.out.2.2.2;have xe:=ext_cell wr;clear hfd hv hgi hxp hU y0 y1 y5 y6 y7 y8
    go_upto_region 8 with fail
    refine wp_region_ext (by kernel_rfl) (by kernel_rfl) ?_
    repeat (go_big_quiet_step ((exact ext_call (hfq _))))
    refine wpQuiet_nil ?_;rintro w' ⟨z,rfl⟩;have HWz:=H_ (bl_step HW.out (below_ext wr z));have HXz:=H_ (bk_step HX.out (below_ext wr z));have HOz:=H_ (HO.out.step (below_ext wr z));have HPz:=H_ (HP.out.step (below_ext wr z));have hBz:B≤(ext wr z).heap.size:=Nat.le_trans hBs (below_ext wr z).size;replace y2:=(cell_kept (HWz.out.block _ hbl)).trans y2;replace y3:=(cell_kept (HWz.out.block _ hbl)).trans y3;replace y4:=(cell_kept (HWz.out.block _ hbl)).trans y4;replace l0:(ext wr z).cell? _=_:=(cell_kept ((below_ext wr z).block _ hb8)).trans l0;clear xe x0 x1 x2 x3 x4 x5 x6 hfq;generalize ext wr z=V at HWz HXz HOz HPz y2 y3 y4 l0 hBz;obtain ⟨x0,x1,x2,x3,x4,x5,x6⟩:=cs7 HXz.out
    cases hn0:needI x.pg.valid (partI p off n).1 (partI p off n).2 wr0 != 0 with
    | false=>
     have HN:=H_ hn0
     go_wp2_with (first
      | (go_at_call 125;go_loud (refine CM (hpt _) ?_);rintro e w4 ⟨rfl,rfl⟩)
      | (go_at_call 126;go_loud (refine CM (hnd _) ?_);rintro e w5 ⟨rfl,hb5⟩))
     go_roundw
     case rel=>
      refine ⟨k+1,K,by go_num,by omega,by omega,HOz.out.step hb5,HPz.out.step hb5,fun hK m p' hm hp'=>?_,HBK.out,bl_step HWz.out hb5,Nat.le_trans hBz hb5.size,bk_step HXz.out hb5⟩
      by_cases hmk:m<k
      ·exact HG.out hK m p' hmk hp'
      ·obtain rfl:m=k:=by omega
       obtain rfl:p'=(p:Int):=Option.some.inj (hp'.symm.trans HGET.out);exact ⟨i,x,HGI.out,HU.out,HXP.out,by simpa using HN.out⟩
     case measure=>simp [intOf];omega
    | true=>
     have HN:=H_ hn0
     go_wp2_with (first
      | (go_at_call 125;go_loud (refine CM (hpt _) ?_);rintro e w4 ⟨rfl,rfl⟩)
      | (go_at_call 126;go_loud (refine CM (hnd _) ?_);rintro e w5 ⟨rfl,hb5⟩)
      | (at_builtin;go_loud (refine wpList_push NdR nd_el rfl (.tmp 78) (.tmp 82) rfl _ B (fun _=>False) K rfl ((HOz.out.step hb5).alloc _) (by have:=hb5.size;simp;omega) (by omega) _ #[.int .i64 ((i:Int)+1),.int .i64 (needI x.pg.valid (partI p off n).1 (partI p off n).2 wr0)] rfl _ (heap_at_new _ _ _ rfl) ((i:Int)+1,needI x.pg.valid (partI p off n).1 (partI p off n).2 wr0) rfl ?_);intro v6 w6 hown6 hg6 hat6))
     go_roundw
     case rel=>
      have HO5:=(HOz.out.step hb5).alloc (.cells #[.int .i64 ((i:Int)+1),.int .i64 (needI x.pg.valid (partI p off n).1 (partI p off n).2 wr0)] 187);have hb5s:=hb5.size;refine ⟨k+1,_,by go_num,by omega,by simp;omega,hown6,(((HPz.out.step hb5).alloc _).kept (KeepS.of_gb hg6 (fun q e hz=>by have:=(HO5.own e).1;exact absurd hz.2 (by omega)))),fun hK=>by simp at hK,fun hall=>absurd (hall p (List.mem_of_getElem? HGET.out)) (fun ⟨i',x',g1,g2,g3,g4⟩=>by
       obtain rfl:i'=i:=by have:=HGI.out;omega
       obtain rfl:x'=x:=Option.some.inj (g2.fr.symm.trans HU.out.fr);have:=HN.out;rw [g4] at this
       cases this),(bl_alloc (bl_step HWz.out hb5) _).grown hg6 (bl_alloc (bl_step HWz.out hb5) _).size (fun b hb=>by have:=(HO5.own hb).1;omega),?_,(hg6.block _ ?_ (fun e=>by have:=(HO5.own e.symm).1;omega)).trans (bk_alloc (bk_step HXz.out hb5) _)⟩
      ·have:=hg6.size;simp at this;omega
      ·simp;omega
     case measure=>simp [intOf];omega
  ·obtain rfl:k=cnt:=by omega
   go_wp2
   go_ret2
   refine ⟨_,K,0,rfl,HO.out.la (fun _ _ _=>trivial) (fun _ _=>trivial),by omega,.inl rfl,fun _ hK p hpm=>?_,fun h=>⟨rfl,HBK.out h⟩,HW.out⟩;obtain ⟨m,hm⟩:=List.getElem?_of_mem hpm;exact HG.out hK m p (by have:=(g_l hm);omega) hm
end
section
theorem outL_mem {l:List Int} {f x:Int}:x ∈ outL l f↔x ∈ l∧x≠f:=by simp [outL]
theorem LruOk.rem {a:Lr} (h:LruOk a) (f:Int):LruOk (remL a f):=by
 unfold remL
 split
 ·have hap:outL a.act f ++ outL a.ina f=outL (a.act ++ a.ina) f:=by simp [outL,List.filter_append]
  refine ⟨fun x hx=>?_,?_,fun x hx=>?_,h.asc.sublist List.filter_sublist⟩
  ·rw [hap] at hx;exact h.rng x (outL_mem.1 hx).1
  ·show (outL a.act f ++ outL a.ina f).Nodup
   rw [hap];exact h.dup.sublist List.filter_sublist
  ·have hx':=outL_mem.1 hx
   show x ∈ outL a.act f ++ outL a.ina f
   rw [hap];exact outL_mem.2 ⟨h.sub x hx'.1,hx'.2⟩
 ·exact h
theorem LruOk.add {a:Lr} (h:LruOk a) (f:Int) (hf:1≤f∧f≤64) (ac:Bool):LruOk (addL a f ac):=by
 unfold addL
 split
 ·exact h
 ·rename_i hn
  have hni:f ∉ a.act ++ a.ina:=by simpa [hasL] using hn
  split
  ·refine ⟨fun x hx=>?_,?_,fun x hx=>List.mem_cons_of_mem _ (h.sub x hx),h.asc⟩
   ·rcases List.mem_cons.1 hx with rfl | hx
    ·exact hf
    ·exact h.rng x hx
   ·exact List.nodup_cons.2 ⟨hni,h.dup⟩
  ·have hp:(a.act ++ f :: a.ina).Perm (f :: (a.act ++ a.ina)):=List.perm_middle;refine ⟨fun x hx=>?_,hp.nodup_iff.2 (List.nodup_cons.2 ⟨hni,h.dup⟩),fun x hx=>hp.mem_iff.2 (List.mem_cons_of_mem _ (h.sub x hx)),h.asc⟩
   rcases List.mem_cons.1 (hp.mem_iff.1 hx) with rfl | hx
   ·exact hf
   ·exact h.rng x hx
theorem LruOk.touch {a:Lr} (h:LruOk a) (f:Int):LruOk (touchL a f):=by
 unfold touchL
 split
 ·rename_i hh
  have hm:f ∈ a.act ++ a.ina:=by simpa [hasL] using hh
  split
  ·split
   ·rename_i hr hi
    have hna:f ∉ a.act:=fun ha=>(List.nodup_append.1 h.dup).2.2 f ha f hi rfl;have hoi:outL a.act f=a.act:=by
     unfold outL;exact List.filter_eq_self.2 fun x hx=>bne_iff_ne.2 fun e=>hna (e ▸ hx)
    have hp:∀x,x ∈ (f :: a.act) ++ outL a.ina f↔x ∈ a.act ++ a.ina:=fun x=>by
     simp only [List.cons_append,List.mem_cons,List.mem_append,outL_mem]
     constructor
     ·rintro (rfl | h | h)
      ·exact .inr hi
      ·exact .inl h
      ·exact .inr h.1
     ·rintro (h | h)
      ·exact .inr (.inl h)
      ·by_cases e:x=f
       ·exact .inl e
       ·exact .inr (.inr ⟨h,e⟩)
    refine ⟨fun x hx=>h.rng x ((hp x).1 hx),?_,fun x hx=>(hp x).2 (h.sub x (outL_mem.1 hx).1),h.asc.sublist List.filter_sublist⟩
    show (f :: (a.act ++ outL a.ina f)).Nodup
    refine List.nodup_cons.2 ⟨fun hx=>?_,?_⟩
    ·rcases List.mem_append.1 hx with hx | hx
     ·exact hna hx
     ·exact (outL_mem.1 hx).2 rfl
    ·exact h.dup.sublist (List.Sublist.append (List.Sublist.refl _) List.filter_sublist)
   ·exact h
  ·rename_i hr
   exact ⟨h.rng,h.dup,fun x hx=>by
    rcases insL_mem.1 hx with rfl | hx
    ·exact hm
    ·exact h.sub x hx,insL_asc h.asc hr⟩
 ·exact h
theorem GrsOk.set {L:List Gr} (h:GrsOk L) {i:Nat} {g:Gr} (hg:1≤g.limit∧g.limit≤64∧0≤g.protect∧g.protect≤g.limit∧0≤g.charge∧g.charge≤64):GrsOk (L.set i g):=
 ⟨fun x hx=>by
  rcases List.mem_or_eq_of_mem_set hx with hx | rfl
  ·exact h.each x hx
  ·exact hg,by rw [List.length_set];exact h.pos,by rw [List.length_set];exact h.few⟩
theorem GrsOk.charge {L:List Gr} (h:GrsOk L) {i:Nat} {g:Gr} (hi:L[i]?=some g):GrsOk (chargeL L i g 1).1:=by
 have hg:=h.each g (List.mem_of_getElem? hi);unfold chargeL
 split
 ·exact h
 ·refine h.set ⟨hg.1,hg.2.1,hg.2.2.1,hg.2.2.2.1,by show 0≤g.charge+1;omega,by show g.charge+1≤64;omega⟩
theorem GrsOk.uncharge {L:List Gr} (h:GrsOk L) {i:Nat} {g:Gr} (hi:L[i]?=some g):GrsOk (unchargeL L i g 1).1:=by
 have hg:=h.each g (List.mem_of_getElem? hi);unfold unchargeL
 split
 ·exact h
 ·refine h.set ⟨hg.1,hg.2.1,hg.2.2.1,hg.2.2.2.1,by show 0≤g.charge - 1;omega,by show g.charge - 1≤64;omega⟩
theorem chargeL_len (L:List Gr) (i:Nat) (g:Gr) (n:Int):(chargeL L i g n).1.length=L.length:=by unfold chargeL;split <;> simp
theorem unchargeL_len (L:List Gr) (i:Nat) (g:Gr) (n:Int):(unchargeL L i g n).1.length=L.length:=by unfold unchargeL;split <;> simp
end
section
variable {F G Z:Nat}
theorem nxt_map (L:List Zn):nxt L=(L.map (fun z=>z.size)).foldl (fun n s=>n+s) 1:=by unfold nxt;rw [List.foldl_map]
theorem nxt_free {L:List Zn} {i:Nat} {z:Zn} (hi:L[i]?=some z) (fr:List Int) (k:Nat):nxt ((L.set i {z with free:=fr}).take k)=nxt (L.take k):=by
 rw [nxt_map,nxt_map,List.map_take,List.map_take,List.map_set];have hil:=(g_l hi);have:(L.map (fun z=>z.size)).set i z.size=L.map (fun z=>z.size):=by
  refine List.ext_getElem? fun q=>?_;rw [List.getElem?_set]
  split
  ·rename_i e
   subst e;rw [if_pos (by simpa using hil),List.getElem?_map,hi]
   rfl
  ·rfl
 rw [show ({z with free:=fr}:Zn).size=z.size from rfl,this]
theorem nxt_freeA {L:List Zn} {i:Nat} {z:Zn} (hi:L[i]?=some z) (fr:List Int):nxt (L.set i {z with free:=fr})=nxt L:=by
 have:=nxt_free hi fr L.length;rw [List.take_of_length_le (by simp),List.take_of_length_le (Nat.le_refl _)] at this;exact this
theorem ZonesOk.free {L:List Zn} (h:ZonesOk L) {i:Nat} {z:Zn} (hi:L[i]?=some z) {fr:List Int} (hr:∀x ∈ fr,z.first≤x∧x<z.first+z.size) (ha:fr.Pairwise (·<·)):ZonesOk (L.set i {z with free:=fr}):=by
 refine ⟨by rw [List.length_set];exact h.ne,fun k u hk=>?_⟩;rw [nxt_free hi];rw [List.getElem?_set] at hk
 split at hk
 ·rename_i e
  subst e
  split at hk
  ·injection hk with hk
   subst hk;have:=h.each i z hi;exact ⟨this.fst,this.sz,this.wm,hr,ha⟩
  ·cases hk
 ·exact h.each k u hk
structure FlOk (y:Fl):Prop where
 size:∃sz:Nat,y.size=sz∧sz≤128
 slot:∃s:Nat,y.slot=s∧s<7
 err:ErOk y.ecnt y.eerr
structure Inv (F G Z:Nat) (C:Ck):Prop where
 few:1≤F∧F≤3∧1≤G∧G≤2∧1≤Z∧Z≤2
 nf:C.files.length=F
 nr:0<C.frames.length∧C.frames.length≤64
 ng:C.groups.length=G
 nl:C.lists.length=G
 nk:C.clocks.length=G
 nz:C.zones.length=Z
 ten:∀(i:Nat) (x:Fr),C.frames[i]?=some x→x.tenant<G
 file:∀(j:Nat) (y:Fl),C.files[j]?=some y→FlOk y
 frame:∀(i:Nat) (x:Fr),C.frames[i]?=some x→x.file=-1∨∃(j:Nat) (y:Fl),FrU C i x j y∧getR y.c x.page=(i:Int)+1
 find:∀(j:Nat) (y:Fl) (p:Int),C.files[j]?=some y→0<getR y.c p→∃(i:Nat) (x:Fr),getR y.c p=(i:Int)+1∧C.frames[i]?=some x∧x.file=j∧x.page=p
 free:∀(k:Nat) (z:Zn),C.zones[k]?=some z→∀f ∈ z.free,∃(i:Nat) (x:Fr),f=(i:Int)+1∧C.frames[i]?=some x∧x.file=-1
 zok:ZonesOk C.zones
 zsum:nxt C.zones=(C.frames.length:Int)+1
 gok:GrsOk C.groups
 lok:∀(t:Nat) (l:Lr),C.lists[t]?=some l→LruOk l
 pok:PtsOk C.ptes
theorem Inv.ok {C:Ck} (h:Inv F G Z C):CkOk C:=
 ⟨by have:=h.nf;have:=h.few;omega,by have:=h.nr;omega,by have:=h.ng;have:=h.few;omega,by have:=h.nl;have:=h.few;omega,by have:=h.nk;have:=h.few;omega⟩
theorem Inv.used {C:Ck} (h:Inv F G Z C) {i:Nat} {x:Fr} (hx:C.frames[i]?=some x) (hu:x.file≠-1):∃(j:Nat) (y:Fl),FrU C i x j y∧getR y.c x.page=(i:Int)+1:=by
 rcases h.frame i x hx with h | h
 ·exact absurd h hu
 ·exact h
theorem Inv.findOk {C:Ck} (h:Inv F G Z C) {j:Nat} {y:Fl} (hj:C.files[j]?=some y):FindOk C j y:=fun p hp=>by
 obtain ⟨i,x,h1,h2,h3,h4⟩:=h.find j y p hj hp;obtain ⟨j',y',hu,_⟩:=h.used h2 (by rw [h3];omega);obtain rfl:j'=j:=by have:=hu.ix;rw [h3] at this;omega
 obtain rfl:y'=y:=Option.some.inj (hu.fl.symm.trans hj);exact ⟨i,x,h1,hu,h4⟩
structure FrRel (L L':List Fr):Prop where
 len:L'.length=L.length
 up:∀(i:Nat) (x:Fr),L'[i]?=some x→∃x0,L[i]?=some x0∧x0.file=x.file∧x0.page=x.page∧x0.tenant=x.tenant∧(x.file≠-1→FrOk x)
structure FlRel (L L':List Fl):Prop where
 len:L'.length=L.length
 up:∀(j:Nat) (y:Fl),L'[j]?=some y→∃y0,L[j]?=some y0∧(∀p,0<getR y.c p∨0<getR y0.c p→getR y.c p=getR y0.c p)∧FlOk y
theorem FrRel.dn {L L':List Fr} (h:FrRel L L') {i:Nat} {x0:Fr} (hx:L[i]?=some x0):∃x,L'[i]?=some x∧x.file=x0.file∧x.page=x0.page:=by
 have hl:=(g_l hx);obtain ⟨x1,h1,h2,h3,_,_⟩:=h.up i _ (List.getElem?_eq_getElem (by rw [h.len];exact hl));obtain rfl:x1=x0:=Option.some.inj (h1.symm.trans hx);exact ⟨_,List.getElem?_eq_getElem _,h2.symm,h3.symm⟩
theorem FlRel.dn {L L':List Fl} (h:FlRel L L') {j:Nat} {y0:Fl} (hy:L[j]?=some y0):∃y,L'[j]?=some y∧(∀p,0<getR y.c p∨0<getR y0.c p→getR y.c p=getR y0.c p):=by
 have hl:=(g_l hy);obtain ⟨y1,h1,h2,_⟩:=h.up j _ (List.getElem?_eq_getElem (by rw [h.len];exact hl));obtain rfl:y1=y0:=Option.some.inj (h1.symm.trans hy);exact ⟨_,List.getElem?_eq_getElem _,h2⟩
theorem Inv.rel {C C':Ck} (h:Inv F G Z C) (hr:FrRel C.frames C'.frames) (hf:FlRel C.files C'.files) (hz:C'.zones=C.zones) (hg:C'.groups=C.groups) (hn:C'.lists.length=G) (hk:C'.clocks.length=G) (hl:∀(t:Nat) (l:Lr),C'.lists[t]?=some l→LruOk l) (hp:PtsOk C'.ptes):Inv F G Z C' where
 few:=h.few
 nf:=hf.len.trans h.nf
 nr:=by rw [hr.len];exact h.nr
 ng:=by rw [hg];exact h.ng
 nl:=hn
 nk:=hk
 nz:=by rw [hz];exact h.nz
 ten i x hx:=by
  obtain ⟨x0,h1,_,_,h4,_⟩:=hr.up i x hx;rw [←h4];exact h.ten i x0 h1
 file j y hy:=by obtain ⟨_,_,_,h3⟩:=hf.up j y hy;exact h3
 frame i x hx:=by
  obtain ⟨x0,h1,h2,h3,_,h4⟩:=hr.up i x hx
  rcases h.frame i x0 h1 with h5 | ⟨j,y,hu,hv⟩
  ·exact .inl (h2 ▸ h5)
  ·refine .inr ?_;obtain ⟨y',hy1,hy2⟩:=hf.dn hu.fl;refine ⟨j,y',⟨hx,hy1,by rw [←h2];exact hu.ix,h4 (by rw [←h2,hu.ix];omega)⟩,?_⟩;rw [hy2 _ (.inr (by rw [←h3,hv];omega)),←h3];exact hv
 find j y p hy hv:=by
  obtain ⟨y0,h1,h2,_⟩:=hf.up j y hy;have h2':=h2 p (.inl hv);rw [h2'] at hv ⊢;obtain ⟨i,x0,h3,h4,h5,h6⟩:=h.find j y0 p h1 hv;obtain ⟨x,h7,h8,h9⟩:=hr.dn h4;exact ⟨i,x,h3,h7,h8.trans h5,h9.trans h6⟩
 free k z hz' f hf':=by
  rw [hz] at hz';obtain ⟨i,x0,h1,h2,h3⟩:=h.free k z hz' f hf';obtain ⟨x,h7,h8,_⟩:=hr.dn h2;exact ⟨i,x,h1,h7,h8.trans h3⟩
 zok:=by rw [hz];exact h.zok
 zsum:=by rw [hz,hr.len];exact h.zsum
 gok:=by rw [hg];exact h.gok
 lok:=hl
 pok:=hp
theorem FrRel.refl {C:Ck} (h:Inv F G Z C):FrRel C.frames C.frames:=⟨rfl,fun i x hx=>⟨x,hx,rfl,rfl,rfl,fun hn=>by obtain ⟨_,_,hu,_⟩:=h.used hx hn;exact hu.ok⟩⟩
theorem FlRel.refl {C:Ck} (h:Inv F G Z C):FlRel C.files C.files:=⟨rfl,fun j y hy=>⟨y,hy,fun _ _=>rfl,h.file j y hy⟩⟩
theorem FrRel.set {C:Ck} (h:Inv F G Z C) {i:Nat} {x x':Fr} (hx:C.frames[i]?=some x) (h1:x'.file=x.file) (h2:x'.page=x.page) (h3:x'.tenant=x.tenant) (hk:FrOk x'):FrRel C.frames (C.frames.set i x'):=
 ⟨by simp,fun k u hu=>by
  rw [List.getElem?_set] at hu
  split at hu
  ·rename_i e
   subst e
   split at hu
   ·injection hu with hu
    subst hu;exact ⟨x,hx,h1.symm,h2.symm,h3.symm,fun _=>hk⟩
   ·cases hu
  ·exact (FrRel.refl h).up k u hu⟩
theorem FlRel.set {C:Ck} (h:Inv F G Z C) {j:Nat} {y y':Fl} (hy:C.files[j]?=some y) (h1:∀p,0<getR y'.c p∨0<getR y.c p→getR y'.c p=getR y.c p) (hk:FlOk y'):FlRel C.files (C.files.set j y'):=
 ⟨by simp,fun k u hu=>by
  rw [List.getElem?_set] at hu
  split at hu
  ·rename_i e
   subst e
   split at hu
   ·injection hu with hu
    subst hu;exact ⟨y,hy,h1,hk⟩
   ·cases hu
  ·exact (FlRel.refl h).up k u hu⟩
theorem getR_pos {c:Cn} {p:Int} (h:0<getR c p):inB p=true∧0<(c p.toNat).1:=by
 unfold getR at h
 split at h
 ·exact ⟨by assumption,h⟩
 ·omega
theorem Inv.put {C:Ck} (h:Inv F G Z C) {i j:Nat} {x x':Fr} {y y':Fl} (hu:FrU C i x j y) (h1:FrOk x') (h2:x'.file=x.file) (h3:x'.page=x.page) (ht:x'.tenant=x.tenant) (h4:y'.c=y.c) (h5:FlOk y') (ps:List Pt) (hp:PtsOk ps):Inv F G Z {putC C i j y' x' with ptes:=ps}:=by
 obtain ⟨j',y0,hu',hv⟩:=h.used hu.fr (by rw [hu.ix];omega);obtain rfl:j'=j:=by have:=hu'.ix;rw [hu.ix] at this;omega
 obtain rfl:y0=y:=Option.some.inj (hu'.fl.symm.trans hu.fl);obtain ⟨hi,hc⟩:=getR_pos (c:=y0.c) (p:=x.page) (by rw [hv];omega);refine h.rel (FrRel.set h hu.fr h2 h3 ht h1) ?_ rfl rfl h.nl h.nk h.lok hp;exact FlRel.set h hu.fl (fun p _=>by
  show getR (markC y'.c x'.page _ _) p=_
  rw [h4,h3,getR_markC hi hc]) ⟨h5.size,h5.slot,h5.err⟩
theorem Inv.putQ {C C':Ck} (h:Inv F G Z C) {i j:Nat} {x:Fr} {y:Fl} (hu:FrU C i x j y) (hq:PutQ C i j x y C'):Inv F G Z C':=by
 rcases hq with rfl | ⟨x',y',h1,h2,h3,h4,h5,h6,h8,h7,rfl⟩
 ·exact h
 ·have hy:=h.file j y hu.fl;exact h.put hu h1 h2 h3 h4 h5 ⟨by rw [h6];exact hy.size,by rw [h8];exact hy.slot,h7⟩ C.ptes h.pok
theorem Inv.putP {C C':Ck} (h:Inv F G Z C) {i j:Nat} {x:Fr} {y:Fl} (hu:FrU C i x j y) (hq:PutP C i j x y C'):Inv F G Z C':=h.putQ hu (hq.q (h.file j y hu.fl).err)
theorem Inv.putB {C C':Ck} (h:Inv F G Z C) {i j:Nat} {x:Fr} {y:Fl} (hu:FrU C i x j y) (hq:PutB C i j x y C'):Inv F G Z C':=by
 rcases hq with rfl | ⟨x',h1,h2,h3,h4,rfl⟩
 ·exact h
 ·exact h.put hu h1 h2 h3 h4 rfl (h.file j y hu.fl) _ (h.pok.shut _)
theorem Inv.acc {C:Ck} (h:Inv F G Z C) {t i:Nat} {l:Lr} (hl:C.lists[t]?=some l):Inv F G Z (accC C t l i):=by
 refine h.rel (FrRel.refl h) (FlRel.refl h) rfl rfl (by show (C.lists.set _ _).length=G;rw [List.length_set];exact h.nl) h.nk (fun k u hu=>?_) h.pok
 show LruOk u
 have hu:(C.lists.set t (touchL l ((i:Int)+1)))[k]?=some u:=hu;rw [List.getElem?_set] at hu
 split at hu
 ·split at hu
  ·injection hu with hu
   subst hu;exact (h.lok t l hl).touch _
  ·cases hu
 ·exact h.lok k u hu
end
section
variable {F G Z:Nat}
theorem set_get {α:Type} {L:List α} {i:Nat} {a b:α} {k:Nat} (h:(L.set i a)[k]?=some b):(k=i∧b=a)∨(k≠i∧L[k]?=some b):=by
 rw [List.getElem?_set] at h
 split at h
 ·rename_i e
  split at h
  ·injection h with h
   exact .inl ⟨e.symm,h.symm⟩
  ·cases h
 ·rename_i e
  exact .inr ⟨fun h=>e h.symm,h⟩
theorem get_set {α:Type} {L:List α} {i k:Nat} {a b:α} (hk:k≠i) (h:L[k]?=some b):(L.set i a)[k]?=some b:=by rw [List.getElem?_set_ne (fun e=>hk e.symm)];exact h
theorem get_self {α:Type} {L:List α} {i:Nat} {a b:α} (h:L[i]?=some b):(L.set i a)[i]?=some a:=List.getElem?_set_self (g_l h)
theorem getR_setR {c:Cn} {p v q:Int} (hp:inB p=true):getR (setR c p v).1 q=if q=p then v else getR c q:=by
 unfold setR;rw [if_pos hp];have hp':=inB_t hp;unfold getR
 by_cases hq:inB q=true
 ·have hq':=inB_t hq;rw [if_pos hq,if_pos hq]
  by_cases e:q=p
  ·subst e;simp [upd]
  ·have hn:q.toNat≠p.toNat:=by omega
   simp [upd,hn,e]
 ·rw [if_neg hq,if_neg hq];rw [if_neg (fun e:q=p=>hq (e ▸ hp))]
theorem page_inB {x:Fr} (h:FrOk x):inB x.page=true:=by
 have:=h.page;unfold inB;simp;omega
theorem Inv.two {C:Ck} (h:Inv F G Z C):(∃z0,C.zones=[z0]∧z0.first=1∧1+z0.size=(C.frames.length:Int)+1)∨∃z0 z1,C.zones=[z0,z1]∧z0.first=1∧z1.first=1+z0.size∧1+z0.size+z1.size=(C.frames.length:Int)+1:=by
 have hl:C.zones.length≤2:=by have:=h.nz;have:=h.few;omega
 have hn:=h.zok.ne
 match hz:C.zones with
 | [z0,z1]=>
  have h0:=(h.zok.each 0 z0 (by rw [hz];rfl)).fst;have h1:=(h.zok.each 1 z1 (by rw [hz];rfl)).fst;have hs:=h.zsum;rw [hz] at h0 h1 hs;exact .inr ⟨z0,z1,rfl,h0,h1,hs⟩
 | []=>rw [hz] at hn;simp at hn
 | [z0]=>
  have h0:=(h.zok.each 0 z0 (by rw [hz];rfl)).fst;have hs:=h.zsum;rw [hz] at h0 hs;exact .inl ⟨z0,rfl,h0,hs⟩
 | _ :: _ :: _ :: _=>rw [hz] at hl;simp at hl
theorem Inv.zone {C:Ck} (h:Inv F G Z C) {i:Nat} (hi:i<C.frames.length):∃(k:Nat) (z:Zn),C.zones[k]?=some z∧z.first≤(i:Int)+1∧(i:Int)+1<z.first+z.size:=by
 rcases h.two with ⟨z0,hz,h0,hs⟩ | ⟨z0,z1,hz,h0,h1,hs⟩
 ·exact ⟨0,z0,by rw [hz];rfl,by omega,by omega⟩
 ·by_cases hlt:(i:Int)<z0.size
  ·exact ⟨0,z0,by rw [hz];rfl,by omega,by omega⟩
  ·exact ⟨1,z1,by rw [hz];rfl,by omega,by omega⟩
theorem Inv.apart {C:Ck} (h:Inv F G Z C) {k k':Nat} {z z':Zn} (hk:C.zones[k]?=some z) (hk':C.zones[k']?=some z') (hne:k≠k') {f:Int} (h1:z.first≤f∧f<z.first+z.size) (h2:z'.first≤f∧f<z'.first+z'.size):False:=by
 rcases h.two with ⟨z0,hz,e0,hs⟩ | ⟨z0,z1,hz,e0,e1,hs⟩
 ·have hl:=(g_l hk);have hl':=(List.getElem?_eq_some_iff.1 hk').1;rw [hz] at hl hl';simp at hl hl';omega
 ·rw [hz] at hk hk'
  match k,k',hk,hk',hne with
  | 0,1,hk,hk',_=>
   obtain rfl:z0=z:=by simpa using hk
   obtain rfl:z1=z':=by simpa using hk'
   omega
  | 1,0,hk,hk',_=>
   obtain rfl:z1=z:=by simpa using hk
   obtain rfl:z0=z':=by simpa using hk'
   omega
  | 0,0,_,_,hne=>exact absurd rfl hne
  | 1,1,_,_,hne=>exact absurd rfl hne
  | k+2,_,hk,_,_=>simp at hk
  | 0,k'+2,_,hk',_=>simp at hk'
  | 1,k'+2,_,hk',_=>simp at hk'
theorem Inv.goneH {C:Ck} (h:Inv F G Z C) {i j:Nat} {x:Fr} {y:Fl} (hu:FrU C i x j y):∃(t k:Nat) (l:Lr) (gp:Gr) (z:Zn) (clk:Int),GoneH C i t k x l gp z∧C.clocks[t]?=some clk:=by
 have hil:=(g_l hu.fr);obtain ⟨k,z,hk,h1,h2⟩:=h.zone hil;have ht:=hu.ok.tenant;obtain ⟨t,ht'⟩:∃t:Nat,x.tenant=t:=⟨x.tenant.toNat,by omega⟩;have htn:=h.ten i x hu.fr;have htl:t<C.lists.length:=by rw [h.nl];omega
 have htg:t<C.groups.length:=by rw [h.ng];omega
 have htk:t<C.clocks.length:=by rw [h.nk];omega
 refine ⟨t,k,C.lists[t],C.groups[t],z,C.clocks[t],⟨ht',List.getElem?_eq_getElem _,h.lok t _ (List.getElem?_eq_getElem _),List.getElem?_eq_getElem _,h.gok,hk,⟨h1,h2⟩,fun hm=>?_,h.zok,h.pok,by have:=h.nr;omega⟩,List.getElem?_eq_getElem _⟩;obtain ⟨i',x',e1,e2,e3⟩:=h.free k z hk _ hm;obtain rfl:i'=i:=by omega
 obtain rfl:x'=x:=Option.some.inj (e2.symm.trans hu.fr);have:=hu.ix;omega
theorem FrU.eq {C:Ck} {i j j':Nat} {x x':Fr} {y y':Fl} (h:FrU C i x j y) (h':FrU C i x' j' y'):x'=x∧j'=j∧y'=y:=by
 obtain rfl:x'=x:=Option.some.inj (h'.fr.symm.trans h.fr);obtain rfl:j'=j:=by have:=h.ix;have:=h'.ix;omega
 exact ⟨rfl,rfl,Option.some.inj (h'.fl.symm.trans h.fl)⟩
theorem Inv.gone {C:Ck} (h:Inv F G Z C) {i j t k:Nat} {x:Fr} {y:Fl} {l:Lr} {gp:Gr} {z:Zn} {v:Int} (hu:FrU C i x j y) (hg:GoneH C i t k x l gp z) (hv:v≤0) (cl:List Int) (hcl:cl.length=G):Inv F G Z {goneC C i j t k x y l gp z v with clocks:=cl}:=by
 obtain ⟨j0,y0,hu0,hval⟩:=h.used hu.fr (by rw [hu.ix];omega);obtain ⟨_,rfl,rfl⟩:=hu.eq hu0;have hB:=page_inB hu.ok;have hxn:x.file≠-1:=by rw [hu.ix];omega
 have hfl:=fun (j':Nat) (y':Fl) (hy:C.files[j']?=some y')=>(show ∃y'',(C.files.set j0 {y0 with c:=(setR y0.c x.page v).1})[j']?=some y''∧(∀p,(j'=j0→p≠x.page)→getR y''.c p=getR y'.c p) from by
  by_cases e:j'=j0
  ·subst e;obtain rfl:y'=y0:=Option.some.inj (hy.symm.trans hu.fl);exact ⟨_,get_self hy,fun p hp=>by show getR (setR _ _ _).1 p=_;rw [getR_setR hB,if_neg (hp rfl)]⟩
  ·exact ⟨y',get_set e hy,fun _ _=>rfl⟩)
 refine ⟨h.few,by show (C.files.set _ _).length=F;rw [List.length_set];exact h.nf,⟨by show 0<(C.frames.set _ _).length;rw [List.length_set];exact h.nr.1,by show (C.frames.set _ _).length≤64;rw [List.length_set];exact h.nr.2⟩,(unchargeL_len _ _ _ _).trans h.ng,by show (C.lists.set _ _).length=G;rw [List.length_set];exact h.nl,hcl,by show (C.zones.set _ _).length=Z;rw [List.length_set];exact h.nz,fun i' u hu'=>by
  rcases set_get hu' with ⟨rfl,rfl⟩ | ⟨_,hu'⟩
  ·show (0:Int)<G;have:=h.few;omega
  ·exact h.ten i' u hu',fun j' y' hy=>?_,fun i' x' hx=>?_,fun j' y' p hy hp=>?_,fun k' z' hz f hf=>?_,?_,?_,h.gok.uncharge hg.grp,fun t' l' hl=>?_,h.pok.drop _⟩
 ·rcases set_get hy with ⟨rfl,rfl⟩ | ⟨_,hy⟩
  ·have:=h.file _ y0 hu.fl;exact ⟨this.size,this.slot,this.err⟩
  ·exact h.file j' y' hy
 ·rcases set_get hx with ⟨rfl,rfl⟩ | ⟨hne,hx⟩
  ·exact .inl rfl
  ·rcases h.frame i' x' hx with he | ⟨j',y',hu',hv'⟩
   ·exact .inl he
   ·obtain ⟨y'',h1,h2⟩:=hfl j' y' hu'.fl;refine .inr ⟨j',y'',⟨get_set hne hx,h1,hu'.ix,hu'.ok⟩,?_⟩;rw [h2 _ (fun e hp=>?_)]
    ·exact hv'
    ·subst e;obtain rfl:y'=y0:=Option.some.inj (hu'.fl.symm.trans hu.fl);rw [hp] at hv';omega
 ·rcases set_get hy with ⟨rfl,rfl⟩ | ⟨hne,hy⟩
  ·have hp':0<getR (setR y0.c x.page v).1 p:=hp
   show ∃(i':Nat) (x':Fr),getR (setR y0.c x.page v).1 p=_∧(C.frames.set i frNo)[i']?=_∧_
   rw [getR_setR hB] at hp' ⊢
   by_cases e:p=x.page
   ·rw [if_pos e] at hp';omega
   ·rw [if_neg e] at hp' ⊢;obtain ⟨i',x',h1,h2,h3,h4⟩:=h.find j' y0 p hu.fl hp';refine ⟨i',x',h1,get_set (fun ei=>e ?_) h2,h3,h4⟩;subst ei;obtain rfl:x'=x:=Option.some.inj (h2.symm.trans hu.fr);exact h4.symm
  ·obtain ⟨i',x',h1,h2,h3,h4⟩:=h.find j' y' p hy hp;refine ⟨i',x',h1,get_set (fun ei=>hne ?_) h2,h3,h4⟩;subst ei;obtain rfl:x'=x:=Option.some.inj (h2.symm.trans hu.fr);have:=hu.ix;omega
 ·show ∃(i':Nat) (x':Fr),_∧(C.frames.set i frNo)[i']?=_∧_
  have old:∀(k':Nat) (z':Zn),C.zones[k']?=some z'→f ∈ z'.free→∃(i':Nat) (x':Fr),f=(i':Int)+1∧(C.frames.set i frNo)[i']?=some x'∧x'.file=-1:=fun k' z' hz hf=>by
   obtain ⟨i',x',h1,h2,h3⟩:=h.free k' z' hz f hf;refine ⟨i',x',h1,get_set (fun ei=>hxn ?_) h2,h3⟩;subst ei;obtain rfl:x'=x:=Option.some.inj (h2.symm.trans hu.fr);exact h3
  rcases set_get hz with ⟨rfl,rfl⟩ | ⟨_,hz⟩
  ·rcases insL_mem.1 hf with rfl | hf
   ·exact ⟨i,frNo,rfl,get_self hu.fr,rfl⟩
   ·exact old k' z hg.zon hf
  ·exact old k' z' hz hf
 ·have hzk:=h.zok.each k z hg.zon;exact h.zok.free hg.zon (fun f hf=>by
   rcases insL_mem.1 hf with rfl | hf
   ·exact hg.zin
   ·exact hzk.rng f hf) (insL_asc hzk.asc hg.zno)
 ·show nxt (C.zones.set k _)=((C.frames.set i frNo).length:Int)+1
  rw [nxt_freeA hg.zon,List.length_set];exact h.zsum
 ·rcases set_get hl with ⟨rfl,rfl⟩ | ⟨_,hl⟩
  ·exact hg.lok.rem _
  ·exact h.lok t' l' hl
theorem Inv.insert {C:Ck} (h:Inv F G Z C) {i j t k:Nat} {x0 x':Fr} {y:Fl} {p:Int} {l:Lr} {gp:Gr} {z:Zn} (hy:C.files[j]?=some y) (hp:0≤p∧p<8) (hno:getR y.c p≤0) (hk:C.zones[k]?=some z) (hz0:z.free.headD 0=(i:Int)+1) (hne:z.free≠[]) (hl:C.lists[t]?=some l) (hg:C.groups[t]?=some gp)
  (hx':FrOk x') (hxf:x'.file=j) (hxp:x'.page=p) (hxt:x'.tenant<G) (ac:Bool):Inv F G Z {files:=C.files.set j {y with c:=(setR y.c p ((i:Int)+1)).1},frames:=C.frames.set i x',zones:=C.zones.set k {z with free:=z.free.drop 1},groups:=(chargeL C.groups t gp 1).1,lists:=C.lists.set t (addL l ((i:Int)+1) ac),clocks:=C.clocks,ptes:=C.ptes}:=by
 have hB:inB p=true:=by unfold inB;simp;omega
 obtain ⟨f0,fs,hfr⟩:∃f0 fs,z.free=f0 :: fs:=by
  cases hf:z.free with
  | nil=>exact absurd hf hne
  | cons a l=>exact ⟨a,l,rfl⟩
 have hf0:f0=(i:Int)+1:=by rw [hfr] at hz0;exact hz0
 obtain ⟨i0,x0,e1,e2,e3⟩:=h.free k z hk f0 (by rw [hfr];exact List.mem_cons_self ..);obtain rfl:i0=i:=by omega
 have hil:=(g_l e2);have hzk:=h.zok.each k z hk;have hasc:=hzk.asc;rw [hfr,List.pairwise_cons] at hasc;have hfl:=fun (j':Nat) (y':Fl) (hy':C.files[j']?=some y')=>(show ∃y'',(C.files.set j {y with c:=(setR y.c p ((i0:Int)+1)).1})[j']?=some y''∧(∀q,(j'=j→q≠p)→getR y''.c q=getR y'.c q) from by
  by_cases e:j'=j
  ·subst e;obtain rfl:y'=y:=Option.some.inj (hy'.symm.trans hy);exact ⟨_,get_self hy,fun q hq=>by show getR (setR _ _ _).1 q=_;rw [getR_setR hB,if_neg (hq rfl)]⟩
  ·exact ⟨y',get_set e hy',fun _ _=>rfl⟩)
 refine ⟨h.few,by show (C.files.set _ _).length=F;rw [List.length_set];exact h.nf,⟨by show 0<(C.frames.set _ _).length;rw [List.length_set];exact h.nr.1,by show (C.frames.set _ _).length≤64;rw [List.length_set];exact h.nr.2⟩,(chargeL_len _ _ _ _).trans h.ng,by show (C.lists.set _ _).length=G;rw [List.length_set];exact h.nl,h.nk,by show (C.zones.set _ _).length=Z;rw [List.length_set];exact h.nz,fun i' u hu'=>by
  rcases set_get hu' with ⟨rfl,rfl⟩ | ⟨_,hu'⟩
  ·exact hxt
  ·exact h.ten i' u hu',fun j' y' hy'=>?_,fun i' u hu=>?_,fun j' y' q hy' hq=>?_,fun k' z' hz f hf=>?_,?_,?_,h.gok.charge hg,fun t' l' hl'=>?_,h.pok⟩
 ·rcases set_get hy' with ⟨rfl,rfl⟩ | ⟨_,hy'⟩
  ·have:=h.file _ y hy;exact ⟨this.size,this.slot,this.err⟩
  ·exact h.file j' y' hy'
 ·rcases set_get hu with ⟨rfl,rfl⟩ | ⟨hni,hu⟩
  ·refine .inr ⟨j,_,⟨hu,get_self hy,hxf,hx'⟩,?_⟩
   show getR (setR y.c p _).1 u.page=_
   rw [getR_setR hB,if_pos hxp]
  ·rcases h.frame i' u hu with he | ⟨j',y',hu',hv'⟩
   ·exact .inl he
   ·obtain ⟨y'',h1,h2⟩:=hfl j' y' hu'.fl;refine .inr ⟨j',y'',⟨get_set hni hu,h1,hu'.ix,hu'.ok⟩,?_⟩;rw [h2 _ (fun e hq=>?_)]
    ·exact hv'
    ·subst e;obtain rfl:y'=y:=Option.some.inj (hu'.fl.symm.trans hy);rw [hq] at hv';omega
 ·rcases set_get hy' with ⟨rfl,rfl⟩ | ⟨hnj,hy'⟩
  ·have hq':0<getR (setR y.c p ((i0:Int)+1)).1 q:=hq
   show ∃(i':Nat) (u:Fr),getR (setR y.c p ((i0:Int)+1)).1 q=_∧(C.frames.set i0 x')[i']?=_∧_
   rw [getR_setR hB] at hq' ⊢
   by_cases e:q=p
   ·rw [if_pos e];exact ⟨i0,x',rfl,get_self e2,hxf,hxp.trans e.symm⟩
   ·rw [if_neg e] at hq' ⊢;obtain ⟨i',u,h1,h2,h3,h4⟩:=h.find j' y q hy hq';refine ⟨i',u,h1,get_set (fun ei=>?_) h2,h3,h4⟩;subst ei;obtain rfl:u=x0:=Option.some.inj (h2.symm.trans e2);omega
  ·obtain ⟨i',u,h1,h2,h3,h4⟩:=h.find j' y' q hy' hq;refine ⟨i',u,h1,get_set (fun ei=>?_) h2,h3,h4⟩;subst ei;obtain rfl:u=x0:=Option.some.inj (h2.symm.trans e2);omega
 ·show ∃(i':Nat) (u:Fr),_∧(C.frames.set i0 x')[i']?=_∧_
  have old:∀(k':Nat) (z':Zn),C.zones[k']?=some z'→f ∈ z'.free→f≠f0→∃(i':Nat) (u:Fr),f=(i':Int)+1∧(C.frames.set i0 x')[i']?=some u∧u.file=-1:=fun k' z' hz hf hff=>by
   obtain ⟨i',u,h1,h2,h3⟩:=h.free k' z' hz f hf;exact ⟨i',u,h1,get_set (fun ei=>hff (by omega)) h2,h3⟩
  rcases set_get hz with ⟨rfl,rfl⟩ | ⟨hnk,hz⟩
  ·have hf':f ∈ fs:=by
    have hf:f ∈ z.free.drop 1:=hf;rw [hfr] at hf;exact hf
   refine old k' z hk (by rw [hfr];exact List.mem_cons_of_mem _ hf') (fun e=>?_);have:=hasc.1 f hf';omega
  ·refine old k' z' hz hf (fun e=>?_);exact h.apart hk hz (fun e=>hnk e.symm) (hzk.rng f0 (by rw [hfr];exact List.mem_cons_self ..)) (e ▸ (h.zok.each k' z' hz).rng f hf)
 ·exact h.zok.free hk (fun f hf=>hzk.rng f (List.mem_of_mem_drop hf)) (hzk.asc.sublist (List.drop_sublist _ _))
 ·show nxt (C.zones.set k _)=((C.frames.set i0 x').length:Int)+1
  rw [nxt_freeA hk,List.length_set];exact h.zsum
 ·rcases set_get hl' with ⟨rfl,rfl⟩ | ⟨_,hl'⟩
  ·exact (h.lok t' l hl).add _ ⟨by omega,by have:=h.nr;omega⟩ ac
  ·exact h.lok t' l' hl'
end
end Go.Proofs.YthhekebemmckcaaGreatDoor
