/-
  Lemmas and contracts for the laws of synchronisations (layer 43), part 40; several texts joined by a program.
-/
import Derived.Test.YthhekebemmckcaaGreatDoorJ01
import Derived.Test.YthhekebemmckcaaGreatDoorJ16
import Derived.Test.YthhekebemmckcaaGreatDoorJ38
namespace Go.Proofs.YthhekebemmckcaaGreatDoor
set_option linter.unusedVariables false
set_option linter.unusedSimpArgs false
set_option maxRecDepth 100000
set_option maxHeartbeats 16000000
open Go.RowKit
section
variable {F G Z:Nat}
theorem ready_t (C0:Ck) (j off n:Nat) (a b c d e f g:Value) (S:Nat→Prop) (W w:World) (bt:Nat) (h:CkAt w S a b c d e f g C0) (hI:Inv F G Z C0) (hj:j<F) (h1:1≤n) (h2:off+n≤128) (hT:Tp W bt w) (hn:¬S bt) (hS:∀z,w.heap.size≤z→S z) :
  Calls Tryz.prog 46 #[ckV a b c d e f g,.int .i64 j,.int .i64 off,.int .i64 n] w (RetSt F G Z S W bt w):=by
 have hbw:=hT.lt;obtain ⟨A1,m1,c1,A2,m2,c2,A3,m3,c3,A4,m4,c4,A5,m5,c5,A6,m6,c6,A7,m7,c7,rfl,rfl,rfl,rfl,rfl,rfl,rfl⟩:=CkAt.caps h;obtain ⟨X,hX⟩:∃X,X=w.heap.size:=⟨_,rfl⟩;have HP:=H_ (PC.start h hI hT hX hn hS);clear h hI hT;go_enter Tryz.func46,Tryz.ntmps46;obtain ⟨R,hR⟩:∃R,R=X+1:=⟨_,rfl⟩;rw [←hR] at HP;have hXw:w.heap.size≤X∧w.heap.size≤R∧X≠R:=by omega
 go_upto_region 1 with fail
 rw [←hX,←hR];generalize (w.alloc _).alloc _=W1 at HP;clear hX hR;obtain ⟨y0,sz,hy,hsz,hs8⟩:=getFile HP.out.inv hj;have hpg:=fun w'=>pages_o off n (fun z=>W1.heap.size≤z) w' h1 h2;have hln:1≤(pagesL off n).length∧(pagesL off n).length≤9:=by unfold pagesL;rw [pgL_len];omega
 have hall:∀z ∈ pagesL off n,0≤z∧z<8:=fun z hz=>by
  unfold pagesL pgL at hz;simp only [List.mem_map,List.mem_range] at hz;obtain ⟨q,hq,rfl⟩:=hz;omega
 have HALL:=H_ hall;clear hall
 go_upto_region 2 with (go_at_call 84;go_loud (refine CM (hpg _) ?_);rintro e w2 ⟨vl,rfl,ho2,hb2⟩)
 have HO:=H_ ho2;have HB:=H_ hb2;clear ho2 hb2 hpg;have HP2:=H_ (HP.out.step HB.out);have htl:=fun en w' (hb:Below W1.heap.size W1 w')=>tail_w C0 j sz y0 en _ _ _ _ _ _ _ (Sx S X R none) w' (HP.out.at_.step hb) HP.out.inv.ok hy hsz hs8;clear hy hsz;have hP:=HP2.out;obtain ⟨x0,x1,x2,x3,x4,x5,x6⟩:=cs7 hP.box;clear hP
 go_upto_region 3 with (go_at_call 85;go_loud (refine CM (htl _ _ HB.out) ?_);rintro e w3 ⟨tp,ts,rfl,htp,_,_,_,hb3⟩)
 have HO3:=H_ (HO.out.step hb3);have HB3:=blh HB hb3;clear hb3 htl HO HB HP2 x0 x1 x2 x3 x4 x5 x6
 go_upto_if 32 with fail
 go_cut [9] (fun s9 wx=>∃(gl cl:Nat) (L:List Int),s9 = .slice (some ⟨gl,0,none⟩) L.length cl∧W1.heap.size≤gl∧gl<wx.heap.size∧(∀(k:Nat) (z:Int),L[k]?=some z→wx.cell? ⟨gl,k,none⟩=some (.int .i64 z))∧(∀z ∈ L,0≤z∧z<8)∧L.length≤20∧Below W1.heap.size W1 wx)
 case first=>
  rcases htp with rfl | ⟨q,rfl,hq⟩
  ·go_wp2;go_meet
   case rel=>exact ready_l HO3.out hln.1 HALL.out (by omega) HB3.out
  ·have HO:=HO3;have HB:=HB3
   go_wp2_with (at_builtin;go_loud (refine wpList_push IntR int_el rfl (.tmp 33) (.tmp 35) rfl _ W1.heap.size (fun z=>W1.heap.size≤z) (pagesL off n) rfl (HO.out.alloc _) (by have:=HB.out.size;simp;omega) (by omega) _ #[.int .i64 (q:Int)] rfl _ (heap_at_new _ _ _ rfl) (q:Int) rfl ?_);intro v4 w4 hown4 hg4 hat4)
   go_meet
   case rel=>
    have hal:∀z ∈ pagesL off n ++ [(q:Int)],0≤z∧z<8:=fun z hz=>by
     rcases List.mem_append.1 hz with hz | hz
     ·exact HALL.out z hz
     ·obtain rfl:z=(q:Int):=by simpa using hz
      omega
    have hle:1≤(pagesL off n ++ [(q:Int)]).length∧(pagesL off n ++ [(q:Int)]).length≤20:=by simp;omega
    have hbl:Below W1.heap.size W1 w4:=(bl_alloc HB.out _).grown hg4 (bl_alloc HB.out _).size (fun b hb=>(HO.out.own hb).1);exact ready_l hown4 hle.1 hal hle.2 hbl
 case rest=>
  obtain ⟨gl,cl,L,rfl,hg1,hg2,hcl,hL,hLl,hbl⟩:=hcut;have HCL:=H_ hcl;have HL:=H_ hL;have HP3:=H_ (HP.out.own (K:=some gl) hbl (fun z hz=>by injection hz with hz;omega))
  clear hcl hL hbl hg1 HP HO3 HB3 HALL htp hln y0
  go_upto_region 5 with fail
  go_wp2
  go_loopw [12,13,14,15,16,17,18] (fun s12 s13 s14 s15 s16 s17 s18 wx=>∃k:Nat,s12 = .int .i64 (k:Int)∧k≤L.length∧PCs F G Z S W w wc bt X R (some gl) wx) (fun s12 _ _ _ _ _ _ _=>L.length - (intOf s12).toNat)
  case atStart=>exact ⟨0,rfl,by omega,_,_,_,_,_,_,_,_,HP3.out⟩
  case round=>
   clear HP3;obtain ⟨k,rfl,hk,a,b,c,d,e,f,g,C,hP⟩:=hrel;obtain ⟨A1,m1,c1,rfl⟩:=hP.at_.files.cap;obtain ⟨A2,m2,c2,rfl⟩:=hP.at_.frames.cap;obtain ⟨A3,c3,rfl,_,_⟩:=hP.at_.zones.form;obtain ⟨A4,m4,c4,rfl⟩:=hP.at_.groups.cap;obtain ⟨A5,m5,c5,rfl⟩:=hP.at_.lists.cap;obtain ⟨A6,m6,c6,rfl⟩:=hP.at_.clocks.cap;obtain ⟨A7,m7,c7,rfl⟩:=hP.at_.ptes.cap;obtain ⟨zn,hzn⟩:∃zn,C.zones.length=zn+1:=⟨C.zones.length - 1,by have:=hP.inv.nz;have:=hP.inv.few;omega⟩;have hzZ:zn<Z:=by have:=hP.inv.nz;omega
   have hz2:zn≤1:=by have:=hP.inv.nz;have:=hP.inv.few;omega
   have hG0:0<G:=by have:=hP.inv.few;omega
   rw [hzn] at hP;obtain ⟨Wk,hWk⟩:∃Wk,Wk=wc:=⟨_,rfl⟩;subst hWk;have HP:=H_ hP;clear hP hzn;obtain ⟨V,hV⟩:∃V,V=wr:=⟨_,rfl⟩;subst hV
   by_cases hlt:k<L.length
   ·obtain ⟨p,hp,hp8⟩:∃p:Nat,L[k]?=some (p:Int)∧p<8:=by
     have:=HL.out _ (List.getElem_mem hlt);exact ⟨L[k].toNat,by rw [List.getElem?_eq_getElem hlt];congr 1;omega,by omega⟩
    have l0:V.cell? ⟨gl,k,none⟩=some (.int .i64 (p:Int)):=(cell_kept (HP.out.kk gl rfl).2.2.2).trans (HCL.out k p hp);have HLK:=H_ hp;clear hp;obtain ⟨y,sz,hy,_,_⟩:=getFile HP.out.inv hj;have hfd:=fun w' (h:CkAt w' (Sx S X R (some gl)) (.slice A1 m1 c1) (.slice A2 m2 c2) (.slice A3 (zn+1) c3) (.slice A4 m4 c4) (.slice A5 m5 c5) (.slice A6 m6 c6) (.slice A7 m7 c7) C)=>find_w40 C j y p (.slice A1 m1 c1) (.slice A2 m2 c2) (.slice A3 (zn+1) c3) (.slice A4 m4 c4) (.slice A5 m5 c5) (.slice A6 m6 c6) (.slice A7 m7 c7) (Sx S X R (some gl)) w' h hy;have HFO:=H_ (HP.out.inv.findOk hy);have HY:=H_ hy;clear hy;have klt:(k:Int)<(L.length:Int):=by omega
    have k0:(0:Int)≤(k:Int):=by omega
    have hP:=HP.out;obtain ⟨x0,x1,x2,x3,x4,x5,x6⟩:=cs7 hP.box;clear hP
    go_upto_region 8 with fail
    go_cut [13,14] (fun s13 s14 wx=>(∃(m:Int) (ok:Bool),s13 = .int .i64 m∧s14 = .bool ok∧(ok=false∨ok=true∧∃(i:Nat) (x:Fr),m=(i:Int)+1∧FrU C i x j y))∧PC F G Z S W w Wk bt X R (some gl) (.slice A1 m1 c1) (.slice A2 m2 c2) (.slice A3 (zn+1) c3) (.slice A4 m4 c4) (.slice A5 m5 c5) (.slice A6 m6 c6) (.slice A7 m7 c7) C wx)
    case first=>
     have xe:=ext_cell V;have hbX:=bk_lt HP.out.box;have hbg:=(HP.out.kk gl rfl).1
     by_cases hv:getR y.c p≤0
     ·have hfq:∀z,Calls Tryz.prog 23 #[ckV (.slice A1 m1 c1) (.slice A2 m2 c2) (.slice A3 (zn+1) c3) (.slice A4 m4 c4) (.slice A5 m5 c5) (.slice A6 m6 c6) (.slice A7 m7 c7),.int .i64 j,.int .i64 p] (ext V z) (fun e w''=>e = .returned (.tuple #[.int .i64 0,.bool false])∧Below (ext V z).heap.size (ext V z) w''):=fun z=>by
       have:=hfd (ext V z) (HP.out.at_.step (below_ext V z));unfold RetFd fdV at this;rw [if_pos hv] at this;exact this
      clear hv hfd;refine wp_region_ext (by kernel_rfl) (by kernel_rfl) ?_
      repeat (go_big_quiet_step ((exact ext_call (hfq _))))
      refine wpQuiet_nil ?_;rintro w' ⟨z,rfl⟩;go_wp2;go_meet
      case rel=>exact ⟨⟨0,false,rfl,rfl,.inl rfl⟩,HP.out.step (below_ext V z)⟩
     ·obtain ⟨i,x,hgi,hU,hxp⟩:=HFO.out p (by omega);have hfq:∀z,Calls Tryz.prog 23 #[ckV (.slice A1 m1 c1) (.slice A2 m2 c2) (.slice A3 (zn+1) c3) (.slice A4 m4 c4) (.slice A5 m5 c5) (.slice A6 m6 c6) (.slice A7 m7 c7),.int .i64 j,.int .i64 p] (ext V z) (fun e w''=>e = .returned (.tuple #[.int .i64 ((i:Int)+1),.bool true])∧Below (ext V z).heap.size (ext V z) w''):=fun z=>by
       have:=hfd (ext V z) (HP.out.at_.step (below_ext V z));unfold RetFd fdV at this;rw [if_neg hv,hgi] at this;exact this
      have HU:=H_ hU;clear hv hfd hU hgi hxp;refine wp_region_ext (by kernel_rfl) (by kernel_rfl) ?_
      repeat (go_big_quiet_step ((exact ext_call (hfq _))))
      refine wpQuiet_nil ?_;rintro w' ⟨z,rfl⟩;go_wp2;go_meet
      case rel=>exact ⟨⟨_,true,rfl,rfl,.inr ⟨rfl,i,x,rfl,HU.out⟩⟩,HP.out.step (below_ext V z)⟩
    case rest=>
     clear HP l0 x0 x1 x2 x3 x4 x5 x6 hfd HFO V;obtain ⟨⟨m,ok,rfl,rfl,hok⟩,hP⟩:=hcut;have HOK:=H_ hok;have HP:=H_ hP;clear hok hP
     go_upto_region 9 with fail
     go_cut [54] (fun s54 wx=>s54 = .bool (!ok)∧PC F G Z S W w Wk bt X R (some gl) (.slice A1 m1 c1) (.slice A2 m2 c2) (.slice A3 (zn+1) c3) (.slice A4 m4 c4) (.slice A5 m5 c5) (.slice A6 m6 c6) (.slice A7 m7 c7) C wx)
     case first=>
      go_wp2;go_meet
      case rel=>exact ⟨rfl,HP.out⟩
     case rest=>
      clear HP;obtain ⟨rfl,hP⟩:=hcut;have HP:=H_ hP;clear hP
      go_upto_if 54 with fail
      go_cut [13,15,16,17] (fun s13 s15 s16 s17 wx=>∃(i:Nat) (a b c d e f g:Value) (C:Ck) (x:Fr) (y:Fl),s13 = .int .i64 ((i:Int)+1)∧FrU C i x j y∧PC F G Z S W w Wk bt X R (some gl) a b c d e f g C wx)
      case first=>
       cases ok with
       | true=>
        obtain ⟨i,x,rfl,hU⟩:∃(i:Nat) (x:Fr),m=(i:Int)+1∧FrU C i x j y:=by
         rcases HOK.out with h | ⟨_,h⟩
         ·cases h
         ·exact h
        go_wp2;go_meet
        case rel=>exact ⟨i,_,_,_,_,_,_,_,_,x,y,rfl,hU,HP.out⟩
       | false=>
        clear HOK;obtain ⟨V,hV⟩:∃V,V=wc:=⟨_,rfl⟩;subst hV
        go_upto_region 10 with fail
        go_cut [15,16,17] (fun s15 s16 s17 wx=>∃(z:Nat) (t:Ck × Int × Int) (a b c d e f g:Value),s15 = .pointer (some ⟨z,0,none⟩)∧s16 = .int .i64 t.2.1∧s17 = .int .i64 t.2.2∧InQ F G Z j p t.1 t.2.1 t.2.2∧wx.heap[z]?=some (.cells #[a,b,c,d,e,f,g] 30 (0,0))∧CkAt wx (Sg (Sx S X R (some gl)) ((some z,some t):GH (Ck × Int × Int))) a b c d e f g t.1∧PC F G Z S W w Wk bt X R (some gl) (.slice A1 m1 c1) (.slice A2 m2 c2) (.slice A3 (zn+1) c3) (.slice A4 m4 c4) (.slice A5 m5 c5) (.slice A6 m6 c6) (.slice A7 m7 c7) C wx)
        case first=>
         refine wp_region_sg2 (τ:=Ck × Int × Int) (S:=Sx S X R (some gl)) 123 16 (fun i=>decide (i≤12)||decide (i=15)) (CG 15 10 16 (PB F G Z S W w Wk bt X R V.heap.size (some gl) (.slice A1 m1 c1) (.slice A2 m2 c2) (.slice A3 (zn+1) c3) (.slice A4 m4 c4) (.slice A5 m5 c5) (.slice A6 m6 c6) (.slice A7 m7 c7) C) V.heap.size (oCZ) (fun t=>InQ F G Z j p t.1 t.2.1 t.2.2) (fun t x z=>∃a b c d e f g,x.heap[z]?=some (.cells #[a,b,c,d,e,f,g] 30 (0,0))∧CkAt x (Sg (Sx S X R (some gl)) (some z,some t)) a b c d e f g t.1)) [SG.eq (ckV (.slice A1 m1 c1) (.slice A2 m2 c2) (.slice A3 (zn+1) c3) (.slice A4 m4 c4) (.slice A5 m5 c5) (.slice A6 m6 c6) (.slice A7 m7 c7)),SG.eq (.int .i64 (j:Int)),SG.eq (.slice (some ⟨gl,0,none⟩) L.length cl),SG.eq (.int .i64 (k:Int)),SG.eq (.pointer (some ⟨gl,k,none⟩)),SG.eq (.int .i64 (p:Int)),SG.eq (.pointer (some ⟨X,2,none⟩)),SG.eq (.slice A3 (zn+1) c3),SG.eq (.int .i64 ((zn:Int)+1)),SG.eq (.int .i64 (zn:Int)),SG.res RQ.ck3,SG.res RQ.ck3,SG.res (RQ.ck (fun t=>t.1)),SG.res (RQ.flat (fun t=> .int .i64 t.2.1)),SG.res (RQ.flat (fun t=> .int .i64 t.2.2)),SG.box,SG.any,SG.res (RQ.flat (fun t=> .int .i64 t.2.1)),SG.res (RQ.flat (fun t=> .int .i64 t.2.2))] (by kernel_rfl) (by kernel_rfl) rfl ⟨HP.out.pb.step (B_.drew),fun _=>rfl,fun _=>rfl,fun z h=>(by cases h),fun t h=>(by cases h),fun h=>(by cases h)⟩ (by kernel_rfl) (fun _ _=>trivial) ?_;refine rE (fun g d xw hn hp hC hd K hK=>?_) (fun v0=>?_)
         ·have hb:=hC.b.pc.box;obtain ⟨x0,x1,x2,x3,x4,x5,x6⟩:=cs7 hb;go_simp;exact hK g _ xw (hC.pure 0 rfl rfl rfl) (fun _ _ h=>h) rfl
         simp only [ly];refine rE (fun g d xw hn hp hC hd K hK=>?_) (fun v1=>?_)
         ·skip
          go_simp;exact hK g _ xw (hC.pure 1 rfl rfl rfl) (fun _ _ h=>h) rfl
         simp only [ly];refine rE (fun g d xw hn hp hC hd K hK=>?_) (fun v2=>?_)
         ·skip
          go_simp;exact hK g _ xw (hC.pure 2 rfl rfl rfl) (fun _ _ h=>h) rfl
         simp only [ly];refine rE (fun g d xw hn hp hC hd K hK=>?_) (fun v3=>?_)
         ·skip
          go_simp;exact hK g _ xw (hC.pure 3 rfl rfl rfl) (fun _ _ h=>h) rfl
         simp only [ly];refine rE (fun g d xw hn hp hC hd K hK=>?_) (fun v4=>?_)
         ·obtain rfl:v2=_:=hd 2 (by kernel_rfl);obtain rfl:v3=_:=hd 3 (by kernel_rfl);go_simp;exact hK g _ xw (hC.pure 4 rfl rfl rfl) (fun _ _ h=>h) rfl
         simp only [ly];refine rE (fun g d xw hn hp hC hd K hK=>?_) (fun v5=>?_)
         ·obtain rfl:v4=_:=hd 4 (by kernel_rfl);have l0:=(cell_kept (hC.b.pc.kk gl rfl).2.2.2).trans (HCL.out k p HLK.out);go_simp;exact hK g _ xw (hC.pure 5 rfl rfl rfl) (fun _ _ h=>h) rfl
         simp only [ly];refine rE (fun g d xw hn hp hC hd K hK=>?_) (fun v6=>?_)
         ·skip
          go_simp;exact hK g _ xw (hC.pure 6 rfl rfl rfl) (fun _ _ h=>h) rfl
         simp only [ly];refine rE (fun g d xw hn hp hC hd K hK=>?_) (fun v7=>?_)
         ·obtain rfl:v6=_:=hd 6 (by kernel_rfl);have x2:=cells_at hC.b.pc.box 2;simp only [List.getElem?_toArray,List.getElem?_cons_zero,List.getElem?_cons_succ] at x2;go_simp;exact hK g _ xw (hC.pure 7 rfl rfl rfl) (fun _ _ h=>h) rfl
         simp only [ly];refine rE (fun g d xw hn hp hC hd K hK=>?_) (fun v8=>?_)
         ·obtain rfl:v7=_:=hd 7 (by kernel_rfl);go_simp;exact hK g _ xw (hC.pure 8 rfl rfl rfl) (fun _ _ h=>h) rfl
         simp only [ly];refine rE (fun g d xw hn hp hC hd K hK=>?_) (fun v9=>?_)
         ·obtain rfl:v8=_:=hd 8 (by kernel_rfl);have hw:=w64 (x:=(zn:Int)+1 - 1) (by omega);rw [Int.add_sub_cancel] at hw;go_simp;exact hK g _ xw (hC.pure 9 rfl rfl rfl) (fun _ _ h=>h) (by first | rfl | (show Value.int _ _=Value.int _ _;simp;done) | (show Value.int _ _=Value.int _ _;congr 1;omega))
         simp only [ly];refine rE (fun g d xw hn hp hC hd K hK=>?_) (fun v10=>?_)
         ·obtain rfl:v0=_:=hd 0 (by kernel_rfl);obtain rfl:v1=_:=hd 1 (by kernel_rfl);obtain rfl:v5=_:=hd 5 (by kernel_rfl);obtain rfl:v9=_:=hd 9 (by kernel_rfl);have hds:=nds hp rfl;obtain ⟨r,t⟩:=g;obtain rfl:t=none:=hC.nc hn;have hck:=hC.b.old.weak (S':=Sg (Sx S X R (some gl)) ((r,none):GH (Ck × Int × Int))) (fun z _ h=>⟨h.1,fun e=>by have:=(hC.bo z e).1;omega⟩);have hfr:∀z,xw.heap.size≤z→Sg (Sx S X R (some gl)) ((r,none):GH (Ck × Int × Int)) z:=fun z hz=>⟨hC.b.pc.fresh z hz,fun e=>by have:=(hC.bo z e).2.1;omega⟩;go_simp
          go_at_call 37
          refine CM (insert_i C j _ _ _ _ _ _ _ _ xw hck hC.b.pc.inv hj hfr p 0 zn true hp8 hG0 hzZ) ?_;rintro e w1 ⟨C1,n1,er,a1,b1,c1,d1,e1,f1,g1,hI1,rfl,hc1,hb⟩;exact hK (r,some (C1,n1,er)) _ w1 (hC.called rfl rfl hds hb (hC.b.step hb) hI1) (fun j u h=>GG.keep (KG.ans hb) j u h) ⟨(C1,n1,er),rfl,a1,b1,c1,d1,e1,f1,g1,rfl,hc1⟩
         simp only [ly];refine rE (fun g d xw hn hp hC hd K hK=>?_) (fun v11=>?_)
         ·obtain ⟨t,ht,a1,b1,c1,d1,e1,f1,g1,ev,hc1⟩:=hd 10 (by kernel_rfl);obtain rfl:v10=_:=ev;go_simp;exact hK g _ xw (hC.pure 11 rfl rfl rfl) (fun _ _ h=>h) ⟨t,ht,a1,b1,c1,d1,e1,f1,g1,rfl,hc1⟩
         simp only [ly];refine rE (fun g d xw hn hp hC hd K hK=>?_) (fun v12=>?_)
         ·obtain ⟨t,ht,a1,b1,c1,d1,e1,f1,g1,ev,hc1⟩:=hd 11 (by kernel_rfl);obtain rfl:v11=_:=ev;go_simp;exact hK g _ xw (hC.pure 12 rfl rfl rfl) (fun _ _ h=>h) ⟨t,ht,a1,b1,c1,d1,e1,f1,g1,rfl,hc1⟩
         simp only [ly];refine rE (fun g d xw hn hp hC hd K hK=>?_) (fun v13=>?_)
         ·obtain ⟨t,ht,a1,b1,c1,d1,e1,f1,g1,ev,hc1⟩:=hd 11 (by kernel_rfl);obtain rfl:v11=_:=ev;go_simp;exact hK g _ xw (hC.pure 13 rfl rfl rfl) (fun _ _ h=>h) ⟨t,ht,rfl⟩
         simp only [ly];refine rE (fun g d xw hn hp hC hd K hK=>?_) (fun v14=>?_)
         ·obtain ⟨t,ht,a1,b1,c1,d1,e1,f1,g1,ev,hc1⟩:=hd 11 (by kernel_rfl);obtain rfl:v11=_:=ev;go_simp;exact hK g _ xw (hC.pure 14 rfl rfl rfl) (fun _ _ h=>h) ⟨t,ht,rfl⟩
         simp only [ly];refine rE (fun g d xw hn hp hC hd K hK=>?_) (fun v15=>?_)
         ·have hds:=nds hp rfl;obtain ⟨r,t⟩:=g;obtain rfl:r=none:=hC.nb hn;go_simp;exact hK (some xw.heap.size,t) _ _ (hC.boxed rfl rfl hds hC.b.nn _ (heap_alloc_new _ _) (hC.b.step (bl_alloc B_ _))) (fun j u h=>GG.keep (KG.alloc _) j u h) ⟨_,rfl,rfl⟩
         simp only [ly];refine rE (fun g d xw hn hp hC hd K hK=>?_) (fun v16=>?_)
         ·obtain ⟨z,ev,hz⟩:=hd 15 (by kernel_rfl);obtain rfl:v15=_:=ev;obtain ⟨t,ht,a1,b1,c1,d1,e1,f1,g1,ev,hc1⟩:=hd 12 (by kernel_rfl);obtain rfl:v12=_:=ev;obtain ⟨r,t'⟩:=g;obtain rfl:r=some z:=hz;obtain rfl:t'=some t:=ht;obtain ⟨E1,u1,q1,E2,u2,q2,E3,u3,q3,E4,u4,q4,E5,u5,q5,E6,u6,q6,E7,u7,q7,rfl,rfl,rfl,rfl,rfl,rfl,rfl⟩:=CkAt.caps hc1;refine wp_store_row rfl 30 (.tmp 15) (.tmp 67) rfl rfl z #[.slice E1 u1 q1,.slice E2 u2 q2,.slice E3 u3 q3,.slice E4 u4 q4,.slice E5 u5 q5,.slice E6 u6 q6,.slice E7 u7 q7] rfl rfl 30 _ ((hC.bo z rfl).2.2 hn) ck_size rfl (ck_one _ _ _ _ _ _ _ _ _ _ _ _ _ _ _ _ _ _ _ _ _) ?_;exact hK (some z,some t) undef _ (hC.stored (hC.b.aside (hC.bo z rfl).1 _) ⟨_,_,_,_,_,_,_,setRow_heap _ _ _ _ _ _ ((hC.bo z rfl).2.2 hn),hc1.kept (KeepS.of_setRow _ _ _ (fun h=>h.2 rfl))⟩) (fun j u h=>GG.keep (KG.store _) j u h) trivial
         simp only [ly];refine rE (fun g d xw hn hp hC hd K hK=>?_) (fun v17=>?_)
         ·obtain ⟨t,ht,ev⟩:=hd 13 (by kernel_rfl);obtain rfl:v13=_:=ev;go_simp;exact hK g _ xw (hC.pure 17 rfl rfl rfl) (fun _ _ h=>h) ⟨t,ht,rfl⟩
         simp only [ly];refine rE (fun g d xw hn hp hC hd K hK=>?_) (fun v18=>?_)
         ·obtain ⟨t,ht,ev⟩:=hd 14 (by kernel_rfl);obtain rfl:v14=_:=ev;go_simp;exact hK g _ xw (hC.pure 18 rfl rfl rfl) (fun _ _ h=>h) ⟨t,ht,rfl⟩
         simp only [ly];refine relWalkE_nil ?_;intro g d wz hdone hC hG;obtain ⟨z,t,rfl,a1,b1,c1,d1,e1,f1,g1,hz,hc1⟩:=hC.st (hdone 16 (by simp));obtain ⟨z',e15,hz'⟩:=hG 15 (by simp);obtain rfl:v15=_:=e15;obtain rfl:z=z':=by injection hz'
         obtain ⟨t1,e1',e17⟩:=hG 17 (by simp);obtain rfl:v17=_:=e17;obtain rfl:t=t1:=by injection e1'
         obtain ⟨t2,e2',e18⟩:=hG 18 (by simp);obtain rfl:v18=_:=e18;obtain rfl:t=t2:=by injection e2'
         clear hG hdone;go_wp2;go_meet
         case rel=>exact ⟨z,t,_,_,_,_,_,_,_,rfl,rfl,rfl,hC.an t rfl,hz,hc1,hC.b.pc⟩
        case rest=>
         clear HP;obtain ⟨z,⟨C1,n1,er⟩,a1,b1,c1',d1,e1,f1,g1,rfl,rfl,rfl,hin,hz,hc1,hP⟩:=hcut;have HP:=H_ hP;have HIN:=H_ hin;have HZ:=H_ hz;clear hP hin
         by_cases her:er=0
         ·subst her;obtain ⟨i,x,y',e1',hy',hU,_⟩:=HIN.out.2 rfl;obtain rfl:n1=(i:Int)+1:=e1';have HU:=H_ hU;have HC1:=H_ (show CkAt wc (Sx S X R (some gl)) a1 b1 c1' d1 e1 f1 g1 C1 from hc1.weak (fun _ _ h=>h.1));clear hU hy' hc1;have hc1:=HC1.out;obtain ⟨E1,u1,q1,E2,u2,q2,E3,u3,q3,E4,u4,q4,E5,u5,q5,E6,u6,q6,E7,u7,q7,rfl,rfl,rfl,rfl,rfl,rfl,rfl⟩:=CkAt.caps hc1;obtain ⟨o0,o1,o2,o3,o4,o5,o6⟩:=cs7 HZ.out;clear hc1 hz
          go_wp2_with (refine st_ck rfl (.tmp 4) (.tmp 72) rfl rfl X rfl rfl HP.out.box rfl ?_)
          go_meet
          case rel=>exact ⟨i,_,_,_,_,_,_,_,C1,x,y',rfl,HU.out,HP.out.store HIN.out.1 HC1.out⟩
         ·have d1:(er != 0)=true:=bne_iff_ne.2 her;clear her hz hc1;go_wp2;go_roundw
          case rel=>exact ⟨k+1,by go_num,by omega,_,_,_,_,_,_,_,_,HP.out⟩
          case measure=>simp [intOf];omega
      case rest=>
       clear HP HOK;obtain ⟨i,a,b,c,d,e,f,g,C,x,y,rfl,hU,hP⟩:=hcut;obtain ⟨A1,m1,c1,rfl⟩:=hP.at_.files.cap;obtain ⟨A2,c2,rfl,_,_⟩:=hP.at_.frames.form;obtain ⟨A3,m3,c3,rfl⟩:=hP.at_.zones.cap;obtain ⟨A4,m4,c4,rfl⟩:=hP.at_.groups.cap;obtain ⟨A5,m5,c5,rfl⟩:=hP.at_.lists.cap;obtain ⟨A6,m6,c6,rfl⟩:=hP.at_.clocks.cap;obtain ⟨A7,m7,c7,rfl⟩:=hP.at_.ptes.cap;obtain ⟨bb,o,rfl,hbl,y0,y1,y2,y3,y4,y5,y6,y7,y8⟩:=FrA.cells hP.at_.frames hU.fr;have hil:=(g_l hU.fr);have i2:(i:Int)<(C.frames.length:Int):=by omega
       have i3:C.frames.length≤64:=hP.inv.nr.2;have HP:=H_ hP;have HU:=H_ hU;clear hP hU;obtain ⟨V,hV⟩:∃V,V=wc:=⟨_,rfl⟩;subst hV;have hP:=HP.out;obtain ⟨x0,x1,x2,x3,x4,x5,x6⟩:=cs7 hP.box;clear hP
       go_upto_region 13 with fail
       go_cut [18] (fun s18 wx=>∃nd:Int,s18 = .int .i64 nd∧0≤nd∧nd≤3∧wx.heap[bb]?=V.heap[bb]?∧PC F G Z S W w Wk bt X R (some gl) (.slice A1 m1 c1) (.slice (some ⟨bb,o,none⟩) C.frames.length c2) (.slice A3 m3 c3) (.slice A4 m4 c4) (.slice A5 m5 c5) (.slice A6 m6 c6) (.slice A7 m7 c7) C wx)
       case first=>
        go_quiet (fail);go_wp2;go_meet
        case rel=>
         exact ⟨_,rfl,(andNot3 (or3 HU.out.ok.pg.v HU.out.ok.reading)).1,(andNot3 (or3 HU.out.ok.pg.v HU.out.ok.reading)).2,rfl,HP.out.step (below_drewN B_ nq)⟩
       case rest=>
        clear HP x0 x1 x2 x3 x4 x5 x6 y0 y1 y2 y3 y4 y5 y6 y8;obtain ⟨nd,rfl,n0,n3,hbb,hP⟩:=hcut;replace y7:=(cell_kept hbb).trans y7;have HP:=H_ hP;clear hP hbb;have hP:=HP.out;obtain ⟨x0,x1,x2,x3,x4,x5,x6⟩:=cs7 hP.box;clear hP
        go_upto_region 14 with fail
        go_cut [102] (fun s102 wx=>∃t:Bool,s102 = .bool t∧(t=true→1≤nd)∧PC F G Z S W w Wk bt X R (some gl) (.slice A1 m1 c1) (.slice (some ⟨bb,o,none⟩) C.frames.length c2) (.slice A3 m3 c3) (.slice A4 m4 c4) (.slice A5 m5 c5) (.slice A6 m6 c6) (.slice A7 m7 c7) C wx)
        case first=>
         by_cases hnd:nd=0
         ·have d1:(nd != 0)=false:=by simp [hnd]
          clear hnd;go_wp2;go_meet
          case rel=>exact ⟨_,rfl,(fun h=>by cases h),HP.out⟩
         ·have d1:(nd != 0)=true:=bne_iff_ne.2 hnd;have n1:1≤nd:=by omega
          clear hnd;go_wp2;go_meet
          case rel=>exact ⟨_,rfl,(fun _=>n1),HP.out⟩
        case rest=>
         clear HP x0 x1 x2 x3 x4 x5 x6 y7;obtain ⟨t,rfl,ht,hP⟩:=hcut;have HP:=H_ hP;clear hP
         cases t with
         | false=>
          go_wp2;go_roundw
          case rel=>exact ⟨k+1,by go_num,by omega,_,_,_,_,_,_,_,_,HP.out⟩
          case measure=>simp [intOf];omega
         | true=>
          have n1:=ht rfl;clear ht;have hP:=HP.out;obtain ⟨x0,x1,x2,x3,x4,x5,x6⟩:=cs7 hP.box;clear hP
          go_upto_region 16 with (first
           | (go_at_call 50;go_loud (refine CM (readBegin_w C i j x y nd _ _ _ _ _ _ _ (Sx S X R (some gl)) _ HP.out.at_ HP.out.inv.ok HU.out ⟨n1,n3⟩ HP.out.fresh) ?_);rintro e w2 ⟨C1,er,a1,b1,c1',d1,e1,f1,g1,hput,rfl,hc1,hb⟩;obtain ⟨E1,u1,q1,E2,u2,q2,E3,u3,q3,E4,u4,q4,E5,u5,q5,E6,u6,q6,E7,u7,q7,rfl,rfl,rfl,rfl,rfl,rfl,rfl⟩:=CkAt.caps hc1;have HP2:=H_ (HP.out.step hb))
           | (refine st_ck rfl (.tmp 4) (.tmp 108) rfl rfl X rfl rfl HP2.out.box rfl ?_))
          obtain ⟨x2',hx2,hf2⟩:=hput.used HU.out;have HP3:=H_ (HP2.out.store (HP.out.inv.putP HU.out hput) hc1);clear HP HP2 hc1 hput hb x0 x1 x2 x3 x4 x5 x6;have HP:=HP3;clear HP3;generalize w2.setRow X #[.slice E1 u1 q1,.slice E2 u2 q2,.slice E3 u3 q3,.slice E4 u4 q4,.slice E5 u5 q5,.slice E6 u6 q6,.slice E7 u7 q7]=W3 at HP;refine wp_region_pc 123 12 (fun i=>decide (i≤10)) [SK.eq (ckV (.slice E1 u1 q1) (.slice E2 u2 q2) (.slice E3 u3 q3) (.slice E4 u4 q4) (.slice E5 u5 q5) (.slice E6 u6 q6) (.slice E7 u7 q7)),SK.eq (.int .i64 ((i:Int)+1)),SK.eq (.int .i64 (j:Int)),SK.eq (.slice (some ⟨gl,0,none⟩) L.length cl),SK.eq (.int .i64 (k:Int)),SK.eq (.pointer (some ⟨gl,k,none⟩)),SK.eq (.int .i64 (p:Int)),SK.s16,SK.ck2 F G Z,SK.ck2 F G Z,SK.ck1 F G Z,SK.int,SK.any] (by kernel_rfl) (by kernel_rfl) rfl (fun _=>trivial) HP.out ?_;refine rP rfl rfl (fun xw hC hd K hK=>?_) (fun v0=>?_)
          ·have hC':PC F G Z S W w Wk bt X R (some gl) _ _ _ _ _ _ _ C1 xw∧_:=hC;have hb:=hC'.1.box;obtain ⟨x0,x1,x2,x3,x4,x5,x6⟩:=cs7 hb;go_simp;exact hK _ _ hC K_ rfl
          simp only [ly];refine rP rfl rfl (fun xw hC hd K hK=>?_) (fun v1=>?_)
          ·skip
           go_simp;exact hK _ _ hC K_ rfl
          simp only [ly];refine rP rfl rfl (fun xw hC hd K hK=>?_) (fun v2=>?_)
          ·skip
           go_simp;exact hK _ _ hC K_ rfl
          simp only [ly];refine rP rfl rfl (fun xw hC hd K hK=>?_) (fun v3=>?_)
          ·skip
           go_simp;exact hK _ _ hC K_ rfl
          simp only [ly];refine rP rfl rfl (fun xw hC hd K hK=>?_) (fun v4=>?_)
          ·skip
           go_simp;exact hK _ _ hC K_ rfl
          simp only [ly];refine rP rfl rfl (fun xw hC hd K hK=>?_) (fun v5=>?_)
          ·obtain rfl:v3=_:=hd 3 (by kernel_rfl);obtain rfl:v4=_:=hd 4 (by kernel_rfl);go_simp;exact hK _ _ hC K_ rfl
          simp only [ly];refine rP rfl rfl (fun xw hC hd K hK=>?_) (fun v6=>?_)
          ·obtain rfl:v5=_:=hd 5 (by kernel_rfl);have hC':PC F G Z S W w Wk bt X R (some gl) _ _ _ _ _ _ _ C1 xw∧_:=hC;have l0:=(cell_kept (hC'.1.kk gl rfl).2.2.2).trans (HCL.out k p HLK.out);go_simp;exact hK _ _ hC K_ rfl
          simp only [ly];refine rP rfl rfl (fun xw hC hd K hK=>?_) (fun v7=>?_)
          ·have hC':PC F G Z S W w Wk bt X R (some gl) _ _ _ _ _ _ _ C1 xw∧_:=hC;obtain rfl:v2=_:=hd 2 (by kernel_rfl);obtain rfl:v6=_:=hd 6 (by kernel_rfl);go_simp
           go_at_call 52
           refine CM (disk_w (j:Int) (p:Int) xw ⟨by omega,by have:=hC'.1.inv.few;omega⟩ ⟨by omega,by omega⟩) ?_;rintro e w1 ⟨s,hs,rfl,hb⟩;exact hK _ _ ⟨hC'.1.step hb,grownBy_trans hC'.2 (gb_of_below hb _)⟩ (KeepS.of_below hb) ⟨s,rfl,hs⟩
          simp only [ly];refine rP rfl rfl (fun xw hC hd K hK=>?_) (fun v8=>?_)
          ·have hC':PC F G Z S W w Wk bt X R (some gl) _ _ _ _ _ _ _ C1 xw∧_:=hC;obtain rfl:v0=_:=hd 0 (by kernel_rfl);obtain rfl:v1=_:=hd 1 (by kernel_rfl);obtain ⟨s,ev,hs⟩:=hd 7 (by kernel_rfl);obtain rfl:v7=_:=ev;go_simp
           go_at_call 51
           refine CM (readEnd_i C1 i x2' _ _ _ _ _ _ _ (Sx S X R (some gl)) xw hC'.1.at_ hC'.1.inv hx2 hf2 hC'.1.fresh s true hs) ?_;rintro e w1 ⟨C2,er2,a2,b2,c2',d2,e2,f2,g2,hI2,rfl,hc2,hb⟩;exact hK _ _ ⟨hC'.1.step hb,grownBy_trans hC'.2 (gb_of_below hb _)⟩ (KeepS.of_below hb) ⟨C2,a2,b2,c2',d2,e2,f2,g2,er2,rfl,hI2,hc2⟩
          simp only [ly];refine rP rfl rfl (fun xw hC hd K hK=>?_) (fun v9=>?_)
          ·obtain ⟨C2,a2,b2,c2',d2,e2,f2,g2,er2,ev,hI2,hc2⟩:=hd 8 (by kernel_rfl);obtain rfl:v8=_:=ev;go_simp;exact hK _ _ hC K_ ⟨C2,a2,b2,c2',d2,e2,f2,g2,er2,rfl,hI2,hc2⟩
          simp only [ly];refine rP rfl rfl (fun xw hC hd K hK=>?_) (fun v10=>?_)
          ·obtain ⟨C2,a2,b2,c2',d2,e2,f2,g2,er2,ev,hI2,hc2⟩:=hd 9 (by kernel_rfl);obtain rfl:v9=_:=ev;go_simp;exact hK _ _ hC K_ ⟨C2,a2,b2,c2',d2,e2,f2,g2,rfl,hI2,hc2⟩
          simp only [ly];refine rA rfl (fun w=>KeepS.refl w) (fun xw hd K hK=>?_) (fun v11=>?_)
          ·obtain ⟨C2,a2,b2,c2',d2,e2,f2,g2,er2,ev,hI2,hc2⟩:=hd 9 (by kernel_rfl);obtain rfl:v9=_:=ev;go_simp;exact hK _ ⟨_,rfl⟩
          simp only [ly];refine rS (fun xw hC hd K hK=>?_) (fun v12=>?_)
          ·obtain ⟨C2,a2,b2,c2',d2,e2,f2,g2,ev,hI2,hc2⟩:=hd 10 (by kernel_rfl);obtain rfl:v10=_:=ev;have hC':PC F G Z S W w Wk bt X R (some gl) _ _ _ _ _ _ _ C1 xw∧_:=hC;obtain ⟨D1,r1,s1,D2,r2,s2,D3,r3,s3,D4,r4,s4,D5,r5,s5,D6,r6,s6,D7,r7,s7,rfl,rfl,rfl,rfl,rfl,rfl,rfl⟩:=CkAt.caps hc2;refine wp_store_row rfl 30 (.tmp 4) (.tmp 120) rfl rfl X #[.slice D1 r1 s1,.slice D2 r2 s2,.slice D3 r3 s3,.slice D4 r4 s4,.slice D5 r5 s5,.slice D6 r6 s6,.slice D7 r7 s7] rfl rfl 30 _ hC'.1.box ck_size rfl (ck_one _ _ _ _ _ _ _ _ _ _ _ _ _ _ _ _ _ _ _ _ _) ?_;exact hK undef _ ⟨_,_,_,_,_,_,_,_,hC'.1.store hI2 hc2⟩ (KeepS.of_setRow _ _ _ (fun h=>h.2.1 rfl)) trivial
          simp only [ly];refine relWalkA_nil ?_;intro wz hD hG;clear hG;go_wp2;go_roundw
          case rel=>exact ⟨k+1,by go_num,by omega,hD⟩
          case measure=>simp [intOf];omega
   ·obtain rfl:k=L.length:=by omega
    have hP:=HP.out;obtain ⟨x0,x1,x2,x3,x4,x5,x6⟩:=cs7 hP.box;clear hP
    go_wp2_with (refine st_ck rfl (.tmp 8) (.tmp 122) rfl rfl R rfl rfl HP.out.res rfl ?_)
    show bodyPost Tryz.prog Tryz.f46 _ _ _ _
    refine bodyPost_ret (ck_res rfl _ _ R _ _ _ _ _ _ _ _ _ rfl (setRow_heap _ _ _ _ _ _ HP.out.res)) rfl ?_;obtain ⟨q1,q2,q3⟩:=HP.out.done;exact ⟨C,_,_,_,_,_,_,_,HP.out.inv,rfl,q1,q2,q3⟩
end
end Go.Proofs.YthhekebemmckcaaGreatDoor
