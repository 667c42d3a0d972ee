/-
  Lemmas and contracts for the laws of synchronisations (layer 43), part 16; several texts joined by a program.
-/
import Derived.Test.YthhekebemmckcaaGreatDoorJ01
import Derived.Test.YthhekebemmckcaaGreatDoorJ15
import Derived.Lib.ConvBytes
namespace Go.Proofs.YthhekebemmckcaaGreatDoor
set_option linter.unusedVariables false
set_option linter.unusedSimpArgs false
set_option maxRecDepth 100000
set_option maxHeartbeats 16000000
open Go.RowKit
section
def U8R:RR UInt8 1:=RR.flat (fun b=>[.int .u8 (b.toNat:Int)]) (fun a=>⟨rfl,fun u hu=>by simp at hu;subst hu;rfl⟩)
theorem bytes_lw (w:World) (s:ByteArray):LW U8R (Lib.bytesWorld w 5 s) (fun _=>False) w.heap.size s.data.toList:=by
 have hn:=Lib.bytesWorld_at_new w 5 s
 have hs:(Lib.bytesCells w 5 s).size≥s.data.toList.length:=by simp [Lib.bytesCells]
 refine ⟨fun h=>h,s.data.toList.map (fun b=>[.int .u8 (b.toNat:Int)]),⟨fun j hj=>?_,by rw [Lib.bytesWorld_size];omega,All2.shp (R:=U8R) (w:=w) (S:=fun _=>False) (All2.of_map _),fun i r j u hi hj=>?_⟩,All2.of_map _⟩
 ·have hj':j<s.data.toList.length:=by simpa using hj
  rw [Nat.zero_add]
  constructor
  ·have:=Lib.bytesWorld_cell w 5 s j (by simpa using hj')
   rw [this];rfl
  ·simp [World.frozen?,hn]
   omega
 ·rw [List.getElem?_map] at hi
  cases hb:s.data.toList[i]? with
  | none=>rw [hb] at hi;simp at hi
  | some b=>
   rw [hb] at hi
   have hi:[Value.int .u8 (b.toNat:Int)]=r:=by simpa using hi
   subst hi
   match j with
   | 0=>
    have hu:Value.int .u8 (b.toNat:Int)=u:=by simpa using hj
    subst hu
    have hil:=(g_l hb)
    rw [Nat.mul_one,Nat.add_zero,Lib.bytesWorld_cell w 5 s i (by simpa using hil)]
    have:s.data.toList.getD i 0=b:=by rw [List.getD_eq_getElem?_getD,hb];rfl
    rw [this]
   | j+1=>simp at hj
theorem bytes_below (w:World) (e:TypeId) (s:ByteArray):Below w.heap.size w (Lib.bytesWorld w e s):=by
 refine ⟨?_,?_,?_,by rw [Lib.bytesWorld_size];omega,fun k hk=>Lib.bytesWorld_at_old w e s k hk⟩ <;> rfl
def newB (v sec:Int) (i:Nat):Bool:=(bits .and .i64 sec ((2 ^ (i / 8):Nat):Int) != 0)&&(bits .and .i64 v ((2 ^ (i / 8):Nat):Int) == 0)
def fillK (d t:ByteArray) (v sec:Int) (k:Nat):List UInt8:=(List.range 16).map (fun i=>if i<k∧newB v sec i=true then t.data.toList.getD i 0 else d.data.toList.getD i 0)
theorem fillK_len (d t:ByteArray) (v sec:Int) (k:Nat):(fillK d t v sec k).length=16:=by unfold fillK;simp
theorem fillK_at {d t:ByteArray} {v sec:Int} {k i:Nat} (h:i<16):(fillK d t v sec k)[i]?=some (if i<k∧newB v sec i=true then t.data.toList.getD i 0 else d.data.toList.getD i 0):=by
 unfold fillK
 rw [List.getElem?_map,List.getElem?_range h];rfl
theorem fillK_zero {d t:ByteArray} {v sec:Int} (hd:d.size=16):fillK d t v sec 0=d.data.toList:=by
 apply List.ext_getElem?
 intro i
 have hl:d.data.toList.length=16:=by simpa using hd
 by_cases h:i<16
 ·rw [fillK_at h,if_neg (by omega),List.getD_eq_getElem?_getD,List.getElem?_eq_getElem (by omega)];rfl
 ·rw [List.getElem?_eq_none (by rw [fillK_len];omega),List.getElem?_eq_none (by omega)]
theorem fillK_set {d t:ByteArray} {v sec:Int} {k:Nat} (h:k<16) (hn:newB v sec k=true):(fillK d t v sec k).set k (t.data.toList.getD k 0)=fillK d t v sec (k+1):=by
 apply List.ext_getElem?
 intro i
 by_cases hi:i<16
 ·by_cases he:i=k
  ·subst he
   rw [List.getElem?_set_self (by rw [fillK_len];exact h),fillK_at hi,if_pos ⟨by omega,hn⟩]
  ·rw [List.getElem?_set_ne (fun e=>he e.symm),fillK_at hi,fillK_at hi]
   congr 2
   by_cases hl:i<k
   ·simp [hl,show i<k+1 by omega]
   ·simp [hl,show ¬i<k+1 by omega]
 ·rw [List.getElem?_eq_none (by rw [List.length_set,fillK_len];omega),List.getElem?_eq_none (by rw [fillK_len];omega)]
theorem fillK_skip {d t:ByteArray} {v sec:Int} {k:Nat} (hn:newB v sec k=false):fillK d t v sec k=fillK d t v sec (k+1):=by
 apply List.ext_getElem?
 intro i
 by_cases hi:i<16
 ·rw [fillK_at hi,fillK_at hi]
  congr 2
  by_cases he:i=k
  ·subst he;simp [hn]
  ·by_cases hl:i<k
   ·simp [hl,show i<k+1 by omega]
   ·simp [hl,show ¬i<k+1 by omega]
 ·rw [List.getElem?_eq_none (by rw [fillK_len];omega),List.getElem?_eq_none (by rw [fillK_len];omega)]
def fillG (p:Pg) (sec:Int) (t:ByteArray):Pg:=⟨⟨(fillK p.data t p.valid sec 16).toArray⟩,bits .or .i64 p.valid sec,p.dirty⟩
theorem fill_w (d:ByteArray) (v y sec:Int) (t:ByteArray) (w:World) (ok:PgOk ⟨d,v,y⟩) (hs:0≤sec∧sec≤3) (ht:t.size=16):Calls Tryz.prog 94 #[pgV d v y,.int .i64 sec,.string t] w (RetPg (fillG ⟨d,v,y⟩ sec t) 0 w):=by
 have hck:=fun w'=>pgCheck_w d v y w' ok
 have hd:d.size=16:=ok.len
 have HX:=H_ (bk_alloc (heap_alloc_at w (.cells #[.string d,.int .i64 v,.int .i64 y] 53)) (.cells #[.string ByteArray.empty,.int .i64 0,.int .i64 0] 53))
 have HR:=H_ (heap_at_new (w.alloc (.cells #[.string d,.int .i64 v,.int .i64 y] 53)) (.cells #[.string ByteArray.empty,.int .i64 0,.int .i64 0] 53) (w.heap.size+1) (by simp))
 have HW:=H_ (bl_alloc (bl_alloc (Below.refl w.heap.size w) (.cells #[.string d,.int .i64 v,.int .i64 y] 53)) (.cells #[.string ByteArray.empty,.int .i64 0,.int .i64 0] 53))
 have HD:=H_ hd
 have HT:=H_ ht
 have d1:decide (sec<0)=false:=dF (by omega)
 have d2:decide (3<sec)=false:=dF (by omega)
 have d3:((t.size:Int) != 16)=false:=by simp;omega
 have hcv:=fun w=>Lib.run_convert_string_bytes (P:=Tryz.prog) w 9 141 5 d Tryz.underlying9 Tryz.underlying141 Tryz.underlying5
 clear ok hd ht
 go_enter Tryz.func94,Tryz.ntmps94
 go_upto_region 6 with (go_at_call 130;(with_reducible refine CM (hck _) ?_);rintro e w1 ⟨rfl,hb1⟩;have HX1:=bkh HX hb1;have HR1:=bkh HR hb1;have HW1:=blh HW hb1;clear hb1;obtain ⟨x0,x1,x2⟩:=cs3 HX1.out)
 have HV:=H_ (show LW U8R (Lib.bytesWorld w1 5 d) (fun _=>False) w1.heap.size (fillK d t v sec 0) by rw [fillK_zero HD.out];exact bytes_lw w1 d)
 have hbv:=bytes_below w1 5 d
 have HX2:=bkh HX1 hbv
 have HR2:=bkh HR1 hbv
 have HW2:=blh HW1 hbv
 have hB:=HW1.out.size
 have hB2:=bk_lt HR1.out
 have dn1:d.size≤16:=by have:=HD.out;omega
 have dn2:16≤d.size:=by have:=HD.out;omega
 have tn2:16≤t.size:=by have:=HT.out;omega
 clear hbv hcv x0 x1 x2 HX1 HR1 HW1 HX HR HW
 generalize Lib.bytesWorld w1 5 d=V at HV HX2 HR2 HW2
 generalize grownCap w1 d.size 0 5=cp
 obtain ⟨B,hBB⟩:∃B,B=w1.heap.size:=⟨_,rfl⟩
 rw [←hBB] at HV hB hB2 ⊢
 clear hBB
 go_wp2
 go_loopw [9] (fun i wx=>∃k:Nat,i = .int .i64 k∧k≤16∧LW U8R wx (fun _=>False) B (fillK d t v sec k)∧Below w.heap.size w wx∧wx.heap[w.heap.size]?=some (.cells #[.string d,.int .i64 v,.int .i64 y] 53 (0,0))∧wx.heap[w.heap.size+1]?=some (.cells #[.string ByteArray.empty,.int .i64 0,.int .i64 0] 53 (0,0))) (fun i _=>16 - (intOf i).toNat)
 case atStart=>exact ⟨0,rfl,by omega,HV.out,HW2.out,HX2.out,HR2.out⟩
 case round=>
  clear HV HW2 HX2 HR2
  obtain ⟨k,rfl,hk,hw,hb,hX,hR⟩:=hrel
  have HV:=H_ hw
  have HW:=H_ hb
  have HX:=H_ hX
  have HR:=H_ hR
  obtain ⟨x0,x1,x2⟩:=cs3 hX
  clear hb hX hR
  by_cases hlt:k<16
  ·have hkd:k<d.size:=by omega
   have hkt:k<t.size:=by omega
   have f0:=(hw.slot (i:=k) (p:=0) (by rw [fillK_len];exact hlt) (by omega)).2
   obtain ⟨c0,hc0⟩:=(hw.slot (i:=k) (p:=0) (by rw [fillK_len];exact hlt) (by omega)).1
   rw [Nat.mul_one,Nat.add_zero] at f0 hc0
   have HBYTE:=H_ (show t.data.toList.getD k 0=t[k] by
    rw [List.getD_eq_getElem?_getD,List.getElem?_eq_getElem (by simpa using hkt)];rfl)
   clear hw
   obtain ⟨bi,hbi,hdiv⟩:∃bi:Nat,(bi=0∨bi=1)∧k / 8=bi:=⟨k / 8,by omega,rfl⟩
   have hdivI:(k:Int) / 8=(bi:Int):=by omega
   have HNB:=H_ (show newB v sec k=((bits .and .i64 sec ((2 ^ bi:Nat):Int) != 0)&&(bits .and .i64 v ((2 ^ bi:Nat):Int) == 0)) by unfold newB;rw [hdiv])
   clear hdiv
   rcases hbi with rfl | rfl
   ·skip
    have HNB':=H_ (show newB v sec k=((bits .and .i64 sec 1 != 0)&&(bits .and .i64 v 1 == 0)) from HNB.out)
    cases e1:(bits .and .i64 sec 1 != 0) with
    | false=>
     have HS:=H_ (fillK_skip (d:=d) (t:=t) (show newB v sec k=false by rw [HNB'.out,e1];rfl))
     go_wp2
     go_roundw
     case rel=>exact ⟨k+1,by go_num,by omega,by rw [←HS.out];exact HV.out,HW.out,HX.out,HR.out⟩
     case measure=>simp [intOf];omega
    | true=>
     cases e2:(bits .and .i64 v 1 == 0) with
     | false=>
      have HS:=H_ (fillK_skip (d:=d) (t:=t) (show newB v sec k=false by rw [HNB'.out,e1,e2];rfl))
      go_wp2
      go_roundw
      case rel=>exact ⟨k+1,by go_num,by omega,by rw [←HS.out];exact HV.out,HW.out,HX.out,HR.out⟩
      case measure=>simp [intOf];omega
     | true=>
      have HS:=H_ (fillK_set (d:=d) (t:=t) hlt (show newB v sec k=true by rw [HNB'.out,e1,e2];rfl))
      go_wp2
      go_roundw
      case rel=>
       refine ⟨k+1,by go_num,by omega,?_,bl_set HW.out _ _ (by show w.heap.size≤B;omega),set_bk HX.out _ _ (by show w.heap.size≠B;omega),set_bk HR.out _ _ (by show w.heap.size+1≠B;omega)⟩
       have:=HV.out.setOne (i:=k) (p:=0) (a:=(fillK d t v sec k)[k]'(by rw [fillK_len];exact hlt)) (a':=t.data.toList.getD k 0) (v:= .int .u8 ((t.data.toList.getD k 0).toNat:Int)) (List.getElem?_eq_getElem _) (by omega) rfl (fun r hr=>by
        have hr:r=[.int .u8 _]:=hr
        subst hr
        rfl)
       rw [HS.out,Nat.mul_one,Nat.add_zero,HBYTE.out] at this
       exact this
      case measure=>simp [intOf];omega
   ·skip
    have HNB':=H_ (show newB v sec k=((bits .and .i64 sec 2 != 0)&&(bits .and .i64 v 2 == 0)) from HNB.out)
    cases e1:(bits .and .i64 sec 2 != 0) with
    | false=>
     have HS:=H_ (fillK_skip (d:=d) (t:=t) (show newB v sec k=false by rw [HNB'.out,e1];rfl))
     go_wp2
     go_roundw
     case rel=>exact ⟨k+1,by go_num,by omega,by rw [←HS.out];exact HV.out,HW.out,HX.out,HR.out⟩
     case measure=>simp [intOf];omega
    | true=>
     cases e2:(bits .and .i64 v 2 == 0) with
     | false=>
      have HS:=H_ (fillK_skip (d:=d) (t:=t) (show newB v sec k=false by rw [HNB'.out,e1,e2];rfl))
      go_wp2
      go_roundw
      case rel=>exact ⟨k+1,by go_num,by omega,by rw [←HS.out];exact HV.out,HW.out,HX.out,HR.out⟩
      case measure=>simp [intOf];omega
     | true=>
      have HS:=H_ (fillK_set (d:=d) (t:=t) hlt (show newB v sec k=true by rw [HNB'.out,e1,e2];rfl))
      go_wp2
      go_roundw
      case rel=>
       refine ⟨k+1,by go_num,by omega,?_,bl_set HW.out _ _ (by show w.heap.size≤B;omega),set_bk HX.out _ _ (by show w.heap.size≠B;omega),set_bk HR.out _ _ (by show w.heap.size+1≠B;omega)⟩
       have:=HV.out.setOne (i:=k) (p:=0) (a:=(fillK d t v sec k)[k]'(by rw [fillK_len];exact hlt)) (a':=t.data.toList.getD k 0) (v:= .int .u8 ((t.data.toList.getD k 0).toNat:Int)) (List.getElem?_eq_getElem _) (by omega) rfl (fun r hr=>by
        have hr:r=[.int .u8 _]:=hr
        subst hr
        rfl)
       rw [HS.out,Nat.mul_one,Nat.add_zero,HBYTE.out] at this
       exact this
      case measure=>simp [intOf];omega
  ·obtain rfl:k=16:=by omega
   have hcv:(convert 141 9 (.slice (some ⟨B,0,none⟩) d.size cp)).run Tryz.prog wr = .ok (.string ⟨(fillK d t v sec 16).toArray⟩) wr:=by
    have:=conv_bytes (fillK d t v sec 16) B cp wr (fun j hj=>by
     obtain ⟨r,hr,hc⟩:=hw.at_ (List.getElem?_eq_getElem hj)
     have hr:r=[.int .u8 _]:=hr
     subst hr
     have:=hc 0 _ rfl
     rw [Nat.mul_one,Nat.add_zero] at this
     exact this)
    rw [fillK_len] at this
    rw [HD.out]
    exact this
   clear hw
   go_wp2_with (refine wpList_store_rowTo rfl 53 (.tmp 6) (.tmp 64) rfl rfl (w.heap.size+1) #[.string ⟨(fillK d t v sec 16).toArray⟩,.int .i64 (bits .or .i64 v sec),.int .i64 y] rfl rfl 53 _ (HR.out) pg_size rfl (pg_one _ _ _) ?_)
   show bodyPost Tryz.prog Tryz.f94 _ _ _ _
   refine bodyPost_ret (pg2_res rfl _ _ (w.heap.size+1) _ _ _ _ _ _ rfl rfl (setRow_heap _ _ _ _ _ _ HR.out)) rfl ?_
   exact ⟨rfl,bl_setRow HW.out (by omega) _⟩
end
section
abbrev erV (c e:Int):Value:= .agg #[.int .i64 c,.int .i64 e]
def ErOk (c e:Int):Prop:=0≤c∧c≤1000000∧(c=0↔e=0)
theorem er_size:(Tryz.prog.info? 74).map (·.size)=some 2:=by kernel_rfl
theorem erRight_w (c e:Int) (w:World) (ok:ErOk c e):Calls Tryz.prog 133 #[erV c e] w (RetB true w):=by
 obtain ⟨h1,h2,h3⟩:=ok
 by_cases hc:c=0
 ·have he:=h3.1 hc
  subst hc he
  clear h3
  go_enter Tryz.func133,Tryz.ntmps133
  go_wp2
  go_ret
  exact ⟨rfl,bl_alloc B_ _⟩
 ·have he:¬e=0:=fun h=>hc (h3.2 h)
  have d1:(c == 0)=false:=by simp [hc]
  have d2:(e == 0)=false:=by simp [he]
  clear h3
  go_enter Tryz.func133,Tryz.ntmps133
  go_wp2
  go_ret
  exact ⟨rfl,bl_alloc B_ _⟩
def recE (c e err:Int):Int × Int × Int:=if c=1000000 then (c,e,3) else (c+1,err,0)
def RetEr (r:Int × Int × Int) (w:World) (e:Ending) (w':World):Prop:=e = .returned (.tuple #[erV r.1 r.2.1,.int .i64 r.2.2])∧Below w.heap.size w w'
theorem er_one (a b:Int):(#[Value.int .i64 a,.int .i64 b]:Array Value).all (·.oneCell')=true:=by simp [Value.oneCell']
theorem er2_res {fn:Func} {p q:Tmp} (h:fn.results=#[.cell p 74,.tmp q]) (tmps:Array Value) (w:World) (g:Nat) (t:TypeId) (a b:Value) (fr:Nat × Nat) (u:Value)
  (hp:tmps.getD p undef = .pointer (some ⟨g,0,none⟩)) (hq:tmps.getD q undef=u) (hg:w.heap[g]?=some (.cells #[a,b] t fr)):(results fn tmps).run Tryz.prog w = .ok (.tuple #[.agg #[a,b],u]) w:=
 res2 h tmps w g t _ fr _ u hp hq hg Tryz.underlying74 rfl er_size
theorem record_w (c e err:Int) (w:World) (ok:ErOk c e) (herr:err≠0):Calls Tryz.prog 93 #[erV c e,.int .i64 err] w (RetEr (recE c e err) w):=by
 have hck:=fun w'=>erRight_w c e w' ok
 have HX:=H_ (bk_alloc (heap_alloc_at w (.cells #[.int .i64 c,.int .i64 e] 74)) (.cells #[.int .i64 0,.int .i64 0] 74))
 have HR:=H_ (heap_at_new (w.alloc (.cells #[.int .i64 c,.int .i64 e] 74)) (.cells #[.int .i64 0,.int .i64 0] 74) (w.heap.size+1) (by simp))
 have HW:=H_ (bl_alloc (bl_alloc (Below.refl w.heap.size w) (.cells #[.int .i64 c,.int .i64 e] 74)) (.cells #[.int .i64 0,.int .i64 0] 74))
 have d1:(err == 0)=false:=by simp [herr]
 have b0:=ok.1
 have b1:=ok.2.1
 clear ok herr
 by_cases hc:c=1000000
 ·have HQ:=H_ (show recE c e err=(c,e,3) by unfold recE;rw [if_pos hc])
  have d2:(c == 1000000)=true:=by simp [hc]
  have hc':=H_ hc
  clear hc
  go_enter Tryz.func93,Tryz.ntmps93
  go_wp2_with (first
   | (go_at_call 133;(with_reducible refine CM (hck _) ?_);rintro e w1 ⟨rfl,hb1⟩;have HX1:=bkh HX hb1;have HR1:=bkh HR hb1;have HW1:=blh HW hb1;clear hb1;obtain ⟨x0,x1⟩:=cs2 HX1.out)
   | (refine wpList_store_rowTo rfl 74 (.tmp 4) (.tmp 17) rfl rfl (w.heap.size+1) #[.int .i64 c,.int .i64 e] rfl rfl 74 _ (HR1.out) er_size rfl (er_one _ _) ?_))
  show bodyPost Tryz.prog Tryz.f93 _ _ _ _
  refine bodyPost_ret (er2_res rfl _ _ (w.heap.size+1) _ _ _ _ _ rfl rfl (setRow_heap _ _ _ _ _ _ HR1.out)) rfl ?_
  rw [HQ.out]
  exact ⟨rfl,bl_setRow HW1.out (by omega) _⟩
 ·have HQ:=H_ (show recE c e err=(c+1,err,0) by unfold recE;rw [if_neg hc])
  have d2:(c == 1000000)=false:=by simp [hc]
  go_enter Tryz.func93,Tryz.ntmps93
  go_wp2_with (first
   | (go_at_call 133;(with_reducible refine CM (hck _) ?_);rintro e w1 ⟨rfl,hb1⟩;have HX1:=bkh HX hb1;have HR1:=bkh HR hb1;have HW1:=blh HW hb1;clear hb1;obtain ⟨x0,x1⟩:=cs2 HX1.out)
   | (refine wpList_store_rowTo rfl 74 (.tmp 4) (.tmp 22) rfl rfl (w.heap.size+1) #[.int .i64 (c+1),.int .i64 err] rfl rfl 74 _ (HR1.out) er_size rfl (er_one _ _) ?_))
  show bodyPost Tryz.prog Tryz.f93 _ _ _ _
  refine bodyPost_ret (er2_res rfl _ _ (w.heap.size+1) _ _ _ _ _ rfl rfl (setRow_heap _ _ _ _ _ _ HR1.out)) rfl ?_
  rw [HQ.out]
  exact ⟨rfl,bl_setRow HW1.out (by omega) _⟩
theorem slots_w (w:World):Calls Tryz.prog 82 #[.int .i64 128] w (RetQ (.int .i64 7) w):=by
 go_enter Tryz.func82,Tryz.ntmps82
 go_wp2
 go_ret
 exact ⟨rfl,rfl⟩
end
section
structure Fr where
 file:Int
 page:Int
 pg:Pg
 tenant:Int
 holds:Int
 reading:Int
 writing:Int
def Fr.row (x:Fr):List Value:=[.int .i64 x.file,.int .i64 x.page,.string x.pg.data,.int .i64 x.pg.valid,.int .i64 x.pg.dirty,.int .i64 x.tenant,.int .i64 x.holds,.int .i64 x.reading,.int .i64 x.writing]
def FrR:RR Fr 9:=RR.flat Fr.row (fun a=>⟨rfl,fun u hu=>by
 simp only [Fr.row,List.mem_cons,List.not_mem_nil,or_false] at hu
 rcases hu with rfl | rfl | rfl | rfl | rfl | rfl | rfl | rfl | rfl <;> rfl⟩)
theorem fr_info:(Tryz.prog.info? 55).map (fun i=>(i.zero,i.size,i.bytes))=some (some (.agg #[.int .i64 0,.int .i64 0,.string ByteArray.empty,.int .i64 0,.int .i64 0,.int .i64 0,.int .i64 0,.int .i64 0,.int .i64 0]),9,80):=by kernel_rfl
theorem fr_el:Elem Tryz.prog 24 55 9:=by
 obtain ⟨i,h1,h2,h3,h4⟩:=info_parts fr_info
 exact ⟨i,_,80,Tryz.underlying24,h1,h2,h3,h4,rfl,by omega,by omega⟩
structure Fl where
 dev:Int
 slot:Int
 c:Cn
 size:Int
 blocks:Int
 ecnt:Int
 eerr:Int
 sseq:Int
 ssize:Int
 sblocks:Int
 which:Int
 seq:Int
def Fl.rowT (f:Fl) (h:Nat) (A:Option Addr) (cap:Nat):List Value:=[.int .i64 f.dev,.int .i64 f.slot,.int .i64 h,.slice A (cano h f.c).kids.length cap,.int .i64 (cano h f.c).val,.int .i64 (cano h f.c).marks,.int .i64 f.size,.int .i64 f.blocks,.int .i64 f.ecnt,.int .i64 f.eerr,.int .i64 f.sseq,.int .i64 f.ssize,.int .i64 f.sblocks,.int .i64 f.which,.int .i64 f.seq]
def FlP (w:World) (S:Nat→Prop) (f:Fl) (r:List Value):Prop:=∃(h:Nat) (A:Option Addr) (cap:Nat),leafy f.c∧TreeOk h f.c∧(cano h f.c).kids.length≤cap∧NK w S A (cano h f.c).kids∧r=f.rowT h A cap
def FlR:RR Fl 15 where
 p:=FlP
 st w w' S a r hk h:=by obtain ⟨n,A,cap,h1,h2,h3,h4,h5⟩:=h;exact ⟨n,A,cap,h1,h2,h3,h4.kept hk.1 hk.2,h5⟩
 wk w S S' a r hS h:=by obtain ⟨n,A,cap,h1,h2,h3,h4,h5⟩:=h;exact ⟨n,A,cap,h1,h2,h3,h4.weak hS,h5⟩
 sh w S a r h:=by
  obtain ⟨n,A,cap,h1,h2,h3,h4,rfl⟩:=h
  refine ⟨rfl,fun u hu=>?_⟩
  simp only [Fl.rowT,List.mem_cons,List.not_mem_nil,or_false] at hu
  rcases hu with rfl | rfl | rfl | rfl | rfl | rfl | rfl | rfl | rfl | rfl | rfl | rfl | rfl | rfl | rfl <;> rfl
theorem fl_info:(Tryz.prog.info? 78).map (fun i=>(i.zero,i.size,i.bytes))=some (some (.agg #[.int .i64 0,.int .i64 0,.int .i64 0,.slice none 0 0,.int .i64 0,.int .i64 0,.int .i64 0,.int .i64 0,.int .i64 0,.int .i64 0,.int .i64 0,.int .i64 0,.int .i64 0,.int .i64 0,.int .i64 0]),15,136):=by kernel_rfl
theorem fl_el:Elem Tryz.prog 23 78 15:=by
 obtain ⟨i,h1,h2,h3,h4⟩:=info_parts fl_info
 exact ⟨i,_,136,Tryz.underlying23,h1,h2,h3,h4,rfl,by omega,by omega⟩
theorem lr_info:(Tryz.prog.info? 121).map (fun i=>(i.zero,i.size,i.bytes))=some (some (.agg #[.slice none 0 0,.slice none 0 0,.slice none 0 0]),3,72):=by kernel_rfl
theorem lr_el:Elem Tryz.prog 27 121 3:=by
 obtain ⟨i,h1,h2,h3,h4⟩:=info_parts lr_info
 exact ⟨i,_,72,Tryz.underlying27,h1,h2,h3,h4,rfl,by omega,by omega⟩
structure Ck where
 files:List Fl
 frames:List Fr
 zones:List Zn
 groups:List Gr
 lists:List Lr
 clocks:List Int
 ptes:List Pt
abbrev ckV (a b c d e f g:Value):Value:= .agg #[a,b,c,d,e,f,g]
structure CkAt (w:World) (S:Nat→Prop) (a b c d e f g:Value) (C:Ck):Prop where
 files:LA FlR w S a C.files
 frames:LA FrR w S b C.frames
 zones:LA ZnR w S c C.zones
 groups:LA GrR w S d C.groups
 lists:LA LrR w S e C.lists
 clocks:LA IntR w S f C.clocks
 ptes:LA PtR w S g C.ptes
theorem CkAt.kept {w w':World} {S:Nat→Prop} {a b c d e f g:Value} {C:Ck} (h:CkAt w S a b c d e f g C) (hk:KeepS S w w'):CkAt w' S a b c d e f g C:=
 ⟨h.files.kept hk,h.frames.kept hk,h.zones.kept hk,h.groups.kept hk,h.lists.kept hk,h.clocks.kept hk,h.ptes.kept hk⟩
theorem CkAt.step {w w':World} {S:Nat→Prop} {a b c d e f g:Value} {C:Ck} (h:CkAt w S a b c d e f g C) (hb:Below w.heap.size w w'):CkAt w' S a b c d e f g C:=h.kept (KeepS.of_below hb)
theorem CkAt.weak {w:World} {S S':Nat→Prop} {a b c d e f g:Value} {C:Ck} (h:CkAt w S a b c d e f g C) (hS:∀z,z<w.heap.size→S z→S' z):CkAt w S' a b c d e f g C:=
 ⟨h.files.weak hS,h.frames.weak hS,h.zones.weak hS,h.groups.weak hS,h.lists.weak hS,h.clocks.weak hS,h.ptes.weak hS⟩
theorem ck_size:(Tryz.prog.info? 30).map (·.size)=some 7:=by kernel_rfl
structure CkLen (C:Ck):Prop where
 files:C.files.length≤100
 frames:C.frames.length≤100
 groups:C.groups.length≤100
 lists:C.lists.length≤100
 clocks:C.clocks.length≤100
structure CpAt (w:World) (B:Nat) (S:Nat→Prop) (a b d e f:Value) (C:Ck) (n1 n2 n3 n4:Nat):Prop where
 files:LO FlR 78 w B S a C.files
 frames:LO FrR 55 w n1 S b C.frames
 groups:LO GrR 57 w n2 S d C.groups
 lists:LO LrR 121 w n3 S e C.lists
 clocks:LO IntR 3 w n4 S f C.clocks
 le1:B≤n1
 le2:n1≤n2
 le3:n2≤n3
 le4:n3≤n4
 lt1:∀z,a.ownBlock=some z→z<n1
 lt2:∀z,b.ownBlock=some z→z<n2
 lt3:∀z,d.ownBlock=some z→z<n3
 lt4:∀z,e.ownBlock=some z→z<n4
def RetCp (C:Ck) (S:Nat→Prop) (c g:Value) (w:World) (en:Ending) (w':World):Prop:=∃a b d e f n1 n2 n3 n4,en = .returned (ckV a b c d e f g)∧CpAt w' w.heap.size S a b d e f C n1 n2 n3 n4∧Below w.heap.size w w'
theorem LA.cap {α:Type} {k:Nat} {R:RR α k} {w:World} {S:Nat→Prop} {v:Value} {L:List α} (h:LA R w S v L):∃A n cap,v = .slice A n cap:=by obtain ⟨A,cap,e,_⟩:=h.form;exact ⟨A,_,cap,e⟩
theorem LO.cap {α:Type} {k:Nat} {R:RR α k} {e:TypeId} {w:World} {base:Nat} {S:Nat→Prop} {v:Value} {L:List α} (h:LO R e w base S v L):∃A n cap,v = .slice A n cap:=(h.la (S':=Any) (fun _ _ _=>trivial) (fun _ _=>trivial)).cap
end
section
abbrev oF (x:Fr):Obj:= .cells #[.int .i64 x.file,.int .i64 x.page,.string x.pg.data,.int .i64 x.pg.valid,.int .i64 x.pg.dirty,.int .i64 x.tenant,.int .i64 x.holds,.int .i64 x.reading,.int .i64 x.writing] 55 (0,0)
theorem CkAt.caps {w:World} {S:Nat→Prop} {a b c d e f g:Value} {C:Ck} (h:CkAt w S a b c d e f g C):∃A1 m1 c1 A2 m2 c2 A3 m3 c3 A4 m4 c4 A5 m5 c5 A6 m6 c6 A7 m7 c7,a = .slice A1 m1 c1∧b = .slice A2 m2 c2∧c = .slice A3 m3 c3∧d = .slice A4 m4 c4∧e = .slice A5 m5 c5∧f = .slice A6 m6 c6∧g = .slice A7 m7 c7:=by
 obtain ⟨A1,m1,c1,rfl⟩:=h.files.cap
 obtain ⟨A2,m2,c2,rfl⟩:=h.frames.cap
 obtain ⟨A3,m3,c3,rfl⟩:=h.zones.cap
 obtain ⟨A4,m4,c4,rfl⟩:=h.groups.cap
 obtain ⟨A5,m5,c5,rfl⟩:=h.lists.cap
 obtain ⟨A6,m6,c6,rfl⟩:=h.clocks.cap
 obtain ⟨A7,m7,c7,rfl⟩:=h.ptes.cap
 exact ⟨_,_,_,_,_,_,_,_,_,_,_,_,_,_,_,_,_,_,_,_,_,rfl,rfl,rfl,rfl,rfl,rfl,rfl⟩
theorem CkAt.caps5 {w:World} {S:Nat→Prop} {a b c d e f g:Value} {C:Ck} (h:CkAt w S a b c d e f g C):∃A3 m3 c3 A4 m4 c4 A5 m5 c5 A6 m6 c6 A7 m7 c7,c = .slice A3 m3 c3∧d = .slice A4 m4 c4∧e = .slice A5 m5 c5∧f = .slice A6 m6 c6∧g = .slice A7 m7 c7:=by
 obtain ⟨_,_,_,_,_,_,A3,m3,c3,A4,m4,c4,A5,m5,c5,A6,m6,c6,A7,m7,c7,_,_,h3,h4,h5,h6,h7⟩:=h.caps
 exact ⟨_,_,_,_,_,_,_,_,_,_,_,_,_,_,_,h3,h4,h5,h6,h7⟩
end
section
theorem LA.oldB {α:Type} {k:Nat} {R:RR α k} {w w':World} {S:Nat→Prop} {v:Value} {L:List α} (h:LA R w S v L) (hb:Below w.heap.size w w'):LA R w' (fun z=>S z∧z<w.heap.size) v L:=h.old.step hb
theorem LO.keepX {α:Type} {k:Nat} {R:RR α k} {e:TypeId} {w:World} {base X:Nat} {S:Nat→Prop} {v:Value} {L:List α} (h:LO R e w base (fun z=>S z∧z<X) v L) (hX:X<base) (p:Nat) (u:Value):LO R e (w.setCell ⟨X,p,none⟩ u) base (fun z=>S z∧z<X) v L:=
 h.kept (grownBy_setCell w ⟨X,p,none⟩ u) (.inr ⟨X,rfl,fun h=>by have:=h.2;omega,fun hv=>by have:=(h.own hv).1;omega⟩)
theorem LO.keepR {α:Type} {k:Nat} {R:RR α k} {e:TypeId} {w:World} {base X Y:Nat} {S:Nat→Prop} {v:Value} {L:List α} (h:LO R e w base (fun z=>S z∧z<X) v L) (hX:Y<base) (hY:X≤Y) (cs:Array Value):LO R e (w.setRow Y cs) base (fun z=>S z∧z<X) v L:=
 h.kept (gb_setRow w Y cs) (.inr ⟨Y,rfl,fun h=>by have:=h.2;omega,fun hv=>by have:=(h.own hv).1;omega⟩)
theorem ck_one (A B C D E F G:Option Addr) (a b c d e f g a' b' c' d' e' f' g':Nat):(#[Value.slice A a a',.slice B b b',.slice C c c',.slice D d d',.slice E e e',.slice F f f',.slice G g g']:Array Value).all (·.oneCell')=true:=by simp [Value.oneCell']
theorem ck_res {fn:Func} {p:Tmp} (h:fn.results=#[.cell p 30]) (tmps:Array Value) (w:World) (g:Nat) (t:TypeId) (x0 x1 x2 x3 x4 x5 x6:Value) (fr:Nat × Nat)
  (hp:tmps.getD p undef = .pointer (some ⟨g,0,none⟩)) (hg:w.heap[g]?=some (.cells #[x0,x1,x2,x3,x4,x5,x6] t fr)):(results fn tmps).run Tryz.prog w = .ok (ckV x0 x1 x2 x3 x4 x5 x6) w:=
 results_cell_row h tmps w g t _ fr _ hp hg Tryz.underlying30 rfl ck_size
theorem copy_w (C:Ck) (a b c d e f g:Value) (S:Nat→Prop) (w:World) (h:CkAt w S a b c d e f g C) (hl:CkLen C):Calls Tryz.prog 69 #[ckV a b c d e f g] w (RetCp C (fun z=>S z∧z<w.heap.size) c g w):=by
 obtain ⟨A1,m1,c1,A2,m2,c2,A3,m3,c3,A4,m4,c4,A5,m5,c5,A6,m6,c6,A7,m7,c7,rfl,rfl,rfl,rfl,rfl,rfl,rfl⟩:=CkAt.caps h
 have H:=H_ h
 have HL:=H_ hl
 have HX0:=H_ (bk_alloc (heap_alloc_at w (.cells #[.slice A1 m1 c1,.slice A2 m2 c2,.slice A3 m3 c3,.slice A4 m4 c4,.slice A5 m5 c5,.slice A6 m6 c6,.slice A7 m7 c7] 30)) (oCZ))
 have HR0:=H_ (heap_at_new (w.alloc (.cells #[.slice A1 m1 c1,.slice A2 m2 c2,.slice A3 m3 c3,.slice A4 m4 c4,.slice A5 m5 c5,.slice A6 m6 c6,.slice A7 m7 c7] 30)) (oCZ) (w.heap.size+1) (by simp))
 have HW0:=H_ (bl_alloc (bl_alloc (Below.refl w.heap.size w) (.cells #[.slice A1 m1 c1,.slice A2 m2 c2,.slice A3 m3 c3,.slice A4 m4 c4,.slice A5 m5 c5,.slice A6 m6 c6,.slice A7 m7 c7] 30)) (oCZ))
 have z0:w.heap.size+1<((w.alloc (.cells #[.slice A1 m1 c1,.slice A2 m2 c2,.slice A3 m3 c3,.slice A4 m4 c4,.slice A5 m5 c5,.slice A6 m6 c6,.slice A7 m7 c7] 30)).alloc (oCZ)).heap.size:=bk_lt HR0.out
 clear h hl
 go_enter Tryz.func69,Tryz.ntmps69
 go_upto_region 1 with fail
 generalize (w.alloc _).alloc _=W0 at HX0 HR0 HW0 z0
 obtain ⟨x0,x1,x2,x3,x4,x5,x6⟩:=cs7 HX0.out
 have f0:=free_at HX0.out 0
 go_wp2_with (first
  | (at_builtin;go_loud (refine wpList_copy FlR fl_el rfl _ (.tmp 4) rfl rfl (.slice A1 m1 c1) (fun z=>S z∧z<w.heap.size) C.files rfl (H.out.files.oldB HW0.out) (by have:=HL.out.files;omega) ?_);intro v1 w1 hown1 hg1;obtain ⟨B1,k1,e1,rfl⟩:=hown1.cap;have HXm:=gb_keep hg1 HX0.out (by simp);have hWm:=HW0.out.grown hg1 HW0.out.size (fun b hb=>by cases hb);have hsm:=hg1.size;have HX1:=H_ (show (w1.setCell ⟨w.heap.size,0,none⟩ (.slice B1 k1 e1)).heap[w.heap.size]?=some (.cells #[.slice B1 k1 e1,.slice A2 m2 c2,.slice A3 m3 c3,.slice A4 m4 c4,.slice A5 m5 c5,.slice A6 m6 c6,.slice A7 m7 c7] 30 (0,0)) from set_same HXm _);have HR1:=H_ (set_bk (gb_keep hg1 HR0.out (by simp)) ⟨w.heap.size,0,none⟩ (.slice B1 k1 e1) (by simp));have HW1:=H_ (bl_set hWm ⟨w.heap.size,0,none⟩ (.slice B1 k1 e1) (Nat.le_refl _));have HO1_1:=H_ (hown1.keepX (by omega) 0 (.slice B1 k1 e1));have z1:w.heap.size+1<(w1.setCell ⟨w.heap.size,0,none⟩ (.slice B1 k1 e1)).heap.size:=bk_lt HR1.out;have HZ1:=H_ (show (W0).heap.size≤(w1.setCell ⟨w.heap.size,0,none⟩ (.slice B1 k1 e1)).heap.size by have hsq:=hsm;simp only [World.setCell,Array.size_modify] at hsq ⊢;exact hsq);clear x0 x1 x2 x3 x4 x5 x6;obtain ⟨x0,x1,x2,x3,x4,x5,x6⟩:=cs7 HXm;have f1:=free_at HXm 0;clear hown1)
  | (at_builtin;go_loud (refine wpList_copy FrR fr_el rfl _ (.tmp 8) rfl rfl (.slice A2 m2 c2) (fun z=>S z∧z<w.heap.size) C.frames rfl (H.out.frames.oldB HW1.out) (by have:=HL.out.frames;omega) ?_);intro v2 w2 hown2 hg2;obtain ⟨B2,k2,e2,rfl⟩:=hown2.cap;have HXm:=gb_keep hg2 HX1.out (by simp);have hWm:=HW1.out.grown hg2 HW1.out.size (fun b hb=>by cases hb);have hsm:=hg2.size;have HX2:=H_ (show (w2.setCell ⟨w.heap.size,1,none⟩ (.slice B2 k2 e2)).heap[w.heap.size]?=some (.cells #[.slice B1 k1 e1,.slice B2 k2 e2,.slice A3 m3 c3,.slice A4 m4 c4,.slice A5 m5 c5,.slice A6 m6 c6,.slice A7 m7 c7] 30 (0,0)) from set_same HXm _);have HR2:=H_ (set_bk (gb_keep hg2 HR1.out (by simp)) ⟨w.heap.size,1,none⟩ (.slice B2 k2 e2) (by simp));have HW2:=H_ (bl_set hWm ⟨w.heap.size,1,none⟩ (.slice B2 k2 e2) (Nat.le_refl _));have HO2_2:=H_ (hown2.keepX (by omega) 1 (.slice B2 k2 e2));have HO1_2:=H_ ((HO1_1.out.kept hg2 (.inl rfl)).keepX (by omega) 1 (.slice B2 k2 e2));have z2:w.heap.size+1<(w2.setCell ⟨w.heap.size,1,none⟩ (.slice B2 k2 e2)).heap.size:=bk_lt HR2.out;have HZ2:=H_ (show (w1.setCell ⟨w.heap.size,0,none⟩ (.slice B1 k1 e1)).heap.size≤(w2.setCell ⟨w.heap.size,1,none⟩ (.slice B2 k2 e2)).heap.size by have hsq:=hsm;simp only [World.setCell,Array.size_modify] at hsq ⊢;exact hsq);clear x0 x1 x2 x3 x4 x5 x6;obtain ⟨x0,x1,x2,x3,x4,x5,x6⟩:=cs7 HXm;have f2:=free_at HXm 1;clear hown2)
  | (at_builtin;go_loud (refine wpList_copy GrR gr_el rfl _ (.tmp 12) rfl rfl (.slice A4 m4 c4) (fun z=>S z∧z<w.heap.size) C.groups rfl (H.out.groups.oldB HW2.out) (by have:=HL.out.groups;omega) ?_);intro v3 w3 hown3 hg3;obtain ⟨B3,k3,e3,rfl⟩:=hown3.cap;have HXm:=gb_keep hg3 HX2.out (by simp);have hWm:=HW2.out.grown hg3 HW2.out.size (fun b hb=>by cases hb);have hsm:=hg3.size;have HX3:=H_ (show (w3.setCell ⟨w.heap.size,3,none⟩ (.slice B3 k3 e3)).heap[w.heap.size]?=some (.cells #[.slice B1 k1 e1,.slice B2 k2 e2,.slice A3 m3 c3,.slice B3 k3 e3,.slice A5 m5 c5,.slice A6 m6 c6,.slice A7 m7 c7] 30 (0,0)) from set_same HXm _);have HR3:=H_ (set_bk (gb_keep hg3 HR2.out (by simp)) ⟨w.heap.size,3,none⟩ (.slice B3 k3 e3) (by simp));have HW3:=H_ (bl_set hWm ⟨w.heap.size,3,none⟩ (.slice B3 k3 e3) (Nat.le_refl _));have HO3_3:=H_ (hown3.keepX (by omega) 3 (.slice B3 k3 e3));have HO1_3:=H_ ((HO1_2.out.kept hg3 (.inl rfl)).keepX (by omega) 3 (.slice B3 k3 e3));have HO2_3:=H_ ((HO2_2.out.kept hg3 (.inl rfl)).keepX (by omega) 3 (.slice B3 k3 e3));have z3:w.heap.size+1<(w3.setCell ⟨w.heap.size,3,none⟩ (.slice B3 k3 e3)).heap.size:=bk_lt HR3.out;have HZ3:=H_ (show (w2.setCell ⟨w.heap.size,1,none⟩ (.slice B2 k2 e2)).heap.size≤(w3.setCell ⟨w.heap.size,3,none⟩ (.slice B3 k3 e3)).heap.size by have hsq:=hsm;simp only [World.setCell,Array.size_modify] at hsq ⊢;exact hsq);clear x0 x1 x2 x3 x4 x5 x6;obtain ⟨x0,x1,x2,x3,x4,x5,x6⟩:=cs7 HXm;have f3:=free_at HXm 3;clear hown3)
  | (at_builtin;go_loud (refine wpList_copy LrR lr_el rfl _ (.tmp 16) rfl rfl (.slice A5 m5 c5) (fun z=>S z∧z<w.heap.size) C.lists rfl (H.out.lists.oldB HW3.out) (by have:=HL.out.lists;omega) ?_);intro v4 w4 hown4 hg4;obtain ⟨B4,k4,e4,rfl⟩:=hown4.cap;have HXm:=gb_keep hg4 HX3.out (by simp);have hWm:=HW3.out.grown hg4 HW3.out.size (fun b hb=>by cases hb);have hsm:=hg4.size;have HX4:=H_ (show (w4.setCell ⟨w.heap.size,4,none⟩ (.slice B4 k4 e4)).heap[w.heap.size]?=some (.cells #[.slice B1 k1 e1,.slice B2 k2 e2,.slice A3 m3 c3,.slice B3 k3 e3,.slice B4 k4 e4,.slice A6 m6 c6,.slice A7 m7 c7] 30 (0,0)) from set_same HXm _);have HR4:=H_ (set_bk (gb_keep hg4 HR3.out (by simp)) ⟨w.heap.size,4,none⟩ (.slice B4 k4 e4) (by simp));have HW4:=H_ (bl_set hWm ⟨w.heap.size,4,none⟩ (.slice B4 k4 e4) (Nat.le_refl _));have HO4_4:=H_ (hown4.keepX (by omega) 4 (.slice B4 k4 e4));have HO1_4:=H_ ((HO1_3.out.kept hg4 (.inl rfl)).keepX (by omega) 4 (.slice B4 k4 e4));have HO2_4:=H_ ((HO2_3.out.kept hg4 (.inl rfl)).keepX (by omega) 4 (.slice B4 k4 e4));have HO3_4:=H_ ((HO3_3.out.kept hg4 (.inl rfl)).keepX (by omega) 4 (.slice B4 k4 e4));have z4:w.heap.size+1<(w4.setCell ⟨w.heap.size,4,none⟩ (.slice B4 k4 e4)).heap.size:=bk_lt HR4.out;have HZ4:=H_ (show (w3.setCell ⟨w.heap.size,3,none⟩ (.slice B3 k3 e3)).heap.size≤(w4.setCell ⟨w.heap.size,4,none⟩ (.slice B4 k4 e4)).heap.size by have hsq:=hsm;simp only [World.setCell,Array.size_modify] at hsq ⊢;exact hsq);clear x0 x1 x2 x3 x4 x5 x6;obtain ⟨x0,x1,x2,x3,x4,x5,x6⟩:=cs7 HXm;have f4:=free_at HXm 4;clear hown4)
  | (at_builtin;go_loud (refine wpList_copy IntR int_el rfl _ (.tmp 20) rfl rfl (.slice A6 m6 c6) (fun z=>S z∧z<w.heap.size) C.clocks rfl (H.out.clocks.oldB HW4.out) (by have:=HL.out.clocks;omega) ?_);intro v5 w5 hown5 hg5;obtain ⟨B5,k5,e5,rfl⟩:=hown5.cap;have HXm:=gb_keep hg5 HX4.out (by simp);have hWm:=HW4.out.grown hg5 HW4.out.size (fun b hb=>by cases hb);have hsm:=hg5.size;have HX5:=H_ (show (w5.setCell ⟨w.heap.size,5,none⟩ (.slice B5 k5 e5)).heap[w.heap.size]?=some (.cells #[.slice B1 k1 e1,.slice B2 k2 e2,.slice A3 m3 c3,.slice B3 k3 e3,.slice B4 k4 e4,.slice B5 k5 e5,.slice A7 m7 c7] 30 (0,0)) from set_same HXm _);have HR5:=H_ (set_bk (gb_keep hg5 HR4.out (by simp)) ⟨w.heap.size,5,none⟩ (.slice B5 k5 e5) (by simp));have HW5:=H_ (bl_set hWm ⟨w.heap.size,5,none⟩ (.slice B5 k5 e5) (Nat.le_refl _));have HO5_5:=H_ (hown5.keepX (by omega) 5 (.slice B5 k5 e5));have HO1_5:=H_ ((HO1_4.out.kept hg5 (.inl rfl)).keepX (by omega) 5 (.slice B5 k5 e5));have HO2_5:=H_ ((HO2_4.out.kept hg5 (.inl rfl)).keepX (by omega) 5 (.slice B5 k5 e5));have HO3_5:=H_ ((HO3_4.out.kept hg5 (.inl rfl)).keepX (by omega) 5 (.slice B5 k5 e5));have HO4_5:=H_ ((HO4_4.out.kept hg5 (.inl rfl)).keepX (by omega) 5 (.slice B5 k5 e5));have z5:w.heap.size+1<(w5.setCell ⟨w.heap.size,5,none⟩ (.slice B5 k5 e5)).heap.size:=bk_lt HR5.out;have HZ5:=H_ (show (w4.setCell ⟨w.heap.size,4,none⟩ (.slice B4 k4 e4)).heap.size≤(w5.setCell ⟨w.heap.size,5,none⟩ (.slice B5 k5 e5)).heap.size by have hsq:=hsm;simp only [World.setCell,Array.size_modify] at hsq ⊢;exact hsq);clear x0 x1 x2 x3 x4 x5 x6;obtain ⟨x0,x1,x2,x3,x4,x5,x6⟩:=cs7 HXm;have f5:=free_at HXm 5;clear hown5)
  | (refine st_ck rfl (.tmp 2) (.tmp 23) rfl rfl (w.heap.size+1) rfl rfl HR5.out rfl ?_))
 show bodyPost Tryz.prog Tryz.f69 _ _ _ _
 refine bodyPost_ret (ck_res rfl _ _ (w.heap.size+1) _ _ _ _ _ _ _ _ _ rfl (setRow_heap _ _ _ _ _ _ HR5.out)) rfl ?_
 have g1:=HZ1.out
 have g2:=HZ2.out
 have g3:=HZ3.out
 have g4:=HZ4.out
 have g0:=HW0.out.size
 refine ⟨_,_,_,_,_,(w1.setCell ⟨w.heap.size,0,none⟩ (.slice B1 k1 e1)).heap.size,(w2.setCell ⟨w.heap.size,1,none⟩ (.slice B2 k2 e2)).heap.size,(w3.setCell ⟨w.heap.size,3,none⟩ (.slice B3 k3 e3)).heap.size,(w4.setCell ⟨w.heap.size,4,none⟩ (.slice B4 k4 e4)).heap.size,rfl,?_,bl_setRow HW5.out (by omega) _⟩
 exact ⟨(HO1_5.out.keepR z0 (by omega) _).base_le g0,HO2_5.out.keepR z1 (by omega) _,HO3_5.out.keepR z2 (by omega) _,HO4_5.out.keepR z3 (by omega) _,HO5_5.out.keepR z4 (by omega) _,by omega,g2,g3,g4,fun z hz=>(HO1_1.out.own hz).2,fun z hz=>(HO2_2.out.own hz).2,fun z hz=>(HO3_3.out.own hz).2,fun z hz=>(HO4_4.out.own hz).2⟩
end
end Go.Proofs.YthhekebemmckcaaGreatDoor
