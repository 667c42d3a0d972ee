/-
  Lemmas and contracts for the laws of synchronisations (layer 43), part 26; several texts joined by a program.
-/
import Derived.Test.YthhekebemmckcaaGreatDoorJ01
import Derived.Test.YthhekebemmckcaaGreatDoorJ02
import Derived.Test.YthhekebemmckcaaGreatDoorJ18
import Derived.Test.YthhekebemmckcaaGreatDoorJ25
import Derived.Test.YthhekebemmckcaaGreatDoorProg
import Derived.Ground.Names2Prog
import Derived.Ground.SlgfProg
import Derived.Ground.SlgnProg
import Derived.Lib.OwnBridge
import Derived.Shelf.Slices.Clone
import Derived.Shelf.Slices.In.SortNone
import Derived.Shelf.Slices.SearchI
import Derived.Shelf.SlicesE.Clone
import Derived.Shelf.SlicesE.DeleteFunc
import Derived.Shelf.SlicesE.IndexFunc
import Derived.Shelf.Small.Bits
import Derived.Shelf.Sort.Plain
import Derived.Shelf.Strconv.Itoa0
import Derived.Sort.OwnSortedInts
namespace Go.Proofs.YthhekebemmckcaaGreatDoor
set_option linter.unusedVariables false
set_option linter.unusedSimpArgs false
set_option maxRecDepth 100000
set_option maxHeartbeats 16000000
open Go.RowKit
section
structure Sy where
 file:Int
 size:Int
 stage:Int
 todo:List Int
 going:List Int
 failed:Bool
abbrev syV (s:Sy) (v1 v2:Value):Value:= .agg #[.int .i64 s.file,.int .i64 s.size,.int .i64 s.stage,v1,v2,.bool s.failed]
structure SyA (w:World) (S:Nat→Prop) (v1 v2:Value) (s:Sy):Prop where
 t:LA IntR w S v1 s.todo
 g:LA IntR w S v2 s.going
 lt:s.todo.length≤100
 lg:s.going.length≤100
theorem SyA.kept {w w':World} {S:Nat→Prop} {v1 v2:Value} {s:Sy} (h:SyA w S v1 v2 s) (hk:KeepS S w w'):SyA w' S v1 v2 s:=⟨h.t.kept hk,h.g.kept hk,h.lt,h.lg⟩
theorem SyA.step {w w':World} {S:Nat→Prop} {v1 v2:Value} {s:Sy} (h:SyA w S v1 v2 s) (hb:Below w.heap.size w w'):SyA w' S v1 v2 s:=h.kept (KeepS.of_below hb)
theorem SyA.weak {w:World} {S S':Nat→Prop} {v1 v2:Value} {s:Sy} (h:SyA w S v1 v2 s) (hS:∀b,b<w.heap.size→S b→S' b):SyA w S' v1 v2 s:=⟨h.t.weak hS,h.g.weak hS,h.lt,h.lg⟩
def RetSy (s:Sy) (S:Nat→Prop) (w:World) (e:Ending) (w':World):Prop:=∃v1 v2,e = .returned (syV s v1 v2)∧SyA w' S v1 v2 s∧Below w.heap.size w w'
theorem sy_size:(Tryz.prog.info? 37).map (·.size)=some 6:=by kernel_rfl
theorem sy_one (a b c:Int) (A:Option Addr) (n m:Nat) (A':Option Addr) (n' m':Nat) (f:Bool):(#[Value.int .i64 a,.int .i64 b,.int .i64 c,.slice A n m,.slice A' n' m',.bool f]:Array Value).all (·.oneCell')=true:=by simp [Value.oneCell']
theorem sy_res {fn:Func} {p:Tmp} (h:fn.results=#[.cell p 37]) (tmps:Array Value) (w:World) (g:Nat) (t:TypeId) (x0 x1 x2 x3 x4 x5:Value) (fr:Nat × Nat)
  (hp:tmps.getD p undef = .pointer (some ⟨g,0,none⟩)) (hg:w.heap[g]?=some (.cells #[x0,x1,x2,x3,x4,x5] t fr)):(results fn tmps).run Tryz.prog w = .ok (.agg #[x0,x1,x2,x3,x4,x5]) w:=
 results_cell_row h tmps w g t _ fr _ hp hg Tryz.underlying37 rfl sy_size
theorem sy2_res {fn:Func} {p q:Tmp} (h:fn.results=#[.cell p 37,.tmp q]) (tmps:Array Value) (w:World) (g:Nat) (t:TypeId) (x0 x1 x2 x3 x4 x5:Value) (fr:Nat × Nat) (u:Value)
  (hp:tmps.getD p undef = .pointer (some ⟨g,0,none⟩)) (hq:tmps.getD q undef=u) (hg:w.heap[g]?=some (.cells #[x0,x1,x2,x3,x4,x5] t fr)):(results fn tmps).run Tryz.prog w = .ok (.tuple #[.agg #[x0,x1,x2,x3,x4,x5],u]) w:=by
 have hp':tmps[p]?.getD undef = .pointer (some ⟨g,0,none⟩):=by simpa using hp
 have hq':tmps[q]?.getD undef=u:=by simpa using hq
 simp [results,h,hp',hq',asAddr,run_loadVar_row w g t 37 #[x0,x1,x2,x3,x4,x5] fr _ hg Tryz.underlying37 rfl sy_size]
theorem mem_at {l:List Int} {n:Int}:(atL l n<0)↔n ∉ l:=by
 unfold atL
 split
 ·rename_i h;exact ⟨fun h'=>by omega,fun h'=>absurd h h'⟩
 ·rename_i h;exact ⟨fun _=>h,fun _=>by omega⟩
def goneS (s:Sy) (p:Int):Sy:=if s.stage=1 then {s with todo:=outL s.todo p} else s
def endedS (s:Sy) (p er:Int):Sy:=if s.stage=1∧p ∈ s.going then {s with going:=outL s.going p,failed:=s.failed||er != 0} else s
def nextS (s:Sy):Sy:=if s.stage=1∧s.todo=[]∧s.going=[] then {s with stage:=if s.failed then 3 else 2} else s
def finS (s:Sy) (er:Int):Sy × Int:=if s.stage=2 then ({s with stage:=3,failed:=s.failed||er != 0},0) else (s,1)
def sameS (a b:Sy):Bool:=a.file == b.file&&a.size == b.size&&a.stage == b.stage&&a.failed == b.failed&&decide (a.todo=b.todo)&&decide (a.going=b.going)
theorem SyA.m1 {w:World} {S:Nat→Prop} {A:Option Addr} {m c:Nat} {v2:Value} {s:Sy} (h:SyA w S (.slice A m c) v2 s):m=s.todo.length:=by
 obtain ⟨_,_,e,_,_⟩:=h.t.form;injection e
theorem SyA.m2 {w:World} {S:Nat→Prop} {A:Option Addr} {m c:Nat} {v1:Value} {s:Sy} (h:SyA w S v1 (.slice A m c) s):m=s.going.length:=by
 obtain ⟨_,_,e,_,_⟩:=h.g.form;injection e
structure SyB (w:World) (S1:Nat→Prop) (v1 v2:Value) (s:Sy) (W:World):Prop where
 x:W.heap[w.heap.size]?=some (.cells #[.int .i64 s.file,.int .i64 s.size,.int .i64 s.stage,v1,v2,.bool s.failed] 37 (0,0))
 r:W.heap[w.heap.size+1]?=some (oSZ)
 a:SyA W S1 v1 v2 s
 b:Below w.heap.size w W
 s1:∀z,S1 z→z≠w.heap.size∧z≠w.heap.size+1
section
variable {w W W':World} {S S1:Nat→Prop} {v1 v2:Value} {s:Sy}
theorem SyB.start (h:SyA w S1 v1 v2 s) (hs:∀z,S1 z→z≠w.heap.size∧z≠w.heap.size+1):SyB w S1 v1 v2 s ((w.alloc (.cells #[.int .i64 s.file,.int .i64 s.size,.int .i64 s.stage,v1,v2,.bool s.failed] 37)).alloc (oSZ)):=
 ⟨bk_alloc (heap_alloc_at w _) _,heap_at_new (w.alloc _) _ (w.heap.size+1) (by simp),h.step (bl_alloc (bl_alloc B_ _) _),bl_alloc (bl_alloc B_ _) _,hs⟩
theorem SyB.step (h:SyB w S1 v1 v2 s W) (hb:Below W.heap.size W W'):SyB w S1 v1 v2 s W':=⟨bk_step h.x hb,bk_step h.r hb,h.a.step hb,bl_step h.b hb,h.s1⟩
theorem SyB.set (h:SyB w S1 v1 v2 s W) (i:Nat) (v:Value) {v1' v2':Value} {s':Sy} (ha:SyA W S1 v1' v2' s') (hx:(#[Value.int .i64 s.file,.int .i64 s.size,.int .i64 s.stage,v1,v2,.bool s.failed]:Array Value).setIfInBounds i v=#[.int .i64 s'.file,.int .i64 s'.size,.int .i64 s'.stage,v1',v2',.bool s'.failed]) :
  SyB w S1 v1' v2' s' (W.setCell ⟨w.heap.size,i,none⟩ v):=by
 refine ⟨?_,(Below.heap_setCell W ⟨w.heap.size,i,none⟩ v (w.heap.size+1) (by show w.heap.size+1≠w.heap.size;omega)).trans h.r,ha.kept ⟨by simp [World.setCell],fun z hz _=>Below.heap_setCell W ⟨w.heap.size,i,none⟩ v z (by show z≠w.heap.size;exact (h.s1 z hz).1)⟩,bl_set h.b ⟨w.heap.size,i,none⟩ v (Nat.le_refl _),h.s1⟩;rw [←hx];exact set_same h.x v
theorem SyB.back (h:SyB w S1 v1 v2 s W) (hS:∀z,S1 z→S z) (cs:Array Value):SyA (W.setRow (w.heap.size+1) cs) S v1 v2 s∧Below w.heap.size w (W.setRow (w.heap.size+1) cs):=
 ⟨(h.a.kept (KeepS.of_setRow W _ cs (fun hz=>(h.s1 _ hz).2 rfl))).weak (fun z _ hz=>hS z hz),bl_setRow h.b (by omega) cs⟩
theorem SyB.a' {f:Bool} {a b c:Int} (h:SyB w S1 v1 v2 s W):SyA W S1 v1 v2 ⟨a,b,c,s.todo,s.going,f⟩:=⟨h.a.t,h.a.g,h.a.lt,h.a.lg⟩
theorem SyB.fresh (h:SyB w S1 v1 v2 s W):w.heap.size+1<W.heap.size:=bk_lt h.r
end
theorem sameInts_w (l m:List Int) (v u:Value) (S:Nat→Prop) (w:World) (h:LA IntR w S v l) (h':LA IntR w S u m):Calls Tryz.prog 30 #[v,u] w (RetB (decide (l=m)) w):=by
 obtain ⟨A,cap,rfl,hc,hm⟩:=h.form;obtain ⟨A',cap',rfl,hc',hm'⟩:=h'.form;have H:=H_ h;have H':=H_ h';clear h h';unfold maxLen at hm hm';go_enter Tryz.func30,Tryz.ntmps30
 by_cases hl:l.length=m.length
 ·have HLM:=H_ hl;have d1:((l.length:Int) != (m.length:Int))=false:=by simp [hl]
  clear hl;go_wp2
  go_loopw [5] (fun i wx=>∃k:Nat,i = .int .i64 k∧k≤l.length∧l.take k=m.take k∧Below w.heap.size w wx) (fun i _=>l.length - (intOf i).toNat)
  case atStart=>exact ⟨0,rfl,by omega,by simp,Below.refl _ _⟩
  case round=>
   obtain ⟨k,rfl,hk,hn,hb⟩:=hrel;have HN:=H_ hn;have HB:=H_ hb;clear hn hb
   by_cases hlt:k<l.length
   ·obtain ⟨x,hx⟩:∃x,l[k]?=some x:=⟨_,List.getElem?_eq_getElem hlt⟩;obtain ⟨y,hy⟩:∃y,m[k]?=some y:=⟨_,List.getElem?_eq_getElem (by have:=HLM.out;omega)⟩;obtain ⟨b,o,cap1,hv,_,_,hb1,_,c0⟩:=IL.cell (H.out.step HB.out) hx;obtain ⟨b',o',cap1',hv',_,_,hb1',_,c0'⟩:=IL.cell (H'.out.step HB.out) hy;injection hv with e1 _ e3
    injection hv' with e1' _ e3'
    subst e1 e3 e1' e3';have kl:(k:Int)<(l.length:Int):=by omega
    have km:(k:Int)<(m.length:Int):=by have:=HLM.out;omega
    have HXX:=H_ hx;have HYY:=H_ hy;clear hx hy
    by_cases hxy:x=y
    ·subst hxy
     go_upto_region 6 with fail
     go_quiet (fail);go_wp2;go_roundw
     case rel=>exact ⟨k+1,by go_num,by omega,by rw [take_snoc HXX.out,take_snoc HYY.out,HN.out],below_drewN HB.out nq⟩
     case measure=>simp [intOf];omega
    ·have d2:(x != y)=true:=bne_iff_ne.2 hxy;have HXY:=H_ hxy;clear hxy
     go_upto_region 6 with fail
     go_quiet (fail);go_wp2;go_ret;refine ⟨ret_bool (decide_eq_false fun e=>HXY.out ?_).symm,below_drewN HB.out nq⟩;have:=HXX.out;rw [e,HYY.out] at this;exact (Option.some.inj this).symm
   ·obtain rfl:k=l.length:=by omega
    go_wp2;go_ret
    refine ⟨ret_bool (decide_eq_true ?_).symm,HB.out⟩;have:=HN.out;rw [List.take_length,HLM.out,List.take_length] at this;exact this
 ·have HLM:=H_ hl;have d1:((l.length:Int) != (m.length:Int))=true:=bne_iff_ne.2 (by omega);clear hl;go_wp2;go_ret;exact ⟨ret_bool (decide_eq_false fun e=>HLM.out (by rw [e])).symm,Below.refl _ _⟩
theorem without43_w (l:List Int) (n:Int) (v:Value) (S:Nat→Prop) (w:World) (h:LA IntR w S v l) (hl:l.length≤1000) (hS:∀b,w.heap.size≤b→S b):Calls Tryz.prog 36 #[v,.int .i64 n] w (RetIL (outL l n) S w):=by
 have hw:=without_w l n v S w h hl hS;go_enter Tryz.func36,Tryz.ntmps36
 go_wp2_with (go_at_call 66;go_loud (refine CM hw ?_);rintro e w1 ⟨u,rfl,hu,hb⟩)
 go_ret;exact ⟨u,rfl,hu,hb⟩
end
end Go.Proofs.YthhekebemmckcaaGreatDoor
namespace Go.Proofs
open Go.Shelf
def Tryz.lays189_ren:Go.Shelf.Ren:=⟨fun | 189=>34 | 125=>65 | 257=>64 | 128=>115 | 129=>116 | 294=>106 | 295=>107 | 296=>108 | 297=>109 | 298=>110 | 299=>111 | 216=>112 | 300=>113 | 301=>114 | 328=>146 | 329=>147 | 330=>148 | 331=>149 | 332=>150 | 215=>151 | 343=>165 | n=>n,fun | 28=>22 | 3=>3 | 46=>113 | 0=>0 | 51=>176 | 53=>107 | 4=>4 | 183=>170 | 182=>169 | 131=>50 | 5=>5 | 9=>9 | 218=>202 | 222=>206 | 228=>211 | 229=>143 | n=>n,fun | n=>n⟩
theorem Tryz.lays189:Go.Proofs.Lays.n189 Tryz.prog Tryz.lays189_ren:={
 mixed:=by kernel_rfl
 f125:=Tryz.func65.trans (congrArg some (by kernel_rfl))
 f128:=Tryz.func115.trans (congrArg some (by kernel_rfl))
 f129:=Tryz.func116.trans (congrArg some (by kernel_rfl))
 f189:=Tryz.func34.trans (congrArg some (by kernel_rfl))
 f215:=Tryz.func151.trans (congrArg some (by kernel_rfl))
 f216:=Tryz.func112.trans (congrArg some (by kernel_rfl))
 f257:=Tryz.func64.trans (congrArg some (by kernel_rfl))
 f294:=Tryz.func106.trans (congrArg some (by kernel_rfl))
 f295:=Tryz.func107.trans (congrArg some (by kernel_rfl))
 f296:=Tryz.func108.trans (congrArg some (by kernel_rfl))
 f297:=Tryz.func109.trans (congrArg some (by kernel_rfl))
 f298:=Tryz.func110.trans (congrArg some (by kernel_rfl))
 f299:=Tryz.func111.trans (congrArg some (by kernel_rfl))
 f300:=Tryz.func113.trans (congrArg some (by kernel_rfl))
 f301:=Tryz.func114.trans (congrArg some (by kernel_rfl))
 f328:=Tryz.func146.trans (congrArg some (by kernel_rfl))
 f329:=Tryz.func147.trans (congrArg some (by kernel_rfl))
 f330:=Tryz.func148.trans (congrArg some (by kernel_rfl))
 f331:=Tryz.func149.trans (congrArg some (by kernel_rfl))
 f332:=Tryz.func150.trans (congrArg some (by kernel_rfl))
 f343:=Tryz.func165.trans (congrArg some (by kernel_rfl))
 t0:=Tryz.underlying0
 a0:=Tryz.isAgg0
 z0:=Tryz.sizeOf0
 v0:=Tryz.zeroValue0
 t3:=Tryz.underlying3
 a3:=Tryz.isAgg3
 z3:=Tryz.sizeOf3
 v3:=Tryz.zeroValue3
 t4:=Tryz.underlying4
 a4:=Tryz.isAgg4
 z4:=Tryz.sizeOf4
 v4:=Tryz.zeroValue4
 t5:=Tryz.underlying5
 a5:=Tryz.isAgg5
 z5:=Tryz.sizeOf5
 v5:=Tryz.zeroValue5
 t9:=Tryz.underlying9
 a9:=Tryz.isAgg9
 z9:=Tryz.sizeOf9
 v9:=Tryz.zeroValue9
 t28:=Tryz.underlying22
 a28:=Tryz.isAgg22
 z28:=Tryz.sizeOf22
 v28:=Tryz.zeroValue22
 t46:=Tryz.underlying113
 a46:=Tryz.isAgg113
 z46:=Tryz.sizeOf113
 v46:=Tryz.zeroValue113
 t51:=Tryz.underlying176
 a51:=Tryz.isAgg176
 z51:=Tryz.sizeOf176
 v51:=Tryz.zeroValue176
 t53:=Tryz.underlying107
 a53:=Tryz.isAgg107
 z53:=Tryz.sizeOf107
 v53:=Tryz.zeroValue107
 t131:=Tryz.underlying50
 a131:=Tryz.isAgg50
 z131:=Tryz.sizeOf50
 v131:=Tryz.zeroValue50
 t182:=Tryz.underlying169
 a182:=Tryz.isAgg169
 z182:=Tryz.sizeOf169
 v182:=Tryz.zeroValue169
 t183:=Tryz.underlying170
 a183:=Tryz.isAgg170
 z183:=Tryz.sizeOf170
 v183:=Tryz.zeroValue170
 t218:=Tryz.underlying202
 a218:=Tryz.isAgg202
 z218:=Tryz.sizeOf202
 v218:=Tryz.zeroValue202
 t222:=Tryz.underlying206
 a222:=Tryz.isAgg206
 z222:=Tryz.sizeOf206
 v222:=Tryz.zeroValue206
 t228:=Tryz.underlying211
 a228:=Tryz.isAgg211
 z228:=Tryz.sizeOf211
 v228:=Tryz.zeroValue211
 t229:=Tryz.underlying143
 a229:=Tryz.isAgg143
 z229:=Tryz.sizeOf143
 v229:=Tryz.zeroValue143}
open Go.Sort Go.RowKit in
theorem Tryz.slices_Sort_int (blk off cap:Nat) (zs:List Int) (w:World) (hH:Holds (Value.int .i64) w blk off zs.toArray) (hblk:blk<w.heap.size) (hsz:zs.length<4611686018427387904) :
  Calls Tryz.prog 34 #[.slice (some ⟨blk,off,none⟩) zs.length cap] w fun e w'=>
   e = .returned (.tuple #[])∧∃n os,w'=grow (putRow (Value.int .i64) (Sort.ahead w n) blk off (zs.mergeSort fun x y=>decide (x≤y)).toArray) os:=Any.slices_Sort_int Tryz.lays189 blk off cap zs w hH hblk hsz
def Tryz.laysNm215_ren:Go.Shelf.Ren:=⟨fun | 15=>60 | n=>n,fun | 22=>22 | 3=>3 | 4=>4 | n=>n,fun | n=>n⟩
theorem Tryz.laysNm215:Go.Proofs.Lays2.n15 Tryz.prog Tryz.laysNm215_ren:={
 mixed:=by kernel_rfl
 f15:=Tryz.func60.trans (congrArg some (by kernel_rfl))
 t3:=Tryz.underlying3
 a3:=Tryz.isAgg3
 z3:=Tryz.sizeOf3
 v3:=Tryz.zeroValue3
 t4:=Tryz.underlying4
 a4:=Tryz.isAgg4
 z4:=Tryz.sizeOf4
 v4:=Tryz.zeroValue4
 t22:=Tryz.underlying22
 a22:=Tryz.isAgg22
 z22:=Tryz.sizeOf22
 v22:=Tryz.zeroValue22
 i3:=by kernel_rfl}
open Go.RowKit Go.Lib in
theorem Tryz.slices_Clone_int (b off n c:Nat) (zs:List Int) (w:World) (hz:n≤zs.length) (hbig:n*8≤140737488355328) (hc:∀j,j<zs.length→w.cell? ⟨b,off+j,none⟩=some (.int .i64 (zs.getD j 0))) :
  Calls Tryz.prog 60 #[.slice (some ⟨b,off,none⟩) n c] w fun e w'=>∃v',e = .returned v'∧w'.ownsRow w.heap.size 3 1 v' n ((zs.take n).map (Value.int .i64))∧v'≠ .slice none 0 0∧Below w.heap.size w w':=Any.slices_Clone_int Tryz.laysNm215 b off n c zs w hz hbig hc
open Go.RowKit Go.Lib in
theorem Tryz.slices_Clone_int_nil (n c:Nat) (w:World) :
  Calls Tryz.prog 60 #[.slice none n c] w fun e w'=>e = .returned (.slice none 0 0)∧w'=w:=Any.slices_Clone_int_nil Tryz.laysNm215 n c w
open Go.RowKit Go.Lib in
theorem Tryz.slices_Clone_int_zero (a:Addr) (c:Nat) (w:World) :
  Calls Tryz.prog 60 #[.slice (some a) 0 c] w fun e w'=>∃v',e = .returned v'∧w'.ownsRow w.heap.size 3 1 v' 0 []∧v'≠ .slice none 0 0∧Below w.heap.size w w':=Any.slices_Clone_int_zero Tryz.laysNm215 a c w
open Go.RowKit Go.Lib in
open Go.RowKit Go.Lib in
open Go.RowKit Go.Sort in
theorem Tryz.slices_Sort_int_none (p:Option Addr) (cap:Nat) (w:World) :
  Calls Tryz.prog 34 #[.slice p 0 cap] w fun e w'=>e = .returned (.tuple #[])∧w'=w:=Any.slices_Sort_int_none Tryz.lays189 p cap w
open Go.RowKit Go.Lib in
def Tryz.laysSlH6_f105_ren:Go.Shelf.Ren:=⟨fun | 6=>105 | n=>n,fun | 22=>22 | 23=>3 | 25=>110 | 3=>3 | 0=>0 | 4=>4 | n=>n,fun | n=>n⟩
theorem Tryz.laysSlH6_f105:Go.Proofs.SlLaysH.n6 Tryz.prog Tryz.laysSlH6_f105_ren:={
 mixed:=by kernel_rfl
 f6:=⟨Tryz.f105.name,by decide,Tryz.func105.trans (congrArg some (by kernel_rfl))⟩
 t0:=Tryz.underlying0
 a0:=Tryz.isAgg0
 z0:=Tryz.sizeOf0
 v0:=Tryz.zeroValue0
 t3:=Tryz.underlying3
 a3:=Tryz.isAgg3
 z3:=Tryz.sizeOf3
 v3:=Tryz.zeroValue3
 t4:=Tryz.underlying4
 a4:=Tryz.isAgg4
 z4:=Tryz.sizeOf4
 v4:=Tryz.zeroValue4
 t22:=Tryz.underlying22
 a22:=Tryz.isAgg22
 z22:=Tryz.sizeOf22
 v22:=Tryz.zeroValue22
 a23:=Tryz.isAgg3
 z23:=Tryz.sizeOf3
 t25:=Tryz.underlying110
 a25:=Tryz.isAgg110
 z25:=Tryz.sizeOf110
 v25:=Tryz.zeroValue110}
open Go.RowKit Go.Lib in
open Go.RowKit Go.Lib in
theorem Tryz.slices_IndexFunc_empty {α:Type} [Inhabited α] (a:Option Addr) (c:Nat) (fv:Value) (w:World) :
  Calls Tryz.prog 105 #[.slice a 0 c,fv] w fun e w'=>e = .returned (.int .i64 (-1))∧w'=w:=AnyE.slices_IndexFunc_empty Tryz.laysSlH6_f105 a c fv w
def Tryz.laysSlH10_f62_ren:Go.Shelf.Ren:=⟨fun | 10=>62 | 6=>105 | n=>n,fun | 22=>22 | 23=>3 | 25=>110 | 3=>3 | 4=>4 | 0=>0 | n=>n,fun | n=>n⟩
theorem Tryz.laysSlH10_f62:Go.Proofs.SlLaysH.n10 Tryz.prog Tryz.laysSlH10_f62_ren:={
 mixed:=by kernel_rfl
 f6:=⟨Tryz.f105.name,by decide,Tryz.func105.trans (congrArg some (by kernel_rfl))⟩
 f10:=⟨Tryz.f62.name,by decide,Tryz.func62.trans (congrArg some (by kernel_rfl))⟩
 t0:=Tryz.underlying0
 a0:=Tryz.isAgg0
 z0:=Tryz.sizeOf0
 v0:=Tryz.zeroValue0
 t3:=Tryz.underlying3
 a3:=Tryz.isAgg3
 z3:=Tryz.sizeOf3
 v3:=Tryz.zeroValue3
 t4:=Tryz.underlying4
 a4:=Tryz.isAgg4
 z4:=Tryz.sizeOf4
 v4:=Tryz.zeroValue4
 t22:=Tryz.underlying22
 a22:=Tryz.isAgg22
 z22:=Tryz.sizeOf22
 v22:=Tryz.zeroValue22
 a23:=Tryz.isAgg3
 z23:=Tryz.sizeOf3
 t25:=Tryz.underlying110
 a25:=Tryz.isAgg110
 z25:=Tryz.sizeOf110
 v25:=Tryz.zeroValue110}
open Go.RowKit Go.Lib Go.Sort in
theorem Tryz.slices_DeleteFunc {α:Type} [Inhabited α] (enc:α→Value) (hO:OneCell enc) (p:α→Bool) (g:Nat) (lb:Array Value) (eg:∀args w,(callFunc g args).run Tryz.prog w = .ok (.enter g args) w) (zr:α) (v23:∀w,(zeroValue 3).run Tryz.prog w = .ok (enc zr) w) (blk off cap:Nat) (d:Array α) (w:World) (hp:PredAt Tryz.prog g lb enc p w) (hpo:PredOver Tryz.prog g lb enc p blk off d.size w) (hH:Holds enc w blk off d) (hsz:d.size≤9223372036854775807) (hcap:d.size≤cap) :
  Calls Tryz.prog 62 #[.slice (some ⟨blk,off,none⟩) d.size cap,.func (.func g) #[] lb] w fun e w'=>e = .returned (.slice (some ⟨blk,off,none⟩) (d.toList.filter fun x=>!p x).length cap)∧∃q,w'=putRow enc (Sort.ahead w q) blk off ((d.toList.filter fun x=>!p x) ++ List.replicate (d.size - (d.toList.filter fun x=>!p x).length) zr).toArray:=AnyE.slices_DeleteFunc Tryz.laysSlH10_f62 enc hO p g lb eg zr v23 blk off cap d w hp hpo hH hsz hcap
end Go.Proofs
namespace Go.Proofs.YthhekebemmckcaaGreatDoor
set_option linter.unusedVariables false
set_option linter.unusedSimpArgs false
set_option maxRecDepth 100000
set_option maxHeartbeats 16000000
open Go.RowKit
section
open Go.RowKit Go.Sort Go.Lib
abbrev OwnZ (w:World) (base:Nat) (v:Value) (zs:List Int):Prop:=w.ownsRow base 3 1 v zs.length (zs.map (Value.int .i64))
theorem ints_flat:∀(zs:List Int),(zs.map (fun x=>[Value.int .i64 x])).flatten=zs.map (Value.int .i64)
 | []=>rfl
 | x :: l=>by rw [List.map_cons,List.flatten_cons,ints_flat l];rfl
theorem OwnZ.lo {w:World} {base:Nat} {S:Nat→Prop} {v:Value} {zs:List Int} (h:OwnZ w base v zs):LO IntR 3 w base S v zs:=by
 refine ⟨zs.map (fun x=>[.int .i64 x]),?_,All2.of_map _⟩;have e:=ints_flat zs;rw [e];exact h
theorem OwnZ.of_lo {w:World} {base:Nat} {S:Nat→Prop} {v:Value} {zs:List Int} (h:LO IntR 3 w base S v zs):OwnZ w base v zs:=by
 obtain ⟨rows,h1,h2⟩:=h;have h2:All2 (fun a r=>r=[Value.int .i64 a]) zs rows:=h2;have e:rows.flatten=zs.map (Value.int .i64):=by rw [h2.flat];exact ints_flat zs
 rw [e] at h1;exact h1
theorem OwnZ.parts {w:World} {base:Nat} {v:Value} {zs:List Int} (h:OwnZ w base v zs):(v = .slice none 0 0∧zs=[])∨∃g cap cur,v = .slice (some ⟨g,0,none⟩) zs.length cap∧base≤g∧g<w.heap.size∧w.heap[g]?=some (.cells cur 3 (0,0))∧zs.length≤cap∧cap≤maxLen∧cur.size=cap*1∧cur.toList.take zs.length=zs.map (Value.int .i64):=by
 rcases h.2 with ⟨h1,h2⟩ | ⟨g,cap,cur,a1,a2,a3,a4,a5,a6,a7⟩
 ·exact .inl ⟨h1,List.eq_nil_of_length_eq_zero h2⟩
 ·exact .inr ⟨g,cap,cur,a1,a2,bk_lt a3,a3,a4,a5,a6,by simpa using a7⟩
theorem sclone_w (zs:List Int) (v:Value) (S:Nat→Prop) (w:World) (h:LA IntR w S v zs) (hl:zs.length≤1000) :
  Calls Tryz.prog 60 #[v] w fun e w'=>∃v,e = .returned v∧OwnZ w' w.heap.size v zs∧Below w.heap.size w w':=by
 obtain ⟨A,cap,rfl,hc1,hc2⟩:=h.form
 by_cases h0:zs=[]
 ·subst h0
  cases A with
  | none=>exact (Tryz.slices_Clone_int_nil 0 cap w).mono fun e w' ⟨he,hw⟩=>⟨_,he,by subst hw;exact World.ownsRow_nil _ _ _ _,by subst hw;exact Below.refl _ _⟩
  | some a=>exact (Tryz.slices_Clone_int_zero a cap w).mono fun e w' ⟨v,he,ho,_,hb⟩=>⟨v,he,ho,hb⟩
 ·have hx:zs[0]?=some (zs[0]'(List.length_pos_iff.2 h0)):=List.getElem?_eq_getElem (List.length_pos_iff.2 h0);obtain ⟨b,o,cap',hv,_,_,hb,_,_⟩:=IL.cell h hx;injection hv with e1 _ _
  subst e1;refine (Tryz.slices_Clone_int b o zs.length cap zs w (Nat.le_refl _) (by omega) (fun j hj=>?_)).mono fun e w' ⟨v,he,ho,_,hb⟩=>⟨v,he,by rw [List.take_length] at ho;exact ho,hb⟩;have he:zs[j]?=some zs[j]:=List.getElem?_eq_getElem hj;obtain ⟨b',o',cap'',hv',_,_,_,_,hc⟩:=IL.cell h he;injection hv' with e1 _ _
  injection e1 with e1
  injection e1 with e1 e2
  subst e1 e2;rw [hc];simp [List.getD,he]
theorem sort_own (base:Nat) (v:Value) (zs:List Int) (w:World) (h:OwnZ w base v zs) (hb:base≤w.heap.size) (hl:zs.length≤1000) :
  Calls Tryz.prog 34 #[v] w fun e w'=>e = .returned (.tuple #[])∧OwnZ w' base v (zs.mergeSort (fun x y=>decide (x≤y)))∧w.grownBy w' v.ownBlock:=by
 rcases h.parts with ⟨rfl,rfl⟩ | ⟨g,cap,cur,rfl,hg,hlt,hgh,hn,hm,hs,ht⟩
 ·refine (Tryz.slices_Sort_int_none none 0 w).mono fun e w' ⟨he,hw⟩=>?_;subst hw;refine ⟨he,?_,World.grownBy.refl _ _⟩;have e:([]:List Int).mergeSort (fun x y=>decide (x≤y))=[]:=by simp
  rw [e];exact World.ownsRow_nil _ _ _ _
 ·refine (Tryz.slices_Sort_int g 0 cap zs w (holds_of_blockI hgh ht) hlt (by omega)).mono fun e w' ⟨he,n,os,hw⟩=>?_;subst hw;have hlen:(zs.mergeSort (fun x y=>decide (x≤y))).length=zs.length:=List.length_mergeSort _;refine ⟨he,?_,?_⟩
  ·have:=ownsRow_sortedI (w:=w) (base:=base) (g:=g) (cap:=cap) (n:=n) (e:=3) (os:=os) (ts:=zs.mergeSort (fun x y=>decide (x≤y))) hlen hg hgh hn hm hs;unfold OwnZ;rw [hlen];exact this
  ·exact grownBy_sortedI (w:=w) (g:=g) (n:=n) (os:=os) (zs.mergeSort (fun x y=>decide (x≤y))).toArray
theorem eqp_gives (s p:Int) (B:Nat) (W:World) (hc:W.cell? ⟨B,0,none⟩=some (.int .i64 s)) :
  FnGives Tryz.prog 63 #[.pointer (some ⟨B,0,none⟩)] #[.int .i64 p] (.bool (p == s)) W:=by
 show Calls Tryz.prog 63 #[.int .i64 p,.pointer (some ⟨B,0,none⟩)] W _
 go_enter Tryz.func63,Tryz.ntmps63;go_wp2;go_ret;exact ⟨rfl,0,rfl⟩
theorem eqp_at (s:Int) (B:Nat) (w:World) (hB:B<w.heap.size) (hcell:w.cell? ⟨B,0,none⟩=some (.int .i64 s)) :
  PredAt Tryz.prog 63 #[.pointer (some ⟨B,0,none⟩)] (Value.int .i64) (fun p=>p == s) w:=
 fun W x hb=>eqp_gives s x B W ((hb.cell (p:=⟨B,0,none⟩) hB).trans hcell)
theorem eqp_over (s:Int) (B blk off size:Nat) (w:World) (hB:B<w.heap.size) (hne:B≠blk) (hcell:w.cell? ⟨B,0,none⟩=some (.int .i64 s)) :
  PredOver Tryz.prog 63 #[.pointer (some ⟨B,0,none⟩)] (Value.int .i64) (fun p=>p == s) blk off size w:=
 fun n os dk x _=>eqp_gives s x B _ (by
  unfold sortWorld;rw [cell?_grow _ _ _ (by show B<(putRow _ _ _ _ _).heap.size;rw [size_putRow];exact hB),cell?_putRow_other _ _ blk off _ _ (Or.inl hne)];exact hcell)
theorem delete_nil (f:Value) (w:World):Calls Tryz.prog 62 #[.slice none 0 0,f] w fun e w'=>e = .returned (.slice none 0 0)∧w'=w:=by
 have hi:=fun w=>Tryz.slices_IndexFunc_empty (α:=Int) none 0 f w;go_enter Tryz.func62,Tryz.ntmps62
 go_wp2_with (go_at_call 105;(with_reducible refine CM (hi _) ?_);rintro e w1 ⟨rfl,rfl⟩)
 go_ret;exact ⟨rfl,rfl⟩
theorem delete_own (base B:Nat) (s:Int) (v:Value) (zs:List Int) (w:World) (h:OwnZ w base v zs) (hb:base≤w.heap.size) (hB:B<base) (hcell:w.cell? ⟨B,0,none⟩=some (.int .i64 s)) (hl:zs.length≤1000) :
  Calls Tryz.prog 62 #[v,.func (.func 63) #[] #[.pointer (some ⟨B,0,none⟩)]] w fun e w'=>∃v',e = .returned v'∧OwnZ w' base v' (outL zs s)∧Below base w w':=by
 have ef:outL zs s=zs.filter fun x=>!(x == s):=rfl;rw [ef]
 rcases h.parts with ⟨rfl,rfl⟩ | ⟨g,cap,cur,rfl,hg,hlt,hgh,hn,hm,hs,ht⟩
 ·refine (delete_nil _ w).mono fun e w' ⟨he,hw⟩=>?_;subst hw;exact ⟨_,he,World.ownsRow_nil _ _ _ _,Below.refl _ _⟩
 ·have eg:∀args w,(callFunc 63 args).run Tryz.prog w = .ok (.enter 63 args) w:=enters_of Tryz.func63 (by kernel_rfl) rfl;have hcon:=Tryz.slices_DeleteFunc (Value.int .i64) (fun _=>rfl) (fun p=>p == s) 63 #[.pointer (some ⟨B,0,none⟩)] eg 0 Tryz.zeroValue3 g 0 cap zs.toArray w (eqp_at s B w (by omega) hcell) (eqp_over s B g 0 _ w (by omega) (by omega) hcell) (holds_of_blockI hgh ht) (by simp;omega) (by simpa using hn);simp only [List.size_toArray] at hcon;refine hcon.mono fun e w' ⟨he,q,hw⟩=>?_;subst hw;have hle:(zs.filter fun x=>!(x == s)).length≤zs.length:=List.length_filter_le _ _;have O3:=Lib.ownsRow_putRow (q:=q) (k:=(zs.filter fun x=>!(x == s)).length) (ys:=(zs.filter fun x=>!(x == s)) ++ List.replicate (zs.length - (zs.filter fun x=>!(x == s)).length) 0) h (by rw [List.length_append,List.length_replicate];omega) (by omega);rw [List.take_left' rfl] at O3;exact ⟨_,he,O3,Lib.below_putRow (enc:=Value.int .i64) (q:=q) (g:=g) (Below.refl base w) hg⟩
theorem pwithout_w (zs:List Int) (p:Int) (v:Value) (S:Nat→Prop) (w:World) (h:LA IntR w S v zs) (hl:zs.length≤1000) :
  Calls Tryz.prog 33 #[v,.int .i64 p] w fun e w'=>∃v,e = .returned v∧OwnZ w' w.heap.size v (outL zs p)∧Below w.heap.size w w':=by
 have hcl:=fun w' (hb:Below w.heap.size w w')=>sclone_w zs v S w' (h.step hb) hl;have HB:=H_ (heap_alloc_at w (.cells #[.int .i64 p] 3));have HW:=H_ (bl_alloc (Below.refl w.heap.size w) (.cells #[.int .i64 p] 3));clear h;go_enter Tryz.func33,Tryz.ntmps33
 go_upto_region 1 with fail
 generalize w.alloc (.cells #[.int .i64 p] 3)=W at HB HW
 go_wp2_with (first
  | (go_at_call 60;go_loud (refine CM (hcl _ HW.out) ?_);rintro e w1 ⟨u,rfl,ho,hb1⟩;have HO:=H_ ho;have HB1:=bkh HB hb1;have HW1:=blh HW hb1;have hs1:=bk_lt HB.out;clear ho)
  | (go_at_call 62;go_loud (refine CM (delete_own W.heap.size w.heap.size p u zs w1 HO.out hb1.size hs1 (cells_at HB1.out 0) hl) ?_);rintro e w2 ⟨u2,rfl,ho2,hb2⟩))
 go_ret;exact ⟨_,rfl,OwnZ.of_lo ((OwnZ.lo (S:=Any) ho2).base_le (by omega)),HW1.out.trans (hb2.mono (by omega))⟩
end
section
theorem mk_bytes {w:World} {base g n:Nat} (h:w.ownsRow base 5 1 (.slice (some ⟨g,0,none⟩) n n) n (madeCells (Value.int .u8 0).cells (n*1)).toList) (hn:1≤n):LW U8R w (fun _=>False) g (List.replicate n 0):=by
 have ho:LO U8R 5 w base (fun _=>False) (.slice (some ⟨g,0,none⟩) n n) (List.replicate n 0):=by
  refine ⟨(List.replicate n 0).map (fun b=>[.int .u8 (UInt8.toNat b:Int)]),?_,All2.of_map _⟩;rw [List.length_replicate];have e:(List.map (fun b=>[Value.int .u8 (UInt8.toNat b:Int)]) (List.replicate n 0)).flatten=(madeCells (Value.int .u8 0).cells (n*1)).toList:=by
   rw [made_zero];clear h hn
   induction n with
   | zero=>rfl
   | succ n ih=>simp [List.replicate_succ] at ih ⊢
  rw [e];exact h
 obtain ⟨g',cap,e,_,_,_,hw⟩:=ho.lw (by simp;omega);injection e with e1
 injection e1 with e1
 injection e1 with e1
 subst e1;exact hw.weak (fun h=>h) (fun _ _ h=>h.1)
theorem gb_set_new {w x:World} {r:Option Nat} {B:Nat} (h:w.grownBy x r) (hB:w.heap.size≤B) (o:Nat) (v:Value):w.grownBy (x.setCell ⟨B,o,none⟩ v) r:=by
 have hs:=grownBy_setCell x ⟨B,o,none⟩ v;refine ⟨hs.os.trans h.os,hs.tape.trans h.tape,hs.output.trans h.output,Nat.le_trans h.size hs.size,fun k hk hn=>?_⟩;exact (hs.block k (Nat.lt_of_lt_of_le hk h.size) (by simp;omega)).trans (h.block k hk hn)
def RetBs (n:Nat) (W:World) (b:Nat) (w:World) (e:Ending) (w':World):Prop:=∃s:ByteArray,s.size=n∧e = .returned (.string s)∧Tp W b w'∧w.grownBy w' (some b)
theorem u8_set {w:World} {B k n:Nat} {L:List UInt8} (h:LW U8R w (fun _=>False) B L) (hl:L.length=n) (hk:k<n) (x:UInt8):LW U8R (w.setCell ⟨B,k,none⟩ (.int .u8 (x.toNat:Int))) (fun _=>False) B (L.set k x):=by
 have hs:=h.setOne (i:=k) (p:=0) (a:=L[k]'(by omega)) (a':=x) (v:= .int .u8 (x.toNat:Int)) (List.getElem?_eq_getElem _) (by omega) rfl (fun r hr=>by
  have hr:r=[.int .u8 _]:=hr;subst hr
  rfl)
 rw [Nat.mul_one,Nat.add_zero] at hs;exact hs
theorem u8_conv {w:World} {B cap n:Nat} {L:List UInt8} (h:LW U8R w (fun _=>False) B L) (hl:L.length=n):(convert 141 9 (.slice (some ⟨B,0,none⟩) n cap)).run Tryz.prog w = .ok (.string ⟨L.toArray⟩) w:=by
 have:=conv_bytes L B cap w (fun j hj=>by
  obtain ⟨r,hr,hc⟩:=h.at_ (List.getElem?_eq_getElem hj);have hr:r=[.int .u8 _]:=hr;subst hr;have:=hc 0 _ rfl;rw [Nat.mul_one,Nat.add_zero] at this;exact this)
 rw [hl] at this;exact this
theorem bytes_t (n:Nat) (W w:World) (b:Nat) (h1:1≤n) (h2:n≤1000) (hT:Tp W b w) :
  Calls Tryz.prog 45 #[.pointer (some ⟨b,0,none⟩),.int .i64 n] w (RetBs n W b w):=by
 have hbw:=hT.lt;have HT:=H_ hT;obtain ⟨i0,hi,hz0,hz1,hz2⟩:=info_parts u8_info;clear hT;go_enter Tryz.func45,Tryz.ntmps45
 go_upto_region 2 with (first
  | (refine wpList_make_full w rfl (.tmp 7) (.tmp 7) 141 rfl w.heap.size 5 i0 (.int .u8 0) 1 Tryz.underlying141 hi hz0 hz1 .i64 .i64 n n n rfl rfl rfl rfl (by rw [hz2];omega) (by unfold maxLen;omega) (Nat.le_refl _) ?_;intro w4 hown4 hg4))
 obtain ⟨B,hB⟩:∃B,B=w.heap.size:=⟨_,rfl⟩;have HV:=H_ (mk_bytes hown4 h1);have HT4:=H_ (HT.out.gb' hg4 (fun k hk=>by cases hk));have HG4:=H_ (show w.grownBy w4 (some b) from ⟨hg4.os,hg4.tape,hg4.output,hg4.size,fun k hk _=>hg4.block k hk (by simp)⟩);clear hown4 hg4 hi hz0 hz1 hz2 HT;rw [←hB] at HV ⊢;have hBB:w.heap.size≤B∧b<B:=by omega
 clear hB;go_wp2
 go_loopw [6,11] (fun s6 s11 wx=>∃(k:Nat) (L:List UInt8),s11 = .int .i64 k∧k≤n∧L.length=n∧LW U8R wx (fun _=>False) B L∧Tp W b wx∧w.grownBy wx (some b)) (fun _ s11 _=>n - (intOf s11).toNat)
 case atStart=>exact ⟨0,_,rfl,by omega,List.length_replicate,HV.out,HT4.out,HG4.out⟩
 case round=>
  clear HV HT4 HG4;obtain ⟨k,L,rfl,hk,hL,hw,hT,hg⟩:=hrel;have HV:=H_ hw;have HT:=H_ hT;have HG:=H_ hg;have HL:=H_ hL;clear hw hT hg hL
  by_cases hlt:k<n
  ·go_wp2_with (go_at_call 7;refine (next_t _ W _ _ (by omega) (by omega) HT.out).mono ?_;rintro e w1 ⟨x,rfl,h0,h1,hT1,hg1⟩;obtain ⟨q,rfl⟩:=Int.eq_ofNat_of_zero_le h0;have HV1:=H_ (HV.out.kept ⟨hg1.size,fun z hz _=>hz.elim⟩ (hg1.block B HV.out.lt (by simp;omega)));have fz:=(HV1.out.slot (i:=k) (p:=0) (by have:=HL.out;omega) (by omega)).2;obtain ⟨c0,hc0⟩:=(HV1.out.slot (i:=k) (p:=0) (by have:=HL.out;omega) (by omega)).1;rw [Nat.mul_one,Nat.add_zero] at fz hc0)
   go_roundw
   case rel=>exact ⟨k+1,_,by go_num,by omega,by rw [List.length_set];exact HL.out,u8_set HV1.out HL.out hlt _,hT1.set _ _ hBB.2,gb_set_new (grownBy_trans HG.out hg1) hBB.1 _ _⟩
   case measure=>simp [intOf];omega
  ·obtain rfl:k=n:=by omega
   have hcv:=u8_conv (cap:=k) HV.out HL.out;go_wp2;go_ret;exact ⟨_,by simpa [ByteArray.size] using HL.out,rfl,HT.out,HG.out⟩
end
end Go.Proofs.YthhekebemmckcaaGreatDoor
