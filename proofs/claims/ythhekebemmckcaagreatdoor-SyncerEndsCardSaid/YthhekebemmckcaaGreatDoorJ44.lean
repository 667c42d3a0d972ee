/-
  Lemmas and contracts for the laws of synchronisations (layer 43), part 44; several texts joined by a program.
-/
import Derived.Test.YthhekebemmckcaaGreatDoorJ01
import Derived.Test.YthhekebemmckcaaGreatDoorJ26
import Derived.Test.YthhekebemmckcaaGreatDoorJ43
import Derived.Deep.CutBlock
namespace Go.Proofs.YthhekebemmckcaaGreatDoor
set_option linter.unusedVariables false
set_option linter.unusedSimpArgs false
set_option maxRecDepth 100000
set_option maxHeartbeats 16000000
open Go.RowKit
section
def stS (C:Ck) (f:Int):Sy:=match C.files[f.toNat]? with | some y=>if 0≤f then startS C f.toNat y else startN | none=>startN
def stE (C:Ck) (f:Int):Int:=match C.files[f.toNat]? with | some _=>if 0≤f then 0 else 2 | none=>2
theorem stS_ok (C:Ck) (f:Int):SyOk (stS C f):=by
 unfold stS
 cases C.files[f.toNat]? with
 | none=>exact SyOk.none
 | some y=>
  show SyOk (if 0≤f then startS C f.toNat y else startN)
  split
  ·exact SyOk.start _ _ _
  ·exact SyOk.none
theorem st_out {C:Ck} {f:Int} (h:f<0∨(C.files.length:Int)≤f):stS C f=startN∧stE C f=2:=by
 unfold stS stE
 cases hx:C.files[f.toNat]? with
 | none=>exact ⟨rfl,rfl⟩
 | some y=>
  have:=(g_l hx);have hn:¬(0:Int)≤f:=by omega
  show (if 0≤f then _ else _)=_∧(if (0:Int)≤f then (0:Int) else 2)=2
  rw [if_neg hn,if_neg hn];exact ⟨rfl,rfl⟩
theorem st_in {C:Ck} {k:Nat} {y:Fl} (h:C.files[k]?=some y):stS C k=startS C k y∧stE C k=0:=by
 unfold stS stE;rw [show ((k:Int)).toNat=k by simp,h];have hn:(0:Int)≤(k:Int):=by omega
 show (if (0:Int)≤(k:Int) then _ else _)=_∧(if (0:Int)≤(k:Int) then (0:Int) else 2)=0
 rw [if_pos hn,if_pos hn];exact ⟨rfl,rfl⟩
theorem pStartA_w {F G Z:Nat} (C:Ck) (i:Int) (a b c d e f g:Value) (S:Nat→Prop) (w:World) (h:CkAt w S a b c d e f g C) (hI:Inv F G Z C) (hbt:BitsAt w) (hS:∀z,w.heap.size≤z→S z):Calls Tryz.prog 8 #[ckV a b c d e f g,.int .i64 i] w (RetSyE (stS C i,stE C i) S w):=by
 by_cases hi:i<0∨(C.files.length:Int)≤i
 ·rw [(st_out hi).1,(st_out hi).2];exact pStartN_w C i a b c d e f g S w h hi
 ·obtain ⟨k,rfl⟩:=Int.eq_ofNat_of_zero_le (show (0:Int)≤i by omega);obtain ⟨y,hy⟩:∃y,C.files[k]?=some y:=⟨_,List.getElem?_eq_getElem (by omega)⟩;rw [(st_in hy).1,(st_in hy).2];exact pStart_w C k y a b c d e f g S w h hI hy hbt hS
theorem rStartA_w {F G Z:Nat} (C:Ck) (i:Int) (a b c d e f g:Value) (S:Nat→Prop) (w:World) (h:CkAt w S a b c d e f g C) (hI:Inv F G Z C) (hS:∀z,w.heap.size≤z→S z):Calls Tryz.prog 9 #[ckV a b c d e f g,.int .i64 i] w (RetSyE (stS C i,stE C i) S w):=by
 by_cases hi:i<0∨(C.files.length:Int)≤i
 ·rw [(st_out hi).1,(st_out hi).2];exact rStartN_w C i a b c d e f g S w h hi
 ·obtain ⟨k,rfl⟩:=Int.eq_ofNat_of_zero_le (show (0:Int)≤i by omega);obtain ⟨y,hy⟩:∃y,C.files[k]?=some y:=⟨_,List.getElem?_eq_getElem (by omega)⟩;rw [(st_in hy).1,(st_in hy).2];exact rStart_w C k y a b c d e f g S w h hI hy hS
def XB (X:Nat) (W:World):Prop:=∃cs,W.heap[X]?=some (.cells cs 37 (0,0))∧cs.size=6
theorem XB.step {X:Nat} {W W':World} (h:XB X W) (hb:Below W.heap.size W W'):XB X W':=by obtain ⟨cs,h1,h2⟩:=h;exact ⟨cs,bk_step h1 hb,h2⟩
theorem XB.lt {X:Nat} {W:World} (h:XB X W):X<W.heap.size:=by obtain ⟨cs,h1,_⟩:=h;exact bk_lt h1
theorem XB.other {X Z:Nat} {W:World} (h:XB X W) (hz:X≠Z) (cs:Array Value):XB X (W.setRow Z cs):=by obtain ⟨c,h1,h2⟩:=h;exact ⟨c,(setRow_other _ _ _ _ hz).trans h1,h2⟩
theorem XB.put {X:Nat} {W:World} (h:XB X W) {cs:Array Value} (hs:cs.size=6):XB X (W.setRow X cs):=by obtain ⟨c,h1,h2⟩:=h;exact ⟨cs,setRow_heap _ _ _ _ _ _ h1,hs⟩
theorem BP.over {Q:Nat→Prop} {X:Nat} {v1 v2:Value} {s:Sy} {W:World} (h:XB X W) (hQ:¬Q X) (ha:SyA W Q v1 v2 s):BP Q X v1 v2 s (W.setRow X #[.int .i64 s.file,.int .i64 s.size,.int .i64 s.stage,v1,v2,.bool s.failed]):=by
 obtain ⟨c,h1,h2⟩:=h;exact ⟨setRow_heap _ _ _ _ _ _ h1,ha.kept (KeepS.of_setRow _ _ _ hQ)⟩
theorem BP.weak {Q Q':Nat→Prop} {X:Nat} {v1 v2:Value} {s:Sy} {W:World} (h:BP Q X v1 v2 s W) (hQ:∀z,z<W.heap.size→Q z→Q' z):BP Q' X v1 v2 s W:=⟨h.x,h.a.weak hQ⟩
structure LB (w:World) (t Y:Nat) (Q:Nat→Prop) (v1 v2:Value) (s:Sy) (W:World):Prop where
 y:BP Q Y v1 v2 s W
 tp:TpP w t W
 qt:¬Q t
 qy:¬Q Y
 yt:Y≠t
 wy:w.heap.size≤Y
section
variable {w W W':World} {t Y X Z:Nat} {Q:Nat→Prop} {v1 v2 v1' v2':Value} {s s':Sy}
theorem LB.step (h:LB w t Y Q v1 v2 s W) (hb:Below W.heap.size W W'):LB w t Y Q v1 v2 s W':=⟨h.y.step hb,h.tp.step hb,h.qt,h.qy,h.yt,h.wy⟩
theorem LB.read (h:LB w t Y Q v1 v2 s W) (hg:W.grownBy W' (some t)) (hT:TpP w t W'):LB w t Y Q v1 v2 s W':=⟨h.y.gb hg (fun b hb=>by injection hb with hb;subst hb;exact ⟨h.yt,h.qt⟩),hT,h.qt,h.qy,h.yt,h.wy⟩
theorem LB.other (h:LB w t Y Q v1 v2 s W) (hz:Y≠Z) (hQ:¬Q Z) (ht:w.heap.size≤Z∧Z≠t) (cs:Array Value):LB w t Y Q v1 v2 s (W.setRow Z cs):=⟨h.y.other hz hQ cs,h.tp.row ht cs,h.qt,h.qy,h.yt,h.wy⟩
theorem LB.put (h:LB w t Y Q v1 v2 s W) (ha:SyA W Q v1' v2' s'):LB w t Y Q v1' v2' s' (W.setRow Y #[.int .i64 s'.file,.int .i64 s'.size,.int .i64 s'.stage,v1',v2',.bool s'.failed]):=⟨h.y.put h.qy ha,h.tp.row ⟨h.wy,h.yt⟩ _,h.qt,h.qy,h.yt,h.wy⟩
theorem LB.weak {Q':Nat→Prop} (h:LB w t Y Q v1 v2 s W) (hQ:∀z,z<W.heap.size→Q z→Q' z) (h1:¬Q' t) (h2:¬Q' Y):LB w t Y Q' v1 v2 s W:=⟨h.y.weak hQ,h.tp,h1,h2,h.yt,h.wy⟩
theorem LB.stage (h:LB w t Y Q v1 v2 s W) (k:Int):LB w t Y Q v1 v2 {s with stage:=k} (W.setCell ⟨Y,2,none⟩ (.int .i64 k)):=
 ⟨⟨set_same h.y.x _,SyA.kept (s:={s with stage:=k}) (S:=Q) ⟨h.y.a.t,h.y.a.g,h.y.a.lt,h.y.a.lg⟩ (KeepS.of_setCell W ⟨Y,2,none⟩ _ h.qy)⟩,h.tp.gb (grownBy_setCell W ⟨Y,2,none⟩ _) (fun k hk=>by injection hk with hk;subst hk;exact ⟨h.wy,h.yt⟩),h.qt,h.qy,h.yt,h.wy⟩
end
structure TwC (w:World) (t Y n0:Nat) (Q:Nat→Prop) (v1 v2:Value) (s:Sy) (g:Option Nat × Option Nat) (d:Nat→Bool) (x:World):Prop where
 b:LB w t Y Q v1 v2 s x
 n:n0≤x.heap.size
 na:d 2=false→g.1=none
 nb:d 3=false→g.2=none
 a1:∀X,g.1=some X→XB X x∧n0≤X
 a2:∀X,g.2=some X→XB X x∧n0≤X
 ne:∀X Z,g.1=some X→g.2=some Z→X≠Z
def TwG (v1 v2:Value) (s:Sy) (g:Option Nat × Option Nat):Nat→Value→World→Prop
 | 0,v,_=>v=syV s v1 v2
 | 1,v,_=>v=syV s v1 v2
 | 2,v,_=>∃X,g.1=some X∧v = .pointer (some ⟨X,0,none⟩)
 | 3,v,_=>∃X,g.2=some X∧v = .pointer (some ⟨X,0,none⟩)
 | _+4,_,_=>True
section
variable {w x:World} {t Y n0:Nat} {Q:Nat→Prop} {v1 v2:Value} {s:Sy} {g:Option Nat × Option Nat} {d:Nat→Bool}
theorem TwC.pure (h:TwC w t Y n0 Q v1 v2 s g d x) (i:Nat) (h2:(2 == i)=false) (h3:(3 == i)=false):TwC w t Y n0 Q v1 v2 s g (doneA d i) x:=
 ⟨h.b,h.n,fun e=>h.na (by rwa [done_ne h2] at e),fun e=>h.nb (by rwa [done_ne h3] at e),h.a1,h.a2,h.ne⟩
theorem TwC.mk1 (h:TwC w t Y n0 Q v1 v2 s g d x):TwC w t Y n0 Q v1 v2 s (some x.heap.size,g.2) (doneA d 2) (x.alloc (oSZ)):=by
 have hb:=bl_alloc (Below.refl x.heap.size x) (oSZ);refine ⟨h.b.step hb,by have:=h.n;simp;omega,fun e=>(by rw [done_self] at e;cases e),fun e=>h.nb (by rwa [done_ne rfl] at e),fun X hX=>?_,fun X hX=>⟨(h.a2 X hX).1.step hb,(h.a2 X hX).2⟩,fun X Z hX hZ=>?_⟩
 ·obtain rfl:=Option.some.inj hX;exact ⟨⟨_,heap_alloc_new _ _,rfl⟩,h.n⟩
 ·obtain rfl:=Option.some.inj hX;have:=(h.a2 Z hZ).1.lt;omega
theorem TwC.mk2 (h:TwC w t Y n0 Q v1 v2 s g d x):TwC w t Y n0 Q v1 v2 s (g.1,some x.heap.size) (doneA d 3) (x.alloc (oSZ)):=by
 have hb:=bl_alloc (Below.refl x.heap.size x) (oSZ);refine ⟨h.b.step hb,by have:=h.n;simp;omega,fun e=>h.na (by rwa [done_ne rfl] at e),fun e=>(by rw [done_self] at e;cases e),fun X hX=>⟨(h.a1 X hX).1.step hb,(h.a1 X hX).2⟩,fun X hX=>?_,fun X Z hX hZ=>?_⟩
 ·obtain rfl:=Option.some.inj hX;exact ⟨⟨_,heap_alloc_new _ _,rfl⟩,h.n⟩
 ·obtain rfl:=Option.some.inj hZ;have:=(h.a1 X hX).1.lt;omega
theorem TwC.sto (h:TwC w t Y n0 Q v1 v2 s g d x) (i:Nat) (h2:(2 == i)=false) (h3:(3 == i)=false) {Z:Nat} (hZ:XB Z x∧n0≤Z) (hq:¬Q Z) (hy:Y<n0) (ht:w.heap.size≤n0∧t<n0) {cs:Array Value} (hs:cs.size=6):TwC w t Y n0 Q v1 v2 s g (doneA d i) (x.setRow Z cs):=by
 have hz:=hZ.2;have put:∀X,XB X x∧n0≤X→XB X (x.setRow Z cs)∧n0≤X:=fun X hX=>by
  by_cases e:X=Z
  ·subst e;exact ⟨hX.1.put hs,hX.2⟩
  ·exact ⟨hX.1.other e cs,hX.2⟩
 exact ⟨h.b.other (by omega) hq (by omega) cs,by have:=h.n;simpa [World.setRow] using this,fun e=>h.na (by rwa [done_ne h2] at e),fun e=>h.nb (by rwa [done_ne h3] at e),fun X hX=>put X (h.a1 X hX),fun X hX=>put X (h.a2 X hX),h.ne⟩
end
theorem TwG.any {v1 v2:Value} {s:Sy} {g:Option Nat × Option Nat} {x y:World} (j:Nat) (u:Value) (h:TwG v1 v2 s g j u x):TwG v1 v2 s g j u y:=by
 match j with
 | 0=>exact h
 | 1=>exact h
 | 2=>exact h
 | 3=>exact h
 | _+4=>trivial
theorem TwG.mk1 {v1 v2:Value} {s:Sy} {g:Option Nat × Option Nat} {x y:World} {n:Nat} (hn:g.1=none) (j:Nat) (u:Value) (h:TwG v1 v2 s g j u x):TwG v1 v2 s (some n,g.2) j u y:=by
 match j with
 | 0=>exact h
 | 1=>exact h
 | 2=>obtain ⟨X,h1,_⟩:=h;rw [hn] at h1;cases h1
 | 3=>exact h
 | _+4=>trivial
theorem TwG.mk2 {v1 v2:Value} {s:Sy} {g:Option Nat × Option Nat} {x y:World} {n:Nat} (hn:g.2=none) (j:Nat) (u:Value) (h:TwG v1 v2 s g j u x):TwG v1 v2 s (g.1,some n) j u y:=by
 match j with
 | 0=>exact h
 | 1=>exact h
 | 2=>exact h
 | 3=>obtain ⟨X,h1,_⟩:=h;rw [hn] at h1;cases h1
 | _+4=>trivial
def TQ.some' {b:Nat}:TQ b:=⟨fun v _=>∃y:Int,v = .int .i64 y,fun _ _ _ _ h=>h⟩
def errL:List Int:=[0,0,10]
structure RX (w:World) (t Y X Z:Nat) (Q:Nat→Prop) (v1 v2:Value) (s:Sy) (W:World):Prop where
 b:LB w t Y Q v1 v2 s W
 x:XB X W
 z:XB Z W
 qx:¬Q X
 qz:¬Q Z
 xz:X≠Z
 xy:X≠Y
 zy:Z≠Y
 xt:X≠t
 zt:Z≠t
 wx:w.heap.size≤X
 wz:w.heap.size≤Z
 ge:∀z,W.heap.size≤z→Q z
theorem RX.step {w W W':World} {t Y X Z:Nat} {Q:Nat→Prop} {v1 v2:Value} {s:Sy} (h:RX w t Y X Z Q v1 v2 s W) (hb:Below W.heap.size W W'):RX w t Y X Z Q v1 v2 s W':=⟨h.b.step hb,h.x.step hb,h.z.step hb,h.qx,h.qz,h.xz,h.xy,h.zy,h.xt,h.zt,h.wx,h.wz,fun z hz=>h.ge z (Nat.le_trans hb.size hz)⟩
theorem RX.read {w W W':World} {t Y X Z:Nat} {Q:Nat→Prop} {v1 v2:Value} {s:Sy} (h:RX w t Y X Z Q v1 v2 s W) (hg:W.grownBy W' (some t)) (hT:TpP w t W'):RX w t Y X Z Q v1 v2 s W':=by
 have key:∀X,X≠t→XB X W→XB X W':=fun X hX ⟨cs,h1,h2⟩=>⟨cs,gb_block hg hX h1,h2⟩;exact ⟨h.b.read hg hT,key X h.xt h.x,key Z h.zt h.z,h.qx,h.qz,h.xz,h.xy,h.zy,h.xt,h.zt,h.wx,h.wz,fun z hz=>h.ge z (Nat.le_trans hg.size hz)⟩
structure RY (w:World) (t Y X Z:Nat) (Q:Nat→Prop) (v1 v2 x1 x2 z1 z2:Value) (s s':Sy) (W:World):Prop where
 b:LB w t Y Q v1 v2 s W
 x:BP Q X x1 x2 s' W
 z:BP Q Z z1 z2 s' W
theorem RY.step {w W W':World} {t Y X Z:Nat} {Q:Nat→Prop} {v1 v2 x1 x2 z1 z2:Value} {s s':Sy} (h:RY w t Y X Z Q v1 v2 x1 x2 z1 z2 s s' W) (hb:Below W.heap.size W W'):RY w t Y X Z Q v1 v2 x1 x2 z1 z2 s s' W':=⟨h.b.step hb,h.x.step hb,h.z.step hb⟩
theorem RX.two {w W:World} {t Y X Z:Nat} {Q:Nat→Prop} {v1 v2 x1 x2 z1 z2:Value} {s s':Sy} (h:RX w t Y X Z Q v1 v2 s W) (hx:SyA W Q x1 x2 s') (hz:SyA W Q z1 z2 s') :
  RY w t Y X Z Q v1 v2 x1 x2 z1 z2 s s' ((W.setRow X #[.int .i64 s'.file,.int .i64 s'.size,.int .i64 s'.stage,x1,x2,.bool s'.failed]).setRow Z #[.int .i64 s'.file,.int .i64 s'.size,.int .i64 s'.stage,z1,z2,.bool s'.failed]):=by
 have hxz:=h.xz;refine ⟨(h.b.other (Ne.symm h.xy) h.qx ⟨h.wx,h.xt⟩ _).other (Ne.symm h.zy) h.qz ⟨h.wz,h.zt⟩ _,(BP.over h.x h.qx hx).other h.xz h.qz _,?_⟩;exact BP.over (h.z.other (Ne.symm h.xz) _) h.qz (hz.kept (KeepS.of_setRow _ _ _ h.qx))
theorem RX.one {w W:World} {t Y X Z:Nat} {Q:Nat→Prop} {v1 v2 x1 x2:Value} {s s':Sy} (h:RX w t Y X Z Q v1 v2 s W) (hx:SyA W Q x1 x2 s') :
  RX w t Y X Z Q v1 v2 s (W.setRow X #[.int .i64 s'.file,.int .i64 s'.size,.int .i64 s'.stage,x1,x2,.bool s'.failed])∧BP Q X x1 x2 s' (W.setRow X #[.int .i64 s'.file,.int .i64 s'.size,.int .i64 s'.stage,x1,x2,.bool s'.failed]):=
 ⟨⟨h.b.other (Ne.symm h.xy) h.qx ⟨h.wx,h.xt⟩ _,h.x.put rfl,h.z.other (Ne.symm h.xz) _,h.qx,h.qz,h.xz,h.xy,h.zy,h.xt,h.zt,h.wx,h.wz,fun z hz=>h.ge z (by simpa [World.setRow] using hz)⟩,BP.over h.x h.qx hx⟩
theorem RX.last {w W:World} {t Y X Z:Nat} {Q:Nat→Prop} {v1 v2 x1 x2 z1 z2:Value} {s s':Sy} (h:RX w t Y X Z Q v1 v2 s W) (hX:BP Q X x1 x2 s' W) (hz:SyA W Q z1 z2 s') :
  RY w t Y X Z Q v1 v2 x1 x2 z1 z2 s s' (W.setRow Z #[.int .i64 s'.file,.int .i64 s'.size,.int .i64 s'.stage,z1,z2,.bool s'.failed]):=
 ⟨h.b.other (Ne.symm h.zy) h.qz ⟨h.wz,h.zt⟩ _,hX.other h.xz h.qz _,BP.over h.z h.qz hz⟩
def SP.syQ (Q:Nat→Prop) (s:Sy):SP:=⟨fun v w=>∃v1 v2,v=syV s v1 v2∧SyA w Q v1 v2 s,fun v w w' hb ⟨v1,v2,e,h⟩=>⟨v1,v2,e,h.step hb⟩⟩
end
end Go.Proofs.YthhekebemmckcaaGreatDoor
