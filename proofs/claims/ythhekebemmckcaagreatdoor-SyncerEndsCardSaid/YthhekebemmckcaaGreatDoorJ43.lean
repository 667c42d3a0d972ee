/-
  Lemmas and contracts for the laws of synchronisations (layer 43), part 43; several texts joined by a program.
-/
import Derived.Test.YthhekebemmckcaaGreatDoorJ01
import Derived.Test.YthhekebemmckcaaGreatDoorJ38
import Derived.Test.YthhekebemmckcaaGreatDoorJ42
namespace Go.Proofs.YthhekebemmckcaaGreatDoor
set_option linter.unusedVariables false
set_option linter.unusedSimpArgs false
set_option maxRecDepth 100000
set_option maxHeartbeats 16000000
open Go.RowKit
section
theorem CS.new {b:Nat} {a b' c d e f g:Value} {C:Ck} {W:World} (h:CkAt W (fun z=>z≠b) a b' c d e f g C) (hb:b<W.heap.size):CS b W.heap.size a b' c d e f g C ((W.alloc (oCZ)).setRow W.heap.size #[a,b',c,d,e,f,g]):=
 ⟨setRow_heap _ _ _ _ _ _ (heap_alloc_at W _),((h.weak (S':=fun z=>z≠b∧z≠W.heap.size) (fun z hz h=>⟨h,by omega⟩)).step (bl_alloc B_ _)).kept (KeepS.of_setRow _ _ _ (fun h=>h.2 rfl)),by omega⟩
theorem sfld_w (a b c:Int) (v1 v2:Value) (f:Bool) (w:World):(Instr.field 37 (.agg #[.int .i64 a,.int .i64 b,.int .i64 c,v1,v2,.bool f]) 2).run Tryz.prog w = .ok (.int .i64 c) w:=by kernel_rfl
theorem CS.retape {b X:Nat} {a b' c d e f g:Value} {C:Ck} {W:World} (h:CS b X a b' c d e f g C W) (o:Obj):CS W.heap.size X a b' c d e f g C (W.alloc o):=
 ⟨bk_alloc h.x o,(h.a.weak (S':=fun z=>z≠W.heap.size∧z≠X) (fun z hz h=>⟨by omega,h.2⟩)).step (bl_alloc B_ o),by have:=bk_lt h.x;omega⟩
theorem sameS_self (s:Sy):sameS s s=true:=by simp [sameS]
theorem listP_in {f:Nat→Bool} {j:Nat}:∀{k:Nat},j<k→((j:Int) ∈ listP f k↔f j=true)
 | k+1,h=>by
  constructor
  ·intro hm;obtain ⟨i,_,e,hf⟩:=listP_mem hm;obtain rfl:i=j:=by omega
   exact hf
  ·intro hf
   show _ ∈ listP f k ++ (if f k then [(k:Int)] else [])
   by_cases e:j=k
   ·subst e;rw [hf,if_pos rfl];exact List.mem_append.2 (.inr (List.mem_singleton.2 rfl))
   ·exact List.mem_append.2 (.inl ((listP_in (by omega)).2 hf))
structure BP (Q:Nat→Prop) (X:Nat) (v1 v2:Value) (s:Sy) (W:World):Prop where
 x:W.heap[X]?=some (.cells #[.int .i64 s.file,.int .i64 s.size,.int .i64 s.stage,v1,v2,.bool s.failed] 37 (0,0))
 a:SyA W Q v1 v2 s
section
variable {Q:Nat→Prop} {X Z:Nat} {v1 v2 v1' v2':Value} {s s':Sy} {W W':World} {a b c d e f g:Value} {C:Ck}
theorem BP.step (h:BP Q X v1 v2 s W) (hb:Below W.heap.size W W'):BP Q X v1 v2 s W':=⟨bk_step h.x hb,h.a.step hb⟩
theorem BP.gb {r:Option Nat} (h:BP Q X v1 v2 s W) (hg:W.grownBy W' r) (hr:∀b,r=some b→X≠b∧¬Q b):BP Q X v1 v2 s W':=
 ⟨(hg.block X (bk_lt h.x) (fun e=>(hr X e.symm).1 rfl)).trans h.x,h.a.kept ⟨hg.size,fun z hz hl=>hg.block z hl (fun e=>(hr z e.symm).2 hz)⟩⟩
theorem BP.new {S:Nat→Prop} (h:SyA W S v1 v2 s) (hS:∀z,z<W.heap.size→S z→Q z):BP Q W.heap.size v1 v2 s ((W.alloc (oSZ)).setRow W.heap.size #[.int .i64 s.file,.int .i64 s.size,.int .i64 s.stage,v1,v2,.bool s.failed]):=
 ⟨setRow_heap _ _ _ _ _ _ (heap_alloc_at W _),((((h.weak (S':=fun z=>z<W.heap.size∧S z) (fun z hz h=>⟨hz,h⟩)).step (bl_alloc B_ _)).kept (KeepS.of_setRow _ _ _ (show ¬(W.heap.size<W.heap.size∧_) from fun h=>Nat.lt_irrefl _ h.1)))).weak (fun z _ hz=>hS z hz.1 hz.2)⟩
theorem BP.other (h:BP Q X v1 v2 s W) (hz:X≠Z) (hQ:¬Q Z) (cs:Array Value):BP Q X v1 v2 s (W.setRow Z cs):=h.gb (gb_setRow W Z cs) (fun b hb=>by injection hb with hb;subst hb;exact ⟨hz,hQ⟩)
theorem BP.put (h:BP Q X v1 v2 s W) (hQ:¬Q X) (ha:SyA W Q v1' v2' s'):BP Q X v1' v2' s' (W.setRow X #[.int .i64 s'.file,.int .i64 s'.size,.int .i64 s'.stage,v1',v2',.bool s'.failed]):=
 ⟨setRow_heap _ _ _ _ _ _ h.x,ha.kept (KeepS.of_setRow _ _ _ hQ)⟩
structure CQ (Q:Nat→Prop) (X:Nat) (a b c d e f g:Value) (C:Ck) (W:World):Prop where
 x:W.heap[X]?=some (.cells #[a,b,c,d,e,f,g] 30 (0,0))
 a:CkAt W Q a b c d e f g C
theorem CQ.step (h:CQ Q X a b c d e f g C W) (hb:Below W.heap.size W W'):CQ Q X a b c d e f g C W':=⟨bk_step h.x hb,h.a.step hb⟩
theorem CQ.gb {r:Option Nat} (h:CQ Q X a b c d e f g C W) (hg:W.grownBy W' r) (hr:∀b,r=some b→X≠b∧¬Q b):CQ Q X a b c d e f g C W':=
 ⟨(hg.block X (bk_lt h.x) (fun e=>(hr X e.symm).1 rfl)).trans h.x,h.a.kept ⟨hg.size,fun z hz hl=>hg.block z hl (fun e=>(hr z e.symm).2 hz)⟩⟩
theorem TpP.row {w:World} {t Z:Nat} (h:TpP w t W) (hz:w.heap.size≤Z∧Z≠t) (cs:Array Value):TpP w t (W.setRow Z cs):=h.gb (gb_setRow W Z cs) (fun k hk=>by injection hk with hk;subst hk;exact hz)
end
structure LSy (w:World) (t X Y:Nat) (v1 v2:Value) (s:Sy) (a b c d e f g:Value) (C:Ck) (W:World):Prop where
 y:BP (fun z=>z≠t∧z≠Y) Y v1 v2 s W
 c:CQ (fun z=>z≠t∧z≠Y) X a b c d e f g C W
 tp:TpP w t W
 xt:X≠t
 yt:Y≠t
 xy:X≠Y
 wy:w.heap.size≤Y
section
variable {w W W':World} {t X Y:Nat} {v1 v2 v1' v2':Value} {s s':Sy} {a b c d e f g:Value} {C:Ck}
theorem LSy.step (h:LSy w t X Y v1 v2 s a b c d e f g C W) (hb:Below W.heap.size W W'):LSy w t X Y v1 v2 s a b c d e f g C W':=⟨h.y.step hb,h.c.step hb,h.tp.step hb,h.xt,h.yt,h.xy,h.wy⟩
theorem LSy.put (h:LSy w t X Y v1 v2 s a b c d e f g C W) (ha:SyA W (fun z=>z≠t∧z≠Y) v1' v2' s') :
  LSy w t X Y v1' v2' s' a b c d e f g C (W.setRow Y #[.int .i64 s'.file,.int .i64 s'.size,.int .i64 s'.stage,v1',v2',.bool s'.failed]):=
 ⟨h.y.put (fun h=>h.2 rfl) ha,h.c.gb (gb_setRow _ _ _) (fun b hb=>by injection hb with hb;subst hb;exact ⟨h.xy,fun h=>h.2 rfl⟩),h.tp.row ⟨h.wy,h.yt⟩ _,h.xt,h.yt,h.xy,h.wy⟩
theorem LSy.ge (h:LSy w t X Y v1 v2 s a b c d e f g C W):∀z,W.heap.size≤z→z≠t∧z≠Y:=fun z hz=>by have:=h.tp.lt;have:=bk_lt h.y.x;omega
theorem LSy.new {W0:World} (hc:CS t X a b c d e f g C W0) (hT:TpP w t W0) (hb:Below W0.heap.size W0 W) (ha:SyA W (fun z=>z≠t) v1 v2 s) :
  LSy w t X W.heap.size v1 v2 s a b c d e f g C ((W.alloc (oSZ)).setRow W.heap.size #[.int .i64 s.file,.int .i64 s.size,.int .i64 s.stage,v1,v2,.bool s.failed]):=by
 have hX:=bk_lt hc.x;have ht:=hT.lt;have hs:=hb.size;have hn:Below W.heap.size W ((W.alloc (oSZ)).setRow W.heap.size #[.int .i64 s.file,.int .i64 s.size,.int .i64 s.stage,v1,v2,.bool s.failed]):=bl_new _ _;refine ⟨BP.new ha (fun z hz h=>⟨h,by omega⟩),⟨bk_step (bk_step hc.x hb) hn,((hc.a.weak (S':=fun z=>z≠t∧z≠W.heap.size) (fun z hz h=>⟨h.1,by omega⟩)).step hb).step hn⟩,(hT.step hb).step hn,hc.ne,by omega,by omega,by have:=hT.2.1.size;omega⟩
end
end
end Go.Proofs.YthhekebemmckcaaGreatDoor
