/-
  Lemmas and contracts for the laws of synchronisations (layer 43), part 46; several texts joined by a program.
-/
import Derived.Test.YthhekebemmckcaaGreatDoorJ01
import Derived.Test.YthhekebemmckcaaGreatDoorJ16
import Derived.Test.YthhekebemmckcaaGreatDoorJ43
import Derived.Test.YthhekebemmckcaaGreatDoorJ44
import Derived.Deep.CutBlock
namespace Go.Proofs.YthhekebemmckcaaGreatDoor
set_option linter.unusedVariables false
set_option linter.unusedSimpArgs false
set_option maxRecDepth 100000
set_option maxHeartbeats 16000000
open Go.RowKit
section
def updB (f:Nat→Bool) (p:Nat) (b:Bool):Nat→Bool:=fun j=>if j=p then b else f j
theorem updB_self (f:Nat→Bool) (p:Nat) (b:Bool):updB f p b p=b:=by unfold updB;rw [if_pos rfl]
theorem updB_ne (f:Nat→Bool) {p j:Nat} (b:Bool) (h:j≠p):updB f p b j=f j:=by unfold updB;rw [if_neg h]
theorem asc_ext {l m:List Int} (hl:l.Pairwise (·<·)) (hm:m.Pairwise (·<·)) (h:∀x,x ∈ l↔x ∈ m):l=m:=by
 have nd:∀{l:List Int},l.Pairwise (·<·)→l.Nodup:=fun hl=>hl.imp (fun h=>by omega);refine List.Perm.eq_of_pairwise (le:=fun a b:Int=>a<b) (fun a b _ _ h1 h2=>by omega) hl hm ((List.perm_ext_iff_of_nodup (nd hl) (nd hm)).2 h)
theorem listP_iff {f:Nat→Bool} {k:Nat} {x:Int}:x ∈ listP f k↔∃j:Nat,j<k∧x=(j:Int)∧f j=true:=
 ⟨listP_mem,fun ⟨j,h1,e,h2⟩=>e ▸ (listP_in h1).2 h2⟩
theorem out_listP (f:Nat→Bool) (p k:Nat):outL (listP f k) (p:Int)=listP (updB f p false) k:=by
 refine asc_ext (outL_asc (listP_asc f k)) (listP_asc _ k) fun x=>?_;unfold outL;rw [List.mem_filter,listP_iff,listP_iff,bne_iff_ne]
 constructor
 ·rintro ⟨⟨j,h1,rfl,h2⟩,hne⟩;exact ⟨j,h1,rfl,by rw [updB_ne f false (fun e=>hne (by rw [e]))];exact h2⟩
 ·rintro ⟨j,h1,rfl,h2⟩;have hne:j≠p:=fun e=>by subst e;rw [updB_self] at h2;cases h2
  exact ⟨⟨j,h1,rfl,by rwa [updB_ne f false hne] at h2⟩,by omega⟩
theorem put_listP (f:Nat→Bool) {p k:Nat} (hp:p<k):putL (p:Int) (listP f k)=listP (updB f p true) k:=by
 refine asc_ext (putL_asc (listP_asc f k)) (listP_asc _ k) fun x=>?_;rw [putL_mem,listP_iff,listP_iff]
 constructor
 ·rintro (rfl | ⟨j,h1,rfl,h2⟩)
  ·exact ⟨p,hp,rfl,updB_self _ _ _⟩
  ·refine ⟨j,h1,rfl,?_⟩
   by_cases e:j=p
   ·subst e;exact updB_self _ _ _
   ·rw [updB_ne f true e];exact h2
 ·rintro ⟨j,h1,rfl,h2⟩
  by_cases e:j=p
  ·exact .inl (by rw [e])
  ·exact .inr ⟨j,h1,rfl,by rwa [updB_ne f true e] at h2⟩
def cntY (f:Nat→Bool) (k:Nat):Nat:=(listP f k).length
theorem cntY_succ (f:Nat→Bool) (k:Nat):cntY f (k+1)=cntY f k+(if f k then 1 else 0):=by
 unfold cntY
 show (listP f k ++ _).length=_
 cases f k <;> simp
theorem cntY_congr {f g:Nat→Bool} {k:Nat} (h:∀j,j<k→f j=g j):cntY f k=cntY g k:=by unfold cntY;rw [listP_congr k h]
theorem cntY_le (f:Nat→Bool) (k:Nat):cntY f k≤k:=listP_len f k
theorem cntY_off (f:Nat→Bool) {p:Nat}:∀{k:Nat},p<k→f p=true→cntY (updB f p false) k+1=cntY f k
 | k+1,h,hf=>by
  rw [cntY_succ,cntY_succ]
  by_cases e:p=k
  ·subst e;rw [updB_self,hf,cntY_congr (fun j hj=>updB_ne f false (by omega))];simp
  ·rw [updB_ne f false (fun h=>e h.symm)];have:=cntY_off f (p:=p) (k:=k) (by omega) hf;omega
theorem cntY_zero {f:Nat→Bool} {k:Nat} (h:cntY f k=0) {j:Nat} (hj:j<k):f j=false:=by
 cases hf:f j with
 | false=>rfl
 | true=>
  have hm:=(listP_in (k:=k) hj).2 hf;unfold cntY at h;rw [List.eq_nil_of_length_eq_zero h] at hm
  cases hm
theorem cntY_none {f:Nat→Bool} {k:Nat} (h:∀j,j<k→f j=false):cntY f k=0:=by
 have:listP f k=[]:=List.eq_nil_iff_forall_not_mem.2 fun x hx=>by
  obtain ⟨j,h1,_,h2⟩:=listP_iff.1 hx;rw [h j h1] at h2;cases h2
 unfold cntY;rw [this]
 rfl
def orF (f g:Nat→Bool):Nat→Bool:=fun j=>f j||g j
def enS (i sz:Int) (f g:Nat→Bool) (fl:Bool):Sy:=⟨i,sz,1,listP f 8,listP g 8,fl⟩
theorem enS_ok (i sz:Int) (f g:Nat→Bool) (fl:Bool):SyOk (enS i sz f g fl):=⟨listP_asc _ _,listP_asc _ _,by have:=listP_len f 8;have:=listP_len g 8;show (listP f 8).length+(listP g 8).length≤16;omega⟩
theorem enS_ended (i sz:Int) (f g:Nat→Bool) (fl:Bool) {p:Nat} (hp:p<8) (er:Int) :
  endedS (enS i sz f g fl) p er=if g p then enS i sz f (updB g p false) (fl||er != 0) else enS i sz f g fl:=by
 unfold endedS
 cases hg:g p with
 | true=>
  rw [if_pos ⟨rfl,(listP_in hp).2 hg⟩,if_pos rfl]
  show (⟨i,sz,1,listP f 8,outL (listP g 8) p,fl||er != 0⟩:Sy)=_
  rw [out_listP]
  rfl
 | false=>
  rw [if_neg (fun h=>by have:=(listP_in hp).1 h.2;rw [hg] at this;cases this),if_neg (by simp)]
theorem enS_begun (i sz:Int) (f g:Nat→Bool) (fl:Bool) {p:Nat} (hp:p<8) (hf:f p=true) :
  begunS (enS i sz f g fl) p=enS i sz (updB f p false) (updB g p true) fl:=by
 unfold begunS;rw [if_pos ⟨rfl,(listP_in hp).2 hf⟩]
 show (⟨i,sz,1,outL (listP f 8) p,putL p (listP g 8),fl⟩:Sy)=_
 rw [out_listP,put_listP g hp]
 rfl
theorem enS_next (i sz:Int) (f g:Nat→Bool) (fl:Bool) (h:cntY (orF f g) 8≠0):nextS (enS i sz f g fl)=enS i sz f g fl:=by
 unfold nextS;refine if_neg fun ⟨_,h1,h2⟩=>h (cntY_none fun j hj=>?_);have a1:¬(j:Int) ∈ listP f 8:=fun hm=>by rw [show listP f 8=[] from h1] at hm;cases hm
 have a2:¬(j:Int) ∈ listP g 8:=fun hm=>by rw [show listP g 8=[] from h2] at hm;cases hm
 rw [listP_in hj] at a1 a2
 show (f j||g j)=false
 rw [Bool.eq_false_iff.2 a1,Bool.eq_false_iff.2 a2]
 rfl
theorem listP_none {f:Nat→Bool} {k:Nat} (h:cntY f k=0):listP f k=[]:=List.eq_nil_of_length_eq_zero h
theorem enS_end (i sz:Int) (f g:Nat→Bool) (fl:Bool) (h:cntY (orF f g) 8=0):nextS (enS i sz f g fl)=⟨i,sz,if fl then 3 else 2,[],[],fl⟩:=by
 have h1:listP f 8=[]:=listP_none (cntY_none fun j hj=>by have:=cntY_zero h hj;exact (Bool.or_eq_false_iff.1 this).1);have h2:listP g 8=[]:=listP_none (cntY_none fun j hj=>by have:=cntY_zero h hj;exact (Bool.or_eq_false_iff.1 this).2);unfold nextS enS;rw [h1,h2,if_pos ⟨rfl,rfl,rfl⟩]
def rkP (a b:Bool):Nat:=(if a then 2 else 0)+(if b then 1 else 0)
def visP (k p:Nat):Nat:=(k - 40+7 - p) / 8
def EnOk (k:Nat) (f g:Nat→Bool):Prop:=∀p,p<8→rkP (f p) (g p)+visP k p≤3∨rkP (f p) (g p)=0
theorem rkP_le (a b:Bool):rkP a b≤3:=by cases a <;> cases b <;> simp [rkP]
theorem EnOk.start (f g:Nat→Bool):EnOk 0 f g:=fun p hp=>by
 have:=rkP_le (f p) (g p);have:visP 0 p=0:=by unfold visP;omega
 omega
theorem EnOk.next {k:Nat} {f g f' g':Nat→Bool} (h:EnOk k f g) {p:Nat} (hp:40≤k→p=k % 8) (h1:rkP (f' p) (g' p)+1≤rkP (f p) (g p)∨rkP (f' p) (g' p)=0) (h2:∀j,j≠p→f' j=f j∧g' j=g j):EnOk (k+1) f' g':=fun j hj=>by
 have a:=h j hj;have b:=rkP_le (f j) (g j)
 by_cases hk:40≤k
 ·have:=hp hk
  by_cases e:j=p
  ·subst e;have:visP (k+1) j≤visP k j+1:=by unfold visP;omega
   rcases h1 with h1 | h1
   ·omega
   ·exact .inr h1
  ·rw [(h2 j e).1,(h2 j e).2];have:visP (k+1) j=visP k j:=by unfold visP;omega
   rw [this];exact a
 ·have:visP (k+1) j=0:=by unfold visP;omega
  have:=rkP_le (f' j) (g' j);omega
theorem EnOk.few {k:Nat} {f g:Nat→Bool} (h:EnOk k f g) (hl:cntY (orF f g) 8≠0):k<64:=by
 refine Nat.lt_of_not_le fun hk=>hl (cntY_none fun j hj=>?_);have hv:3≤visP k j:=by unfold visP;omega
 have h0:rkP (f j) (g j)=0:=by rcases h j hj with h | h <;> omega
 show (f j||g j)=false
 cases hf:f j <;> cases hg:g j <;> simp [rkP,hf,hg] at h0 ⊢
theorem orF_ended {f g:Nat→Bool} {p:Nat} (hp:p<8) (hg:g p=true):cntY (orF f (updB g p false)) 8+(if f p then 0 else 1)=cntY (orF f g) 8:=by
 cases hf:f p with
 | true=>
  rw [if_pos rfl];refine cntY_congr fun j hj=>?_
  show (f j||updB g p false j)=(f j||g j)
  by_cases e:j=p
  ·subst e;rw [hf];rfl
  ·rw [updB_ne g false e]
 | false=>
  rw [if_neg (by simp),←cntY_off (orF f g) hp (show (f p||g p)=true by rw [hg,Bool.or_true])]
  congr 1
  refine cntY_congr fun j hj=>?_
  by_cases e:j=p
  ·subst e;rw [updB_self]
   show (f j||updB g j false j)=false
   rw [hf,updB_self]
   rfl
  ·rw [updB_ne _ false e]
   show (f j||updB g p false j)=(f j||g j)
   rw [updB_ne g false e]
theorem orF_begun {f g:Nat→Bool} {p:Nat} (hf:f p=true):cntY (orF (updB f p false) (updB g p true)) 8=cntY (orF f g) 8:=by
 refine cntY_congr fun j hj=>?_
 show (updB f p false j||updB g p true j)=(f j||g j)
 by_cases e:j=p
 ·subst e;rw [updB_self,updB_self,hf];rfl
 ·rw [updB_ne f false e,updB_ne g true e]
def firstF (f:Nat→Bool) (k:Nat):Nat→Bool:=fun j=>decide (j<k)&&f j
theorem firstF_succ (f:Nat→Bool) (k:Nat):firstF f (k+1)=updB (firstF f k) k (f k):=by
 funext j
 unfold firstF updB
 by_cases e:j=k
 ·subst e;rw [if_pos rfl,dT (by omega)];rfl
 ·rw [if_neg e]
  show (decide (j<k+1)&&f j)=(decide (j<k)&&f j)
  by_cases h:j<k
  ·rw [decide_eq_true h,dT (by omega)]
  ·rw [decide_eq_false h,dF (by omega)]
theorem firstF_same {f:Nat→Bool} {k:Nat} (h:f k=false):firstF f (k+1)=firstF f k:=by
 rw [firstF_succ]
 funext j
 by_cases e:j=k
 ·subst e;rw [updB_self,h];unfold firstF;rw [dF (by omega)];rfl
 ·rw [updB_ne _ _ e]
theorem firstF_all {f:Nat→Bool} {j:Nat} (h:j<8):firstF f 8 j=f j:=by unfold firstF;rw [decide_eq_true h];rfl
end
section
def arrB (f:Nat→Bool):Array Value:=#[.bool (f 0),.bool (f 1),.bool (f 2),.bool (f 3),.bool (f 4),.bool (f 5),.bool (f 6),.bool (f 7)]
theorem arrB_get (f:Nat→Bool) {p:Nat} (h:p<8):(arrB f)[p]?=some (.bool (f p)):=by
 match p,h with
 | 0,_ | 1,_ | 2,_ | 3,_ | 4,_ | 5,_ | 6,_ | 7,_=>rfl
theorem arrB_set (f:Nat→Bool) {p:Nat} (h:p<8) (b:Bool):(arrB f).setIfInBounds p (.bool b)=arrB (updB f p b):=by
 match p,h with
 | 0,_ | 1,_ | 2,_ | 3,_ | 4,_ | 5,_ | 6,_ | 7,_=>rfl
theorem arrB_congr {f g:Nat→Bool} (h:∀j,j<8→f j=g j):arrB f=arrB g:=by
 unfold arrB;rw [h 0 (by omega),h 1 (by omega),h 2 (by omega),h 3 (by omega),h 4 (by omega),h 5 (by omega),h 6 (by omega),h 7 (by omega)]
def BA (T:Nat) (f:Nat→Bool) (W:World):Prop:=W.heap[T]?=some (.cells (arrB f) 49 (0,0))
theorem BA.cell {T:Nat} {f:Nat→Bool} {W:World} (h:BA T f W) {p:Nat} (hp:p<8):W.cell? ⟨T,p,none⟩=some (.bool (f p)):=by rw [cells_at h];exact arrB_get f hp
theorem BA.set {T:Nat} {f:Nat→Bool} {W:World} (h:BA T f W) {p:Nat} (hp:p<8) (b:Bool):BA T (updB f p b) (W.setCell ⟨T,p,none⟩ (.bool b)):=by
 have:=set_same h (i:=p) (.bool b);rw [arrB_set f hp b] at this;exact this
structure EN (w:World) (t Y T G:Nat) (Q:Nat→Prop) (v1 v2:Value) (s:Sy) (f g:Nat→Bool) (W:World):Prop where
 b:LB w t Y Q v1 v2 s W
 ta:BA T f W
 ga:BA G g W
 qT:¬Q T
 qG:¬Q G
 TG:T≠G
 Tt:T≠t
 Gt:G≠t
 TY:T≠Y
 GY:G≠Y
 wT:w.heap.size≤T
 wG:w.heap.size≤G
 ge:∀z,W.heap.size≤z→Q z
section
variable {w W W':World} {t Y T G X:Nat} {Q:Nat→Prop} {v1 v2 v1' v2':Value} {s s':Sy} {f g:Nat→Bool} {a b c d e h k:Value} {C:Ck}
theorem EN.step (E:EN w t Y T G Q v1 v2 s f g W) (hb:Below W.heap.size W W'):EN w t Y T G Q v1 v2 s f g W':=
 ⟨E.b.step hb,bk_step E.ta hb,bk_step E.ga hb,E.qT,E.qG,E.TG,E.Tt,E.Gt,E.TY,E.GY,E.wT,E.wG,fun z hz=>E.ge z (Nat.le_trans hb.size hz)⟩
theorem EN.read (E:EN w t Y T G Q v1 v2 s f g W) (hg:W.grownBy W' (some t)) (hT:TpP w t W'):EN w t Y T G Q v1 v2 s f g W':=
 ⟨E.b.read hg hT,gb_block hg E.Tt E.ta,gb_block hg E.Gt E.ga,E.qT,E.qG,E.TG,E.Tt,E.Gt,E.TY,E.GY,E.wT,E.wG,fun z hz=>E.ge z (Nat.le_trans hg.size hz)⟩
theorem EN.put (E:EN w t Y T G Q v1 v2 s f g W) (ha:SyA W Q v1' v2' s'):EN w t Y T G Q v1' v2' s' f g (W.setRow Y #[.int .i64 s'.file,.int .i64 s'.size,.int .i64 s'.stage,v1',v2',.bool s'.failed]):=
 ⟨E.b.put ha,(setRow_other _ _ _ _ E.TY).trans E.ta,(setRow_other _ _ _ _ E.GY).trans E.ga,E.qT,E.qG,E.TG,E.Tt,E.Gt,E.TY,E.GY,E.wT,E.wG,fun z hz=>E.ge z (by simpa [World.setRow] using hz)⟩
theorem LB.cell {Z:Nat} (L:LB w t Y Q v1 v2 s W) (hz:Y≠Z) (hQ:¬Q Z) (ht:w.heap.size≤Z∧Z≠t) (i:Nat) (v:Value):LB w t Y Q v1 v2 s (W.setCell ⟨Z,i,none⟩ v):=
 ⟨L.y.gb (grownBy_setCell W ⟨Z,i,none⟩ v) (fun b hb=>by injection hb with hb;subst hb;exact ⟨hz,hQ⟩),L.tp.gb (grownBy_setCell W ⟨Z,i,none⟩ v) (fun k hk=>by injection hk with hk;subst hk;exact ht),L.qt,L.qy,L.yt,L.wy⟩
theorem EN.setT (E:EN w t Y T G Q v1 v2 s f g W) {p:Nat} (hp:p<8) (b:Bool):EN w t Y T G Q v1 v2 s (updB f p b) g (W.setCell ⟨T,p,none⟩ (.bool b)):=
 ⟨E.b.cell (Ne.symm E.TY) E.qT ⟨E.wT,E.Tt⟩ _ _,E.ta.set hp b,(Below.heap_setCell W ⟨T,p,none⟩ (.bool b) G (Ne.symm E.TG)).trans E.ga,E.qT,E.qG,E.TG,E.Tt,E.Gt,E.TY,E.GY,E.wT,E.wG,fun z hz=>E.ge z (by simpa [World.setCell] using hz)⟩
theorem EN.setG (E:EN w t Y T G Q v1 v2 s f g W) {p:Nat} (hp:p<8) (b:Bool):EN w t Y T G Q v1 v2 s f (updB g p b) (W.setCell ⟨G,p,none⟩ (.bool b)):=
 ⟨E.b.cell (Ne.symm E.GY) E.qG ⟨E.wG,E.Gt⟩ _ _,(Below.heap_setCell W ⟨G,p,none⟩ (.bool b) T E.TG).trans E.ta,E.ga.set hp b,E.qT,E.qG,E.TG,E.Tt,E.Gt,E.TY,E.GY,E.wT,E.wG,fun z hz=>E.ge z (by simpa [World.setCell] using hz)⟩
theorem EN.congr (E:EN w t Y T G Q v1 v2 s f g W) {f' g':Nat→Bool} (hf:∀j,j<8→f j=f' j) (hg:∀j,j<8→g j=g' j):EN w t Y T G Q v1 v2 s f' g' W:=
 ⟨E.b,by unfold BA;rw [←arrB_congr hf];exact E.ta,by unfold BA;rw [←arrB_congr hg];exact E.ga,E.qT,E.qG,E.TG,E.Tt,E.Gt,E.TY,E.GY,E.wT,E.wG,E.ge⟩
theorem CQ.cell {Z:Nat} (H:CQ Q X a b c d e h k C W) (hz:X≠Z) (hQ:¬Q Z) (i:Nat) (v:Value):CQ Q X a b c d e h k C (W.setCell ⟨Z,i,none⟩ v):=
 H.gb (grownBy_setCell W ⟨Z,i,none⟩ v) (fun b hb=>by injection hb with hb;subst hb;exact ⟨hz,hQ⟩)
theorem EN.new (L:LB w t Y (fun z=>z≠t∧z≠Y) v1 v2 s W) :
  EN w t Y W.heap.size (W.heap.size+1) (fun z=>z≠t∧z≠Y∧z≠W.heap.size∧z≠W.heap.size+1) v1 v2 s (fun _=>false) (fun _=>false) ((W.alloc (.cells (arrB fun _=>false) 49 (0,0))).alloc (.cells (arrB fun _=>false) 49 (0,0))):=by
 have hY:=bk_lt L.y.x;have ht:=L.tp.lt;have hw:=L.tp.2.1.size;refine ⟨(L.weak (Q':=fun z=>z≠t∧z≠Y∧z≠W.heap.size∧z≠W.heap.size+1) (fun z hz h=>⟨h.1,h.2,by omega,by omega⟩) (fun h=>h.1 rfl) (fun h=>h.2.1 rfl)).step (bl_alloc (bl_alloc B_ _) _),bk_alloc (heap_alloc_at W _) _,heap_at_new (W.alloc _) _ (W.heap.size+1) (by simp),fun h=>h.2.2.1 rfl,fun h=>h.2.2.2 rfl,by omega,by omega,by omega,by omega,by omega,hw,by omega,fun z hz=>?_⟩;simp at hz;omega
end
end
section
theorem syncerEnds_walk (a0:Option Addr) (len0 cap0:Nat) (z0:List Int) (a1:Option Addr) (len1 cap1:Nat) (z1:List Int) (w:World) (w0:IsRow .i64 w a0 len0 cap0 z0) (w1:IsRow .i64 w a1 len1 cap1 z1) (hbt:BitsAt w) :
  Calls Tryz.prog 4 #[.slice a0 len0 cap0,.slice a1 len1 cap1] w fun e w'=>e = .returned (.bool true)∧Below w.heap.size w w':=by
 have HT:=H_ (Tp.start w0);have HR1:=H_ w1;have HBT:=H_ (fun w' (hb:Below w.heap.size w w')=>hbt.step hb);clear w0 w1 hbt;go_enter Tryz.func4,Tryz.ntmps4
 go_upto_region 1 with fail
 go_cut [5] (fun s5 wx=>∃X a b c d e f g C,s5 = .pointer (some ⟨X,0,none⟩)∧w.heap.size≤X∧Inv 3 2 2 C∧CS w.heap.size X a b c d e f g C wx∧Below w.heap.size w wx)
 case first=>
  as_aux_lemma=>
  go_wp2_with (first
   | (go_at_call 6;go_loud (refine CM (cache_t w _ _ HT.out) ?_);rintro e w3 ⟨C,a1,b1,c1,d1,e1,f1,g1,hI,rfl,hc1,hT3,hg3⟩;obtain ⟨E1,uu1,n1,E2,uu2,n2,E3,uu3,n3,E4,uu4,n4,E5,uu5,n5,E6,uu6,n6,E7,uu7,n7,rfl,rfl,rfl,rfl,rfl,rfl,rfl⟩:=CkAt.caps hc1;have HC3:=H_ hc1;have HT3:=H_ hT3;have HI:=H_ hI;have HZ:=H_ (heap_at_new w3 (oCZ) w3.heap.size rfl);clear hc1 hT3 hI hg3)
   | (refine st_ck rfl (.tmp 5) (.tmp 27) rfl rfl w3.heap.size rfl rfl HZ.out rfl ?_))
  go_meet
  case rel=>exact ⟨w3.heap.size,_,_,_,_,_,_,_,C,rfl,by have:=HT3.out.lt;omega,HI.out,CS.new HC3.out HT3.out.lt,HT3.out.below.trans ((bl_new _ _).mono (by have:=HT3.out.below.size;omega))⟩
 case rest=>
  clear HT;obtain ⟨X,a,b,c,d,e,f,g,C,rfl,hX,hI,hc,hb⟩:=hcut;have HI:=H_ hI;have HC:=H_ hc;have HB:=H_ hb;clear hI hc hb
  go_upto_region 2 with fail
  go_cut [6] (fun s6 wx=>∃t,s6 = .pointer (some ⟨t,0,none⟩)∧TpP w t wx∧CS t X a b c d e f g C wx)
  case first=>
   as_aux_lemma=>
   go_wp2;go_meet
   case rel=>exact ⟨wc.heap.size,rfl,TpP.start HR1.out HB.out,HC.out.retape _⟩
  case rest=>
   clear HC HB HR1;obtain ⟨t,rfl,hT,hc⟩:=hcut;have HT:=H_ hT;obtain ⟨E1,uu1,n1,rfl⟩:=hc.a.files.cap;have e1:uu1=C.files.length:=by obtain ⟨_,_,e3,_,_⟩:=hc.a.files.form;injection e3
   have E1':=H_ e1;have e2:1≤uu1∧uu1≤3:=by rw [e1,HI.out.nf];omega
   have HC:=H_ hc;clear hT hc e1;have hx:=HC.out.x;have x0:=cs1 hx;clear hx
   go_upto_region 3 with fail
   go_cut [7] (fun s7 wx=>∃k:Nat,s7 = .int .i64 (k:Int)∧k<uu1∧TpP w t wx∧CS t X (.slice E1 uu1 n1) b c d e f g C wx)
   case first=>
    as_aux_lemma=>
    go_wp2_with (go_at_call 7;go_loud (refine CM (next_p (uu1:Int) w _ t (by omega) (by omega) HT.out) ?_);rintro e w3 ⟨x,rfl,q0,q1,hT3,hg3⟩)
    obtain ⟨x,rfl⟩:=Int.eq_ofNat_of_zero_le q0;go_meet
    case rel=>exact ⟨x,rfl,by omega,hT3,HC.out.keep hg3⟩
   case rest=>
    clear HT HC x0;obtain ⟨k,rfl,hk,hT,hc⟩:=hcut;have HT:=H_ hT;obtain ⟨E2,uu2,n2,rfl⟩:=hc.a.frames.cap;obtain ⟨E3,uu3,n3,rfl⟩:=hc.a.zones.cap;obtain ⟨E4,uu4,n4,rfl⟩:=hc.a.groups.cap;obtain ⟨E5,uu5,n5,rfl⟩:=hc.a.lists.cap;obtain ⟨E6,uu6,n6,rfl⟩:=hc.a.clocks.cap;obtain ⟨E7,uu7,n7,rfl⟩:=hc.a.ptes.cap;have HC:=H_ hc;clear hT hc;obtain ⟨y,hy⟩:∃y,C.files[k]?=some y:=⟨_,List.getElem?_eq_getElem (by rw [←E1'.out];exact hk)⟩;have hst:=pStart_w C k y _ _ _ _ _ _ _ (fun z=>z≠t) wc HC.out.arg HI.out hy (HBT.out _ HT.out.2.1) (fun z hz=>by have:=HT.out.lt;omega);have HYY:=H_ hy;clear hy;obtain ⟨x0,x1,x2,x3,x4,x5,x6⟩:=cs7 HC.out.x
    go_upto_region 4 with fail
    go_cut [8,9] (fun s8 s9 wx=>∃Y v1 v2,s8 = .pointer (some ⟨Y,0,none⟩)∧s9 = .int .i64 0∧LSy w t X Y v1 v2 (startS C k y) (.slice E1 uu1 n1) (.slice E2 uu2 n2) (.slice E3 uu3 n3) (.slice E4 uu4 n4) (.slice E5 uu5 n5) (.slice E6 uu6 n6) (.slice E7 uu7 n7) C wx)
    case first=>
     as_aux_lemma=>
     have htw:=HT.out.lt
     go_wp2_with (first
      | (go_at_call 8;go_loud (refine CM hst ?_);rintro e w7 ⟨v1,v2,rfl,ha,hb7⟩;obtain ⟨A1,m1,c1,rfl⟩:=ha.t.cap;obtain ⟨A2,m2,c2,rfl⟩:=ha.g.cap;have HA:=H_ ha;have HB7:=H_ hb7;clear ha hb7;have HZ:=H_ (heap_at_new w7 (oSZ) w7.heap.size rfl))
      | (refine st_sy rfl (.tmp 8) (.tmp 40) rfl rfl w7.heap.size rfl rfl HZ.out rfl ?_))
     go_meet
     case rel=>exact ⟨w7.heap.size,_,_,rfl,rfl,LSy.new HC.out HT.out HB7.out HA.out⟩
    case rest=>
     clear HT HC x0 x1 x2 x3 x4 x5 x6 hst;obtain ⟨Y,v1,v2,rfl,rfl,hl⟩:=hcut;have HS:=H_ (show startS C k y=enS k y.size (todoC C y) (goingC C y) false from rfl);obtain ⟨F,hF⟩:∃F,F=todoC C y:=⟨_,rfl⟩;obtain ⟨G0,hG0⟩:∃G0,G0=goingC C y:=⟨_,rfl⟩;obtain ⟨sz,hsz⟩:∃sz,sz=y.size:=⟨_,rfl⟩;rw [HS.out,←hF,←hG0,←hsz] at hl;have HF:=H_ hF;have HG0:=H_ hG0;have HL:=H_ hl;clear hl hF hG0 hsz HS
     go_upto_region 7 with fail
     go_cut [10,11] (fun s10 s11 wx=>∃T G,s10 = .pointer (some ⟨T,0,none⟩)∧s11 = .pointer (some ⟨G,0,none⟩)∧X≠T∧X≠G∧EN w t Y T G (fun z=>z≠t∧z≠Y∧z≠T∧z≠G) v1 v2 (enS k sz F G0 false) (fun _=>false) (fun _=>false) wx∧CQ (fun z=>z≠t∧z≠Y∧z≠T∧z≠G) X (.slice E1 uu1 n1) (.slice E2 uu2 n2) (.slice E3 uu3 n3) (.slice E4 uu4 n4) (.slice E5 uu5 n5) (.slice E6 uu6 n6) (.slice E7 uu7 n7) C wx)
     case first=>
      as_aux_lemma=>
      go_wp2;go_meet
      case rel=>
       have hX:=bk_lt HL.out.c.x;have hE:=EN.new (W:=wc) ⟨HL.out.y,HL.out.tp,fun h=>h.1 rfl,fun h=>h.2 rfl,HL.out.yt,HL.out.wy⟩;refine ⟨wc.heap.size,wc.heap.size+1,rfl,by simp,by omega,by omega,hE,?_⟩;have hb:=bl_alloc (bl_alloc (Below.refl wc.heap.size wc) (.cells (arrB fun _=>false) 49 (0,0))) (.cells (arrB fun _=>false) 49 (0,0));exact ⟨bk_step HL.out.c.x hb,(HL.out.c.a.weak (S':=fun z=>z≠t∧z≠Y∧z≠wc.heap.size∧z≠wc.heap.size+1) (fun z hz h=>⟨h.1,h.2,by omega,by omega⟩)).step hb⟩
     case rest=>
      clear HL;obtain ⟨T,G,rfl,rfl,hXT,hXG,he,hc⟩:=hcut;have HE:=H_ he;have HC:=H_ hc;clear he hc
      go_upto_block 0 with fail
      go_cut [12] (fun s12 wx=>s12 = .int .i64 ((cntY (orF F G0) 8:Nat):Int)∧EN w t Y T G (fun z=>z≠t∧z≠Y∧z≠T∧z≠G) v1 v2 (enS k sz F G0 false) F G0 wx)
      case first=>
       as_aux_lemma=>
       go_wp2
       go_loopw [12,13] (fun s12 s13 wx=>∃j:Nat,s13 = .int .i64 (j:Int)∧s12 = .int .i64 ((cntY (orF F G0) j:Nat):Int)∧j≤8∧EN w t Y T G (fun z=>z≠t∧z≠Y∧z≠T∧z≠G) v1 v2 (enS k sz F G0 false) (firstF F j) (firstF G0 j) wx∧CQ (fun z=>z≠t∧z≠Y∧z≠T∧z≠G) X (.slice E1 uu1 n1) (.slice E2 uu2 n2) (.slice E3 uu3 n3) (.slice E4 uu4 n4) (.slice E5 uu5 n5) (.slice E6 uu6 n6) (.slice E7 uu7 n7) C wx) (fun _ s13 _=>8 - (intOf s13).toNat)
       case atStart=>exact ⟨0,rfl,rfl,by omega,HE.out.congr (fun j hj=>by unfold firstF;simp) (fun j hj=>by unfold firstF;simp),HC.out⟩
       case round=>
        as_aux_lemma=>
        clear HE HC;obtain ⟨j,rfl,rfl,hj,he,hc⟩:=hrel;have HE:=H_ he;have HC:=H_ hc;clear he hc;obtain ⟨cn,hcn⟩:∃cn,cn=cntY (orF F G0) j:=⟨_,rfl⟩;have hcn8:cn≤8:=by have:=cntY_le (orF F G0) j;omega
        have HCN:=H_ hcn;rw [←hcn];clear hcn
        by_cases hlt:j<8
        ·have hfi:=find_w40 C k y j _ _ _ _ _ _ _ (fun z=>z≠t∧z≠Y∧z≠T∧z≠G) wr HC.out.a HYY.out;obtain ⟨gv,hgv⟩:∃gv,gv=getR y.c j:=⟨_,rfl⟩;obtain ⟨dj,hdj⟩:∃dj,dj=dirtyV C gv:=⟨_,rfl⟩;obtain ⟨gj,hgj⟩:∃gj,gj=writV C gv:=⟨_,rfl⟩;have HFK:=H_ (HI.out.find k y j HYY.out);rw [←hgv] at hfi HFK;have HDJ:=H_ hdj;have HGJ:=H_ hgj;have HFJ:=H_ (show F j=dj by rw [HF.out,hdj,hgv];rfl);have HGG:=H_ (show G0 j=gj by rw [HG0.out,hgj,hgv];rfl);clear hgv hdj hgj;have hx:=HC.out.x;obtain ⟨x0,x1,x2,x3,x4,x5,x6⟩:=cs7 hx;clear hx
         go_upto_region 12 with fail
         go_cut [14,15] (fun s14 s15 wx=>∃(m:Int) (b:Bool),s14 = .int .i64 m∧s15 = .bool b∧b=decide (0<gv)∧(0<gv→m=gv)∧EN w t Y T G (fun z=>z≠t∧z≠Y∧z≠T∧z≠G) v1 v2 (enS k sz F G0 false) (firstF F j) (firstF G0 j) wx∧CQ (fun z=>z≠t∧z≠Y∧z≠T∧z≠G) X (.slice E1 uu1 n1) (.slice E2 uu2 n2) (.slice E3 uu3 n3) (.slice E4 uu4 n4) (.slice E5 uu5 n5) (.slice E6 uu6 n6) (.slice E7 uu7 n7) C wx)
         case first=>
          as_aux_lemma=>
          unfold RetFd fdV at hfi
          by_cases hg0:gv≤0
          ·rw [if_pos hg0] at hfi;have HG0:=H_ hg0;clear hg0
           go_wp2_with (go_at_call 23;go_loud (refine CM hfi ?_);rintro e w7 ⟨rfl,hb7⟩)
           go_meet
           case rel=>exact ⟨_,_,rfl,rfl,(decide_eq_false (by have:=HG0.out;omega)).symm,fun h=>by have:=HG0.out;omega,HE.out.step hb7,HC.out.step hb7⟩
          ·rw [if_neg hg0] at hfi;have HG0:=H_ hg0;clear hg0
           go_wp2_with (go_at_call 23;go_loud (refine CM hfi ?_);rintro e w7 ⟨rfl,hb7⟩)
           go_meet
           case rel=>exact ⟨_,_,rfl,rfl,(decide_eq_true (by have:=HG0.out;omega)).symm,fun _=>rfl,HE.out.step hb7,HC.out.step hb7⟩
         case rest=>
          clear HE HC x0 x1 x2 x3 x4 x5 x6 hfi;obtain ⟨mv,bv,rfl,rfl,hbv,hmv,he,hc⟩:=hcut;have HE:=H_ he;have HC:=H_ hc;clear he hc
          by_cases hg0:gv≤0
          ·have hd:decide (0<gv)=false:=dF (by omega);have e1:F j=false:=by rw [HFJ.out,HDJ.out];unfold dirtyV;rw [hd];rfl
           have e2:G0 j=false:=by rw [HGG.out,HGJ.out];unfold writV;rw [hd];rfl
           have E1:=H_ (firstF_same e1);have E2:=H_ (firstF_same e2);have E3:=H_ (show cntY (orF F G0) (j+1)=cn by rw [cntY_succ,←HCN.out,show orF F G0 j=false by show (F j||G0 j)=false;rw [e1,e2];rfl];rfl);obtain rfl:bv=false:=hbv.trans hd;clear hd hg0 e1 e2 hbv hmv;go_wp2;go_roundw
           case rel=>exact ⟨j+1,by go_num,by rw [E3.out],by omega,by rw [E1.out,E2.out];exact HE.out,HC.out⟩
           case measure=>simp [intOf];omega
          ·obtain ⟨ix,x,hx1,hx2,hx3,hx4⟩:=HFK.out (by omega);have hd:decide (0<gv)=true:=dT (by omega);have e1:dj=(x.pg.dirty != 0):=by rw [HDJ.out];unfold dirtyV;rw [hd,show (gv - 1).toNat=ix by omega,hx2];rfl
           have e2:gj=(x.writing != 0):=by rw [HGJ.out];unfold writV;rw [hd,show (gv - 1).toNat=ix by omega,hx2];rfl
           obtain rfl:bv=true:=hbv.trans hd;obtain rfl:mv=gv:=hmv (by omega);clear hbv hmv;have i3:ix<uu2:=by have:=(g_l hx2);obtain ⟨_,_,e3,_,_⟩:=HC.out.a.frames.form;injection e3 with _ e3 _;omega
           have i4:(ix:Int)<(uu2:Int):=by omega
           have i5:ix<64:=by have:=(g_l hx2);have:=HI.out.nr.2;omega
           obtain rfl:mv=(ix:Int)+1:=by omega
           obtain ⟨dv,hdv⟩:∃dv,dv=x.pg.dirty:=⟨_,rfl⟩;obtain ⟨wv,hwv⟩:∃wv,wv=x.writing:=⟨_,rfl⟩;rw [←hdv] at e1;rw [←hwv] at e2;have HDV:=H_ hdv;have HWV:=H_ hwv;have HX2:=H_ hx2;have D1:=H_ e1;have D2:=H_ e2;clear hdv hwv hx1 hx2 hx3 hx4 hg0 hd e1 e2 HFK HDJ HGJ;obtain ⟨fb,fo,rfl,hfb,_,_,_,_,y4,_,_,_,y8⟩:=FrA.cells HC.out.a.frames HX2.out;rw [←HDV.out] at y4;clear y8;have hx:=HC.out.x;obtain ⟨x0,x1,x2,x3,x4,x5,x6⟩:=cs7 hx;clear hx;have tc:=HE.out.ta.cell hlt;have tf:=free_at HE.out.ta j
           go_upto_region 14 with fail
           go_cut [] (fun wx=>EN w t Y T G (fun z=>z≠t∧z≠Y∧z≠T∧z≠G) v1 v2 (enS k sz F G0 false) (updB (firstF F j) j dj) (firstF G0 j) wx∧CQ (fun z=>z≠t∧z≠Y∧z≠T∧z≠G) X (.slice E1 uu1 n1) (.slice (some ⟨fb,fo,none⟩) uu2 n2) (.slice E3 uu3 n3) (.slice E4 uu4 n4) (.slice E5 uu5 n5) (.slice E6 uu6 n6) (.slice E7 uu7 n7) C wx)
           case first=>
            as_aux_lemma=>
            go_wp2;go_meet
            case rel=>rw [D1.out];exact ⟨HE.out.setT hlt _,HC.out.cell hXT HE.out.qT _ _⟩
           case rest=>
            clear HE HC x0 x1 x2 x3 x4 x5 x6 y4 tc tf;obtain ⟨he,hc⟩:=hcut;have HE:=H_ he;have HC:=H_ hc;clear he hc;obtain ⟨fb',fo',e9,hfb',_,_,_,_,_,_,_,_,y8⟩:=FrA.cells HC.out.a.frames HX2.out;injection e9 with e9
            injection e9 with e9 e8
            subst e9 e8;rw [←HWV.out] at y8;have hx:=HC.out.x;obtain ⟨x0,x1,x2,x3,x4,x5,x6⟩:=cs7 hx;clear hx;have tc:=HE.out.ga.cell hlt;have tf:=free_at HE.out.ga j
            go_upto_region 15 with fail
            go_cut [] (fun wx=>EN w t Y T G (fun z=>z≠t∧z≠Y∧z≠T∧z≠G) v1 v2 (enS k sz F G0 false) (updB (firstF F j) j dj) (updB (firstF G0 j) j gj) wx∧CQ (fun z=>z≠t∧z≠Y∧z≠T∧z≠G) X (.slice E1 uu1 n1) (.slice (some ⟨fb,fo,none⟩) uu2 n2) (.slice E3 uu3 n3) (.slice E4 uu4 n4) (.slice E5 uu5 n5) (.slice E6 uu6 n6) (.slice E7 uu7 n7) C wx)
            case first=>
             as_aux_lemma=>
             go_wp2;go_meet
             case rel=>rw [D2.out];exact ⟨HE.out.setG hlt _,HC.out.cell hXG HE.out.qG _ _⟩
            case rest=>
             clear HE HC x0 x1 x2 x3 x4 x5 x6 y8 tc tf D1 D2 HDV HWV HX2;obtain ⟨he,hc⟩:=hcut;have HC:=H_ hc;have tc:=he.ta.cell hlt;have tg:=he.ga.cell hlt;rw [updB_self] at tc tg;have he2:=he;rw [←HFJ.out,←HGG.out,←firstF_succ,←firstF_succ] at he2;have HE:=H_ he2;have E3:=H_ (show cntY (orF F G0) (j+1)=cn+(if dj||gj then 1 else 0) by rw [cntY_succ,←HCN.out,←HFJ.out,←HGG.out];rfl);clear he he2 hc
             cases dj with
             | true=>
              go_wp2;go_roundw
              case rel=>exact ⟨j+1,by go_num,by rw [E3.out];simp,by omega,HE.out,HC.out⟩
              case measure=>simp [intOf];omega
             | false=>
              cases gj with
              | true=>
               go_wp2;go_roundw
               case rel=>exact ⟨j+1,by go_num,by rw [E3.out];simp,by omega,HE.out,HC.out⟩
               case measure=>simp [intOf];omega
              | false=>
               go_wp2;go_roundw
               case rel=>exact ⟨j+1,by go_num,by rw [E3.out];simp,by omega,HE.out,HC.out⟩
               case measure=>simp [intOf];omega
        ·obtain rfl:j=8:=by omega
         go_wp2;go_meet
         case rel=>exact ⟨by rw [HCN.out],HE.out.congr (fun j hj=>firstF_all hj) (fun j hj=>firstF_all hj)⟩
      case rest=>
       clear HE HC HI HYY HF HG0 E1';obtain ⟨rfl,he⟩:=hcut;have HE:=H_ he;clear he
       go_upto_block 2 with fail
       go_cut [12,16] (fun s12 s16 wx=>∃fl f g v1 v2,s12 = .int .i64 0∧s16 = .bool fl∧EN w t Y T G (fun z=>z≠t∧z≠Y∧z≠T∧z≠G) v1 v2 ⟨k,sz,if fl then 3 else 2,[],[],fl⟩ f g wx)
       case first=>
        as_aux_lemma=>
        go_wp2
        go_loopw [12,16,17] (fun s12 s16 s17 wx=>∃(n:Nat) (f g:Nat→Bool) (fl:Bool) (v1 v2:Value),s17 = .int .i64 (n:Int)∧s16 = .bool fl∧s12 = .int .i64 ((cntY (orF f g) 8:Nat):Int)∧n≤64∧EnOk n f g∧EN w t Y T G (fun z=>z≠t∧z≠Y∧z≠T∧z≠G) v1 v2 (enS k sz f g fl) f g wx) (fun _ _ s17 _=>200 - (intOf s17).toNat)
        case atStart=>exact ⟨0,F,G0,false,_,_,rfl,rfl,rfl,by omega,EnOk.start _ _,HE.out⟩
        case round=>
         as_aux_lemma=>
         clear HE;obtain ⟨n,f,g,fl,v1,v2,rfl,rfl,rfl,hn,hok,he⟩:=hrel;obtain ⟨A1,m1,c1,rfl⟩:=he.b.y.a.t.cap;obtain ⟨A2,m2,c2,rfl⟩:=he.b.y.a.g.cap;have HOK:=H_ hok;have HE:=H_ he;clear hok he;obtain ⟨cn,hcn⟩:∃cn,cn=cntY (orF f g) 8:=⟨_,rfl⟩;have hcn8:cn≤8:=by have:=cntY_le (orF f g) 8;omega
         have HCN:=H_ hcn;rw [←hcn];clear hcn;have hn2:n<200:=by omega
         have hnx:=pNext_w43 (enS k sz f g fl) _ _ (fun z=>z≠t∧z≠Y∧z≠T∧z≠G) wr HE.out.b.y.a HE.out.ge;have hx:=HE.out.b.y.x;(try dsimp only [enS] at hx);obtain ⟨x0,x1,x2,x3,x4,x5⟩:=cs6 hx;clear hx
         go_upto_region 22 with fail
         go_cut [] (fun wx=>∃v1 v2,EN w t Y T G (fun z=>z≠t∧z≠Y∧z≠T∧z≠G) v1 v2 (nextS (enS k sz f g fl)) f g wx)
         case first=>
          as_aux_lemma=>
          go_wp2_with (first
           | (go_at_call 18;go_loud (refine CM (hnx) ?_);rintro e w7 ⟨v1',v2',rfl,ha7,hb7⟩;obtain ⟨B1,m1',c1',rfl⟩:=ha7.t.cap;obtain ⟨B2,m2',c2',rfl⟩:=ha7.g.cap;have HA7:=H_ ha7;have HE7:=H_ (HE.out.step hb7);have hyy:=HE7.out.b.y.x;clear ha7 hb7)
           | (refine st_sy rfl (.tmp 8) (.tmp 93) rfl rfl Y rfl rfl hyy rfl ?_))
          go_meet
          case rel=>exact ⟨_,_,HE7.out.put HA7.out⟩
         case rest=>
          clear HE x0 x1 x2 x3 x4 x5 hnx;obtain ⟨v1,v2,he⟩:=hcut
          by_cases hc0:cn=0
          ·subst hc0;rw [enS_end _ _ _ _ _ HCN.out.symm] at he;have HE:=H_ he;clear he;go_wp2;go_meet
           case rel=>exact ⟨fl,f,g,_,_,rfl,rfl,HE.out⟩
          ·have hc1:cntY (orF f g) 8≠0:=by rw [←HCN.out];exact hc0
           rw [enS_next _ _ _ _ _ hc1] at he;have hn64:=HOK.out.few hc1;have dl:((cn:Int) == 0)=false:=beq_eq_false_iff_ne.2 (by omega);obtain ⟨A1,m1,c1,rfl⟩:=he.b.y.a.t.cap;obtain ⟨A2,m2,c2,rfl⟩:=he.b.y.a.g.cap;have HE:=H_ he;clear he hc1;have hx:=HE.out.b.y.x;(try dsimp only [enS] at hx);obtain ⟨x0,x1,x2,x3,x4,x5⟩:=cs6 hx;clear hx
           go_upto_region 26 with fail
           clear x0 x1 x2 x3 x4 x5
           go_cut [18] (fun s18 wx=>∃p:Nat,s18 = .int .i64 (p:Int)∧p<8∧EN w t Y T G (fun z=>z≠t∧z≠Y∧z≠T∧z≠G) (.slice A1 m1 c1) (.slice A2 m2 c2) (enS k sz f g fl) f g wx)
           case first=>
            as_aux_lemma=>
            go_wp2_with (go_at_call 7;go_loud (refine CM (next_p 8 w _ t (by omega) (by omega) HE.out.b.tp) ?_);rintro e w3 ⟨x,rfl,q0,q1,hT3,hg3⟩)
            obtain ⟨x,rfl⟩:=Int.eq_ofNat_of_zero_le q0;go_meet
            case rel=>exact ⟨x,rfl,by omega,HE.out.read hg3 hT3⟩
           case rest=>
            clear HE;obtain ⟨p,rfl,hp,he⟩:=hcut;have HE:=H_ he;clear he
            go_upto_region 27 with fail
            go_cut [106] (fun s106 wx=>∃q,s106 = .bool q∧(40≤n→q=true)∧EN w t Y T G (fun z=>z≠t∧z≠Y∧z≠T∧z≠G) (.slice A1 m1 c1) (.slice A2 m2 c2) (enS k sz f g fl) f g wx)
            case first=>
             as_aux_lemma=>
             by_cases h40:40≤n
             ·have d40:decide ((40:Int)≤(n:Int))=true:=dT (by omega)
              go_wp2_with (go_at_call 11;go_loud (refine CM (end_p w _ t HE.out.b.tp) ?_);rintro e w3 ⟨q,rfl,hb3⟩;cases q)
              all_goals go_meet
              all_goals exact ⟨_,rfl,fun _=>rfl,HE.out.step hb3⟩
             ·have d40:decide ((40:Int)≤(n:Int))=false:=dF (by omega)
              go_wp2_with (go_at_call 11;go_loud (refine CM (end_p w _ t HE.out.b.tp) ?_);rintro e w3 ⟨q,rfl,hb3⟩;cases q)
              all_goals go_meet
              all_goals exact ⟨_,rfl,fun h=>absurd h h40,HE.out.step hb3⟩
            case rest=>
             clear HE;obtain ⟨q,rfl,hq,he⟩:=hcut;have HE:=H_ he;clear he
             go_upto_if 106 with fail
             go_cut [18] (fun s18 wx=>∃p:Nat,s18 = .int .i64 (p:Int)∧p<8∧(40≤n→p=n % 8)∧EN w t Y T G (fun z=>z≠t∧z≠Y∧z≠T∧z≠G) (.slice A1 m1 c1) (.slice A2 m2 c2) (enS k sz f g fl) f g wx)
             case first=>
              as_aux_lemma=>
              cases q with
              | false=>
               go_wp2;go_meet
               case rel=>exact ⟨p,rfl,hp,fun h=>(by have:=hq h;cases this),HE.out⟩
              | true=>
               clear hq;go_wp2;go_meet
               case rel=>exact ⟨n % 8,by go_num,by omega,fun _=>rfl,HE.out⟩
             case rest=>
              clear HE hq hp p;obtain ⟨p,rfl,hp,hk40,he⟩:=hcut;have HE:=H_ he;have HK:=H_ hk40;clear he hk40;obtain ⟨fp,hfp⟩:∃fp,fp=f p:=⟨_,rfl⟩;obtain ⟨gp,hgp⟩:∃gp,gp=g p:=⟨_,rfl⟩;have HFP:=H_ hfp;have HGP:=H_ hgp;clear hfp hgp
              cases gp with
              | true=>
               as_aux_lemma=>
               have tc:=HE.out.ta.cell hp;have gc:=HE.out.ga.cell hp;rw [←HFP.out] at tc;rw [←HGP.out] at gc
               go_upto_region 30 with fail
               go_cut [19] (fun s19 wx=>∃er:Int,s19 = .int .i64 er∧EN w t Y T G (fun z=>z≠t∧z≠Y∧z≠T∧z≠G) (.slice A1 m1 c1) (.slice A2 m2 c2) (enS k sz f g fl) f g wx)
               case first=>
                clear tc gc
                go_wp2_with (go_at_call 7;go_loud (refine CM (next_p 3 w _ t (by omega) (by omega) (HE.out.b.tp.step (bl_alloc B_ _))) ?_);rintro e w3 ⟨x,rfl,q0,q1,hT3,hg3⟩;obtain ⟨x,rfl⟩:=Int.eq_ofNat_of_zero_le q0;obtain ⟨y3,hy3,hc3⟩:=row_at (l:=errL) (t:=38) (gb_block hg3 (by have:=HE.out.b.tp.lt;omega) (heap_alloc_new _ _)) (show x<errL.length by show x<3;omega);clear hy3)
                go_meet
                case rel=>exact ⟨_,rfl,(HE.out.step (bl_alloc B_ _)).read hg3 hT3⟩
               case rest=>
                clear HE tc gc;obtain ⟨er,rfl,he⟩:=hcut;have HE:=H_ he;clear he;have hx:=HE.out.b.y.x;(try dsimp only [enS] at hx);obtain ⟨x0,x1,x2,x3,x4,x5⟩:=cs6 hx;clear hx;have hen:=pEnded_w (enS k sz f g fl) p er _ _ (fun z=>z≠t∧z≠Y∧z≠T∧z≠G) wc HE.out.b.y.a HE.out.ge;rw [enS_ended _ _ _ _ _ hp,←HGP.out] at hen;rw [if_pos rfl] at hen
                go_upto_region 31 with fail
                go_cut [] (fun wx=>∃v1 v2,EN w t Y T G (fun z=>z≠t∧z≠Y∧z≠T∧z≠G) v1 v2 (enS k sz f (updB g p false) (fl||er != 0)) f g wx)
                case first=>
                 go_wp2_with (first
                  | (go_at_call 14;go_loud (refine CM (hen) ?_);rintro e w7 ⟨v1',v2',rfl,ha7,hb7⟩;obtain ⟨B1,m1',c1',rfl⟩:=ha7.t.cap;obtain ⟨B2,m2',c2',rfl⟩:=ha7.g.cap;have HA7:=H_ ha7;have HE7:=H_ (HE.out.step hb7);have hyy:=HE7.out.b.y.x;clear ha7 hb7)
                  | (refine st_sy rfl (.tmp 8) (.tmp 126) rfl rfl Y rfl rfl hyy rfl ?_))
                 go_meet
                 case rel=>exact ⟨_,_,HE7.out.put HA7.out⟩
                case rest=>
                 clear HE x0 x1 x2 x3 x4 x5 hen;obtain ⟨v1,v2,he⟩:=hcut;have HE:=H_ he;clear he;have gc:=HE.out.ga.cell hp;have gf:=free_at HE.out.ga p;rw [←HGP.out] at gc
                 go_upto_region 33 with fail
                 go_cut [] (fun wx=>EN w t Y T G (fun z=>z≠t∧z≠Y∧z≠T∧z≠G) v1 v2 (enS k sz f (updB g p false) (fl||er != 0)) f (updB g p false) wx)
                 case first=>
                  go_wp2;go_meet
                  case rel=>exact HE.out.setG hp false
                 case rest=>
                  clear HE gc gf;have HE:=H_ hcut;clear hcut;have tc:=HE.out.ta.cell hp;rw [←HFP.out] at tc;have HZ:=H_ (HOK.out.next (p:=p) (f':=f) (g':=updB g p false) HK.out (.inl (by rw [updB_self,←HFP.out,←HGP.out];cases fp <;> decide)) (fun j hj=>⟨rfl,updB_ne _ _ hj⟩));have hcc:=orF_ended (f:=f) hp HGP.out.symm;rw [←HFP.out,←HCN.out] at hcc;obtain ⟨c2',hc2'⟩:∃c2',c2'=cntY (orF f (updB g p false)) 8:=⟨_,rfl⟩;rw [←hc2'] at hcc;have HC2:=H_ hc2';clear hc2'
                  cases fp with
                  | true=>
                   simp only [Bool.false_eq_true,if_true,if_false] at hcc
                   cases fl with
                   | true=>
                    go_wp2;go_roundw
                    case rel=>exact ⟨n+1,f,_,true,_,_,by go_num,rfl,by rw [←HC2.out];go_num,by omega,HZ.out,by simpa using HE.out⟩
                    case measure=>simp [intOf];omega
                   | false=>
                    go_wp2;go_roundw
                    case rel=>exact ⟨n+1,f,_,(er != 0),_,_,by go_num,rfl,by rw [←HC2.out];go_num,by omega,HZ.out,by simpa using HE.out⟩
                    case measure=>simp [intOf];omega
                  | false=>
                   simp only [Bool.false_eq_true,if_true,if_false] at hcc
                   cases fl with
                   | true=>
                    go_wp2;go_roundw
                    case rel=>exact ⟨n+1,f,_,true,_,_,by go_num,rfl,by rw [←HC2.out];go_num,by omega,HZ.out,by simpa using HE.out⟩
                    case measure=>simp [intOf];omega
                   | false=>
                    go_wp2;go_roundw
                    case rel=>exact ⟨n+1,f,_,(er != 0),_,_,by go_num,rfl,by rw [←HC2.out];go_num,by omega,HZ.out,by simpa using HE.out⟩
                    case measure=>simp [intOf];omega
              | false=>
               cases fp with
               | false=>
                as_aux_lemma=>
                have tc:=HE.out.ta.cell hp;have gc:=HE.out.ga.cell hp;rw [←HFP.out] at tc;rw [←HGP.out] at gc
                go_upto_region 30 with fail
                go_cut [19] (fun s19 wx=>∃er:Int,s19 = .int .i64 er∧EN w t Y T G (fun z=>z≠t∧z≠Y∧z≠T∧z≠G) (.slice A1 m1 c1) (.slice A2 m2 c2) (enS k sz f g fl) f g wx)
                case first=>
                 clear tc gc
                 go_wp2_with (go_at_call 7;go_loud (refine CM (next_p 3 w _ t (by omega) (by omega) (HE.out.b.tp.step (bl_alloc B_ _))) ?_);rintro e w3 ⟨x,rfl,q0,q1,hT3,hg3⟩;obtain ⟨x,rfl⟩:=Int.eq_ofNat_of_zero_le q0;obtain ⟨y3,hy3,hc3⟩:=row_at (l:=errL) (t:=38) (gb_block hg3 (by have:=HE.out.b.tp.lt;omega) (heap_alloc_new _ _)) (show x<errL.length by show x<3;omega);clear hy3)
                 go_meet
                 case rel=>exact ⟨_,rfl,(HE.out.step (bl_alloc B_ _)).read hg3 hT3⟩
                case rest=>
                 clear HE tc gc;obtain ⟨er,rfl,he⟩:=hcut;have HE:=H_ he;clear he;have hx:=HE.out.b.y.x;(try dsimp only [enS] at hx);obtain ⟨x0,x1,x2,x3,x4,x5⟩:=cs6 hx;clear hx;have hen:=pEnded_w (enS k sz f g fl) p er _ _ (fun z=>z≠t∧z≠Y∧z≠T∧z≠G) wc HE.out.b.y.a HE.out.ge;rw [enS_ended _ _ _ _ _ hp,←HGP.out] at hen;rw [if_neg (by simp)] at hen
                 go_upto_region 31 with fail
                 go_cut [] (fun wx=>∃v1 v2,EN w t Y T G (fun z=>z≠t∧z≠Y∧z≠T∧z≠G) v1 v2 (enS k sz f g fl) f g wx)
                 case first=>
                  go_wp2_with (first
                   | (go_at_call 14;go_loud (refine CM (hen) ?_);rintro e w7 ⟨v1',v2',rfl,ha7,hb7⟩;obtain ⟨B1,m1',c1',rfl⟩:=ha7.t.cap;obtain ⟨B2,m2',c2',rfl⟩:=ha7.g.cap;have HA7:=H_ ha7;have HE7:=H_ (HE.out.step hb7);have hyy:=HE7.out.b.y.x;clear ha7 hb7)
                   | (refine st_sy rfl (.tmp 8) (.tmp 126) rfl rfl Y rfl rfl hyy rfl ?_))
                  go_meet
                  case rel=>exact ⟨_,_,HE7.out.put HA7.out⟩
                 case rest=>
                  clear HE x0 x1 x2 x3 x4 x5 hen;obtain ⟨v1,v2,he⟩:=hcut;have HE:=H_ he;clear he;have gc:=HE.out.ga.cell hp;rw [←HGP.out] at gc;have HZ:=H_ (HOK.out.next (p:=p) HK.out (.inr (by rw [←HFP.out,←HGP.out];rfl)) (fun j hj=>⟨rfl,rfl⟩));go_wp2;go_roundw
                  case rel=>exact ⟨n+1,f,g,fl,_,_,by go_num,rfl,by rw [HCN.out],by omega,HZ.out,HE.out⟩
                  case measure=>simp [intOf];omega
               | true=>
                as_aux_lemma=>
                have tc:=HE.out.ta.cell hp;have gc:=HE.out.ga.cell hp;rw [←HFP.out] at tc;rw [←HGP.out] at gc
                go_upto_region 37 with fail
                clear tc gc;have hbe:=pBegun_w (enS k sz f g fl) p _ _ (fun z=>z≠t∧z≠Y∧z≠T∧z≠G) wc HE.out.b.y.a (by have:=(enS_ok k sz f g fl).few;omega) (enS_ok k sz f g fl).g HE.out.ge;rw [enS_begun _ _ _ _ _ hp HFP.out.symm] at hbe;have hx:=HE.out.b.y.x;(try dsimp only [enS] at hx);obtain ⟨x0,x1,x2,x3,x4,x5⟩:=cs6 hx;clear hx
                go_cut [] (fun wx=>∃v1 v2,EN w t Y T G (fun z=>z≠t∧z≠Y∧z≠T∧z≠G) v1 v2 (enS k sz (updB f p false) (updB g p true) fl) f g wx)
                case first=>
                 as_aux_lemma=>
                 go_wp2_with (first
                  | (go_at_call 12;go_loud (refine CM (hbe) ?_);rintro e w7 ⟨v1',v2',rfl,ha7,hb7⟩;obtain ⟨B1,m1',c1',rfl⟩:=ha7.t.cap;obtain ⟨B2,m2',c2',rfl⟩:=ha7.g.cap;have HA7:=H_ ha7;have HE7:=H_ (HE.out.step hb7);have hyy:=HE7.out.b.y.x;clear ha7 hb7)
                  | (refine st_sy rfl (.tmp 8) (.tmp 145) rfl rfl Y rfl rfl hyy rfl ?_))
                 go_meet
                 case rel=>exact ⟨_,_,HE7.out.put HA7.out⟩
                case rest=>
                 clear HE x0 x1 x2 x3 x4 x5 hbe;obtain ⟨v1,v2,he⟩:=hcut;have HE:=H_ he;clear he;have HZ:=H_ (HOK.out.next (p:=p) (f':=updB f p false) (g':=updB g p true) HK.out (.inl (by rw [updB_self,updB_self,←HFP.out,←HGP.out];decide)) (fun j hj=>⟨updB_ne _ _ hj,updB_ne _ _ hj⟩));have HCC:=H_ (orF_begun (g:=g) HFP.out.symm);have tc:=HE.out.ta.cell hp;have tf:=free_at HE.out.ta p;have HE2:=H_ (HE.out.setT hp false);have gc:=HE2.out.ga.cell hp;have gf:=free_at HE2.out.ga p;go_wp2;go_roundw
                 case rel=>exact ⟨n+1,_,_,fl,_,_,by go_num,rfl,by rw [HCC.out,HCN.out],by omega,HZ.out,HE2.out.setG hp true⟩
                 case measure=>simp [intOf];omega
       case rest=>
        clear HE;obtain ⟨fl,f,g,v1,v2,rfl,rfl,he⟩:=hcut;obtain ⟨A1,m1,c1,rfl⟩:=he.b.y.a.t.cap;obtain ⟨A2,m2,c2,rfl⟩:=he.b.y.a.g.cap;have HE:=H_ he;clear he
        cases fl with
        | true=>
         have hx:=HE.out.b.y.x
         (try dsimp only at hx)
         have x2:=cells_at hx 2;have x5:=cells_at hx 5;simp only [List.getElem?_toArray,List.getElem?_cons_zero,List.getElem?_cons_succ] at x2 x5;clear hx
         go_wp2_with (go_at_call 22;go_loud (refine CM (awake_w _ (HBT.out _ HE.out.b.tp.2.1)) ?_);rintro e w8 ⟨rfl,hb8⟩)
         go_ret;exact ⟨rfl,HE.out.b.tp.2.1.trans (hb8.mono HE.out.b.tp.2.1.size)⟩
        | false=>
         have hf1:=fun (W:World) (ha:SyA W (fun z=>z≠t∧z≠Y∧z≠T∧z≠G) (.slice A1 m1 c1) (.slice A2 m2 c2) ⟨k,sz,2,[],[],false⟩) (hs:∀z,W.heap.size≤z→(fun z=>z≠t∧z≠Y∧z≠T∧z≠G) z)=>(show Calls Tryz.prog 20 #[syV ⟨k,sz,2,[],[],false⟩ (.slice A1 m1 c1) (.slice A2 m2 c2),.int .i64 0] W (RetSyE (⟨k,sz,3,[],[],false⟩,0) (fun z=>z≠t∧z≠Y∧z≠T∧z≠G) W) from pFin_w ⟨k,sz,2,[],[],false⟩ 0 _ _ (fun z=>z≠t∧z≠Y∧z≠T∧z≠G) W ha hs);have hf2:=fun (W:World) (ha:SyA W (fun z=>z≠t∧z≠Y∧z≠T∧z≠G) (.slice A1 m1 c1) (.slice A2 m2 c2) ⟨k,sz,2,[],[],false⟩) (hs:∀z,W.heap.size≤z→(fun z=>z≠t∧z≠Y∧z≠T∧z≠G) z)=>(show Calls Tryz.prog 20 #[syV ⟨k,sz,2,[],[],false⟩ (.slice A1 m1 c1) (.slice A2 m2 c2),.int .i64 10] W (RetSyE (⟨k,sz,3,[],[],true⟩,0) (fun z=>z≠t∧z≠Y∧z≠T∧z≠G) W) from pFin_w ⟨k,sz,2,[],[],false⟩ 10 _ _ (fun z=>z≠t∧z≠Y∧z≠T∧z≠G) W ha hs);have HE:=H_ (show EN w t Y T G (fun z=>z≠t∧z≠Y∧z≠T∧z≠G) (.slice A1 m1 c1) (.slice A2 m2 c2) ⟨k,sz,2,[],[],false⟩ f g wc from HE.out);have hf1':=hf1 wc HE.out.b.y.a HE.out.ge;have hx:=HE.out.b.y.x;(try dsimp only [enS] at hx);obtain ⟨x0,x1,x2,x3,x4,x5⟩:=cs6 hx;clear hx
         go_upto_region 43 with fail
         clear hf1
         go_cut [20,21] (fun s20 s21 wx=>∃XA a1 a2,s20 = .pointer (some ⟨XA,0,none⟩)∧s21 = .int .i64 0∧BP (fun z=>z≠t∧z≠Y∧z≠T∧z≠G) XA a1 a2 ⟨k,sz,3,[],[],false⟩ wx∧EN w t Y T G (fun z=>z≠t∧z≠Y∧z≠T∧z≠G) (.slice A1 m1 c1) (.slice A2 m2 c2) ⟨k,sz,2,[],[],false⟩ f g wx)
         case first=>
          as_aux_lemma=>
          clear hf2
          go_wp2_with (first
           | (go_at_call 20;go_loud (refine CM (hf1') ?_);rintro e w2 ⟨v1',v2',rfl,ha2,hb2⟩;obtain ⟨B1,m1',c1',rfl⟩:=ha2.t.cap;obtain ⟨B2,m2',c2',rfl⟩:=ha2.g.cap;have HA2:=H_ ha2;have HB2:=H_ hb2;clear ha2 hb2;have HZ:=H_ (heap_at_new w2 (oSZ) w2.heap.size rfl))
           | (refine st_sy rfl (.tmp 20) (.tmp 166) rfl rfl w2.heap.size rfl rfl HZ.out rfl ?_))
          go_meet
          case rel=>exact ⟨w2.heap.size,_,_,rfl,rfl,BP.new HA2.out (fun z hz h=>h),(HE.out.step HB2.out).step (bl_new _ _)⟩
         case rest=>
          clear HE x0 x1 x2 x3 x4 x5 hf1';obtain ⟨XA,a1,a2,rfl,rfl,hxa,he⟩:=hcut;have HE:=H_ he;have HXA:=H_ hxa;clear he hxa;have hf2':=hf2 wc HE.out.b.y.a HE.out.ge;clear hf2;have hx:=HE.out.b.y.x;(try dsimp only [enS] at hx);obtain ⟨x0,x1,x2,x3,x4,x5⟩:=cs6 hx;clear hx
          go_upto_region 44 with fail
          go_cut [22,23] (fun s22 s23 wx=>∃XC a1' a2',s22 = .pointer (some ⟨XC,0,none⟩)∧s23 = .int .i64 0∧BP (fun z=>z≠t∧z≠Y∧z≠T∧z≠G) XC a1' a2' ⟨k,sz,3,[],[],true⟩ wx∧BP (fun z=>z≠t∧z≠Y∧z≠T∧z≠G) XA a1 a2 ⟨k,sz,3,[],[],false⟩ wx∧EN w t Y T G (fun z=>z≠t∧z≠Y∧z≠T∧z≠G) (.slice A1 m1 c1) (.slice A2 m2 c2) ⟨k,sz,2,[],[],false⟩ f g wx)
          case first=>
           as_aux_lemma=>
           go_wp2_with (first
            | (go_at_call 20;go_loud (refine CM (hf2') ?_);rintro e w2 ⟨v1',v2',rfl,ha2,hb2⟩;obtain ⟨B1,m1',c1',rfl⟩:=ha2.t.cap;obtain ⟨B2,m2',c2',rfl⟩:=ha2.g.cap;have HA2:=H_ ha2;have HB2:=H_ hb2;clear ha2 hb2;have HZ:=H_ (heap_at_new w2 (oSZ) w2.heap.size rfl))
            | (refine st_sy rfl (.tmp 22) (.tmp 171) rfl rfl w2.heap.size rfl rfl HZ.out rfl ?_))
           go_meet
           case rel=>exact ⟨w2.heap.size,_,_,rfl,rfl,BP.new HA2.out (fun z hz h=>h),(HXA.out.step HB2.out).step (bl_new _ _),(HE.out.step HB2.out).step (bl_new _ _)⟩
          case rest=>
           clear HE HXA x0 x1 x2 x3 x4 x5 hf2';obtain ⟨XC,a1',a2',rfl,rfl,hxc,hxa,he⟩:=hcut;have y2:=cells_at hxa.x 2;have y5:=cells_at hxa.x 5;have z2:=cells_at hxc.x 2;have z5:=cells_at hxc.x 5;have x2:=cells_at he.b.y.x 2;simp only [List.getElem?_toArray,List.getElem?_cons_zero,List.getElem?_cons_succ] at x2 y2 y5 z2 z5;have HT:=H_ he.b.tp;clear he hxa hxc
           go_wp2_with (go_at_call 22;go_loud (refine CM (awake_w _ (HBT.out _ HT.out.2.1)) ?_);rintro e w8 ⟨rfl,hb8⟩)
           go_ret;exact ⟨rfl,HT.out.2.1.trans (hb8.mono HT.out.2.1.size)⟩
end
end Go.Proofs.YthhekebemmckcaaGreatDoor
