/-
  Lemmas and contracts for the laws of this seat, part 13; several texts joined by a program.
-/
import Derived.Test.YtehfhnbpnaiogaaGreatDoorE12
import Derived.Test.YtehfhnbpnaiogaaGreatDoorE00
namespace Go.Proofs.YtehfhnbpnaiogaaGreatDoor
set_option linter.unusedVariables false
set_option linter.unusedSimpArgs false
set_option maxRecDepth 100000
set_option maxHeartbeats 16000000
open Go.RowKit Go.Proofs.Tryz IntKind
variable {a b n o v:Int} {k:Nat}
section
def bt (v:Int) (k:Nat):Bool:=bits .and .i64 v ((2 ^ k:Nat):Int) != 0
theorem nL (h:0<=v/\v<=3):v=0\/v=1\/v=2\/v=3:=O_
theorem tP (ha:0<=a/\a<=3) (hb:0<=b/\b<=3) (hk:k<2):bt (bits .or .i64 a b) k=(bt a k||bt b k):=by
 obtain rfl | rfl:k=0\/k=1:=O_
 all_goals (obtain rfl | rfl | rfl | rfl:=nL ha)
 all_goals (obtain rfl | rfl | rfl | rfl:=nL hb)
 all_goals decide
theorem d1_ (ha:0<=a/\a<=3) (hb:0<=b/\b<=3) {k:Nat} (hk:k<2):bt (bits .and .i64 a b) k=(bt a k&&bt b k):=by
 obtain rfl | rfl:k=0\/k=1:=O_
 all_goals (obtain rfl | rfl | rfl | rfl:=nL ha)
 all_goals (obtain rfl | rfl | rfl | rfl:=nL hb)
 all_goals decide
theorem ic_ (ha:0<=a/\a<=3) (hb:0<=b/\b<=3) (hk:k<2):bt (bits .andNot .i64 a b) k=(bt a k&&!bt b k):=by
 obtain rfl | rfl:k=0\/k=1:=O_
 all_goals (obtain rfl | rfl | rfl | rfl:=nL ha)
 all_goals (obtain rfl | rfl | rfl | rfl:=nL hb)
 all_goals decide
theorem jC_ (ha:0<=a/\a<=3) (hb:0<=b/\b<=3):0<=bits .and .i64 a b/\bits .and .i64 a b<=3:=by
 obtain rfl | rfl | rfl | rfl:=nL ha
 all_goals (obtain rfl | rfl | rfl | rfl:=nL hb)
 all_goals decide
theorem e0_ {t:Int} (ht:0<=t/\t<=3):bits .or .i64 3 t=3:=by obtain rfl | rfl | rfl | rfl:=nL ht <;> decide
theorem cx_ (hk:k<2):bt (eL o n) k=jF o n k:=by
 obtain rfl | rfl:k=0\/k=1:=O_
 all_goals
  unfold eL
  show bt ((if jF o n 0 then 1 else 0)+if jF o n 1 then 2 else 0) _=_
  cases jF o n 0 <;> cases jF o n 1 <;> decide
theorem gc_ {lo:Int} {j b:Nat} (hb:b<j) (h1:o<=lo+b) (h2:lo+b<o+n):0<eO o n lo j:=by
 induction j with
 | zero=>omega
 | succ j ih=>
  unfold eO;have:=pK o n lo j
  by_cases e:b=j
  ·subst e;rw [if_pos ⟨h1,h2⟩];omega
  ·have:=ih O_
   split <;> omega
theorem gb_ {lo:Int} {j:Nat} (h:eO o n lo j=j) {b:Nat} (hb:b<j):o<=lo+b/\lo+b<o+n:=by
 induction j with
 | zero=>omega
 | succ j ih=>
  unfold eO at h;have:=pK o n lo j
  by_cases e:o<=lo+(j:Int)/\lo+(j:Int)<o+n
  ·rw [if_pos e] at h
   by_cases a:b=j
   ·subst a;exact e
   ·exact ih O_ O_
  ·rw [if_neg e] at h;omega
theorem hc_ {o n b:Nat} (hb:b<16) (h1:o<=b) (h2:b<o+n):bt (eL (o:Int) (n:Int)) (b / 8)=true:=by
 rw [cx_ O_];exact dT (gc_ (b:=b % 8) O_ O_ O_)
theorem gF_ {o n b:Nat} (hv:0<=v/\v<=3) (hn:jK v (o:Int) (n:Int) true=0) (hb:b<16) (ht:bt (eL (o:Int) (n:Int)) (b / 8)=true) (h:¬(o<=b/\b<o+n)):bt v (b / 8)=true:=by
 have f:b / 8<2:=O_
 have hc:sD (o:Int) (n:Int) (b / 8)=false:=by
  refine dF fun hc=>h ?_;have:=gb_ (j:=8) hc (b:=b % 8) O_;omega
 rw [cx_ f] at ht;have a:bits .andNot .i64 (bits .andNot .i64 (eL (o:Int) (n:Int)) (vM (o:Int) (n:Int))) v=0:=hn;generalize eL (o:Int) (n:Int)=T at a ⊢;have d:bits .andNot .i64 (eL (o:Int) (n:Int)) (vM (o:Int) (n:Int))=bits .andNot .i64 (eL (o:Int) (n:Int)) (vM (o:Int) (n:Int)):=rfl;have h3:bits .andNot .i64 (bits .andNot .i64 (eL (o:Int) (n:Int)) (vM (o:Int) (n:Int))) v=0:=hn;unfold eL vM at h3;have c:bits .andNot .i64 (bits .andNot .i64 ((if jF (o:Int) (n:Int) 0 then 1 else 0)+if jF (o:Int) (n:Int) 1 then 2 else 0) ((if sD (o:Int) (n:Int) 0 then 1 else 0)+if sD (o:Int) (n:Int) 1 then 2 else 0)) v=0:=h3;generalize b / 8=k at *;obtain rfl | rfl:k=0\/k=1:=O_
 all_goals
  rw [ht,hc] at c;clear h3 a hn d T
  revert c
  generalize jF (o:Int) (n:Int) _=g;generalize sD (o:Int) (n:Int) _=c0;obtain rfl | rfl | rfl | rfl:=nL hv
  all_goals (cases g <;> cases c0 <;> decide)
theorem xS {d s:ByteArray} {o b:Nat} (hd:d.size=16) (ho:o+s.size<=16) (hb:b<16):(xR d s o).data[b]?=if o<=b/\b<o+s.size then s.data[b - o]? else d.data[b]?:=by
 have c:d.data.size=16:=hd;have f:s.data.size=s.size:=rfl;unfold xR;have a:(d.extract 0 o).data.size=o:=by simp [ByteArray.data_extract,c];omega
 rw [ByteArray.data_append,ByteArray.data_append]
 by_cases h1:b<o
 ·rw [if_neg O_,Array.getElem?_append_left (by rw [Array.size_append,a];omega),Array.getElem?_append_left (by rw [a];omega)];rw [ByteArray.data_extract,Array.getElem?_extract,if_pos (by rw [c];omega),Nat.zero_add]
 ·by_cases h2:b<o+s.size
  ·rw [if_pos ⟨O_,h2⟩,Array.getElem?_append_left (by rw [Array.size_append,a];omega),Array.getElem?_append_right (by rw [a];omega),a]
  ·rw [if_neg O_,Array.getElem?_append_right (by rw [Array.size_append,a];omega),Array.size_append,a,f];rw [ByteArray.data_extract,Array.getElem?_extract,if_pos (by rw [hd];omega)]
   congr 1
   omega
structure pD (e:Int) (hl:Bool) (d:Nat->UInt8) (x:Fr):Prop where
 rd:x.reading=0
 wr:x.writing=0
 hole:hl=true->x.pg.valid=3
 lo:x.pg.dirty≠0->x.page*16<e
 zero:∀b:Nat,b<16->e<=x.page*16+(b:Int)->bt x.pg.valid (b / 8)=true->x.pg.data.data[b]?=some 0
 img:hl=false->∀b:Nat,b<16->x.page*16+(b:Int)<e->bt x.pg.valid (b / 8)=true->bt x.pg.dirty (b / 8)=false->x.pg.data.data[b]?=some (d b)
section
variable {e e':Int} {hl:Bool} {d:Nat->UInt8} {x:Fr}
theorem pD.write (h:pD e hl d x) (ok:fE x) {o:Nat} {s:ByteArray} (ho:o+s.size<=16) (h1:1<=s.size) (hn:jK x.pg.valid (o:Int) (s.size:Int) true=0) (he:x.page*16+(o:Int)+(s.size:Int)<=e):pD e hl d ⟨x.file,x.page,G_ x.pg o s,x.tenant,x.holds,x.reading,x.writing⟩ where
 rd:=h.rd
 wr:=h.wr
 hole:=fun i=>by
  show bits .or .i64 x.pg.valid (eL o s.size)=3
  rw [h.hole i];exact e0_ (kJ _ _)
 lo:=fun _=>by show x.page*16<e;omega
 zero:=fun b f g hv=>by
  have a:bt (bits .or .i64 x.pg.valid (eL o s.size)) (b / 8)=true:=hv;have k:e<=x.page*16+(b:Int):=g;rw [tP ok.pg.v (kJ _ _) O_] at a
  show (xR x.pg.data s o).data[b]?=_
  rw [xS ok.pg.len ho f,if_neg O_];refine h.zero b f g ?_
  cases q:bt x.pg.valid (b / 8)
  ·rw [q] at a;exact absurd (gF_ ok.pg.v hn f (by simpa using a) O_) (by rw [q];decide)
  ·rfl
 img:=fun i b f j hv n=>by
  have a:bt (bits .or .i64 x.pg.valid (eL o s.size)) (b / 8)=true:=hv;have c:bt (bits .or .i64 x.pg.dirty (eL o s.size)) (b / 8)=false:=n;rw [tP ok.pg.v (kJ _ _) O_] at a;rw [tP ok.pg.d (kJ _ _) O_] at c;have m:bt (eL (o:Int) (s.size:Int)) (b / 8)=false:=by
   cases q:bt (eL (o:Int) (s.size:Int)) (b / 8)
   ·rfl
   ·rw [q] at c;simp at c
  rw [m] at a c
  show (xR x.pg.data s o).data[b]?=_
  rw [xS ok.pg.len ho f,if_neg (fun l=>by
   have:=hc_ f l.1 l.2;rw [m] at this
   cases this)]
  exact h.img i b f j (by simpa using a) (by simpa using c)
theorem pD.soil (h:pD e hl d x) (ok:fE x) {s:Int} (hs:0<=s/\s<=3) (he:x.page*16<e):pD e hl d ⟨x.file,x.page,aK x.pg s,x.tenant,x.holds,x.reading,x.writing⟩ where
 rd:=h.rd
 wr:=h.wr
 hole:=h.hole
 lo:=fun _=>he
 zero:=h.zero
 img:=fun i b f c hv g=>by
  have a:bt (bits .or .i64 x.pg.dirty (bits .and .i64 s x.pg.valid)) (b / 8)=false:=g;rw [tP ok.pg.d (jC_ hs ok.pg.v) O_] at a;refine h.img i b f c hv ?_
  cases q:bt x.pg.dirty (b / 8)
  ·rfl
  ·rw [q] at a;simp at a
theorem pD.grow (h:pD e hl d x) (he:e<=e') (hg:hl=false->∀b:Nat,b<16->e<=x.page*16+(b:Int)->x.page*16+(b:Int)<e'->bt x.pg.valid (b / 8)=true->bt x.pg.dirty (b / 8)=true):pD e' hl d x where
 rd:=h.rd
 wr:=h.wr
 hole:=h.hole
 lo:=fun c=>by have:=h.lo c;omega
 zero:=fun b a i hv=>h.zero b a O_ hv
 img:=fun g b a f hv c=>by
  by_cases q:e<=x.page*16+(b:Int)
  ·have:=hg g b a q f hv;rw [c] at this
   cases this
  ·exact h.img g b a O_ hv c
theorem pD.shrink (h:pD e hl d x) (he:e'<=e) (hlo:x.pg.dirty≠0->x.page*16<e') (hz:∀b:Nat,b<16->e'<=x.page*16+(b:Int)->x.page*16+(b:Int)<e->bt x.pg.valid (b / 8)=true->x.pg.data.data[b]?=some 0):pD e' hl d x where
 rd:=h.rd
 wr:=h.wr
 hole:=h.hole
 lo:=hlo
 zero:=fun b a c hv=>by
  by_cases q:e<=x.page*16+(b:Int)
  ·exact h.zero b a q hv
  ·exact hz b a c O_ hv
 img:=fun g b a i hv f=>h.img g b a O_ hv f
theorem pD.fill (h:pD e false d x) (ok:fE x) (hn:0<=n/\n<=3) (h0:bits .and .i64 n x.pg.valid=0) {t:ByteArray} (ht:∀b:Nat,b<16->t.data.toList.getD b 0=d b):pD e false d ⟨x.file,x.page,fM x.pg n ⟨(kQ (e - x.page*16) t 16).toArray⟩,x.tenant,x.holds,0,x.writing⟩:=by
 have g:∀b:Nat,b<16->(fM x.pg n ⟨(kQ (e - x.page*16) t 16).toArray⟩).data.data[b]?=if bt n (b / 8)=true then some (if e<=x.page*16+(b:Int) then 0 else d b) else x.pg.data.data[b]?:=fun b c=>by
  have hl:x.pg.data.data.size=16:=ok.pg.len
  show (fN x.pg.data ⟨(kQ (e - x.page*16) t 16).toArray⟩ x.pg.valid n 16).toArray[b]?=_
  rw [List.getElem?_toArray,iM c];have o:nN x.pg.valid n b=bt n (b / 8):=by
   unfold nN;have:=d1_ hn ok.pg.v (k:=b / 8) O_;rw [h0] at this
   show (bt n (b / 8)&&(bits .and .i64 x.pg.valid ((2 ^ (b / 8):Nat):Int) == 0))=_
   have u:bt 0 (b / 8)=false:=by
    obtain q | q:b / 8=0\/b / 8=1:=O_
    all_goals rw [q];decide
   rw [u] at this
   cases q1:bt n (b / 8)
   ·rfl
   ·rw [q1] at this;have l:bt x.pg.valid (b / 8)=false:=by simpa using this.symm
    unfold bt at l
    simpa using l
  rw [o]
  by_cases q:bt n (b / 8)=true
  ·rw [if_pos ⟨c,q⟩,if_pos q]
   congr 1
   rw [List.getD_eq_getElem?_getD]
   show ((kQ (e - x.page*16) t 16).toArray.toList[b]?).getD 0=_
   rw [List.toList_toArray,tB c]
   show (if b<16/\e - x.page*16<=(b:Int) then 0 else t.data.toList.getD b 0)=_
   by_cases f:e<=x.page*16+(b:Int)
   ·rw [if_pos ⟨c,O_⟩,if_pos f]
   ·rw [if_neg (fun p=>by omega),if_neg f,ht b c]
  ·rw [if_neg (fun p=>q p.2),if_neg q,List.getD_eq_getElem?_getD,Array.getElem?_toList,Array.getElem?_eq_getElem O_]
   rfl
 refine ⟨rfl,h.wr,fun s=>(by cases s),h.lo,fun b c i hv=>?_,fun _ b c m hv r=>?_⟩
 ·show (fM x.pg n _).data.data[b]?=_
  rw [g b c]
  by_cases q:bt n (b / 8)=true
  ·rw [if_pos q,if_pos i]
  ·rw [if_neg q];have a:bt (bits .or .i64 x.pg.valid n) (b / 8)=true:=hv;rw [tP ok.pg.v hn O_] at a;exact h.zero b c i (by
    cases f:bt x.pg.valid (b / 8)
    ·rw [f] at a;exact absurd (by simpa using a) q
    ·rfl)
 ·show (fM x.pg n _).data.data[b]?=_
  have j:x.page*16+(b:Int)<e:=m;rw [g b c]
  by_cases q:bt n (b / 8)=true
  ·rw [if_pos q,if_neg O_]
  ·rw [if_neg q];have a:bt (bits .or .i64 x.pg.valid n) (b / 8)=true:=hv;rw [tP ok.pg.v hn O_] at a;exact h.img rfl b c j (by
    cases f:bt x.pg.valid (b / 8)
    ·rw [f] at a;exact absurd (by simpa using a) q
    ·rfl) r
theorem pD.back (h:pD e hl d x) (ok:fE x) {s:Int} (hs:0<=s/\s<=3) (hd0:x.pg.dirty≠0) (hsd:s=3\/hl=false/\s=x.pg.dirty) {d':Nat->UInt8} (h1:∀b:Nat,b<16->bt s (b / 8)=true->x.pg.data.data[b]?=some (d' b)) (h2:∀b:Nat,b<16->bt s (b / 8)=false->d' b=d b):pD e false d' ⟨x.file,x.page,bR x.pg s,x.tenant,x.holds,x.reading,0⟩ where
 rd:=h.rd
 wr:=rfl
 hole:=fun f=>(by cases f)
 lo:=fun _=>h.lo hd0
 zero:=h.zero
 img:=fun _ b c g hv j=>by
  have a:bt (bits .andNot .i64 x.pg.dirty s) (b / 8)=false:=j;rw [ic_ ok.pg.d hs O_] at a
  cases q:bt s (b / 8)
  ·rcases hsd with rfl | ⟨f,_⟩
   ·exact absurd q (by
     obtain i | i:b / 8=0\/b / 8=1:=O_
     all_goals rw [i];decide)
   ·rw [h2 b c q];rw [q] at a;exact h.img f b c g hv (by simpa using a)
  ·exact h1 b c q
theorem pD.new (p:Nat) (j t:Int) (pg:Pg) (he:hl=true/\pg=uF\/hl=false/\pg=uO):pD e hl d ⟨j,p,pg,t,0,0,0⟩:=by
 have i:∀v:Int,∀b:Nat,b<16->v=0->bt v (b / 8)=false:=fun v b a hv=>by
  subst hv;obtain g | g:b / 8=0\/b / 8=1:=O_
  all_goals rw [g];decide
 rcases he with ⟨rfl,rfl⟩ | ⟨rfl,rfl⟩
 ·refine ⟨rfl,rfl,fun _=>rfl,fun h=>absurd rfl h,fun b a _ _=>?_,fun f=>(by cases f)⟩
  show uO.data.data[b]?=some 0
  have:∀b:Fin 16,uO.data.data[b.val]?=some 0:=by decide +kernel
  exact this ⟨b,a⟩
 ·refine ⟨rfl,rfl,fun f=>(by cases f),fun h=>absurd rfl h,fun b a _ hv=>?_,fun _ b a _ hv=>?_⟩
  all_goals
   have c:bt uO.valid (b / 8)=true:=hv;rw [i uO.valid b a rfl] at c
   cases c
end
end
end Go.Proofs.YtehfhnbpnaiogaaGreatDoor
