/-
  Lemmas and contracts for the laws of synchronisations (layer 43), part 18; several texts joined by a program.
-/
import Derived.Test.YthhekebemmckcaaGreatDoorJ01
import Derived.Test.YthhekebemmckcaaGreatDoorJ16
import Derived.Test.YthhekebemmckcaaGreatDoorJ17
namespace Go.Proofs.YthhekebemmckcaaGreatDoor
set_option linter.unusedVariables false
set_option linter.unusedSimpArgs false
set_option maxRecDepth 100000
set_option maxHeartbeats 16000000
open Go.RowKit
section
def TS (S:Nat→Prop) (gf gr gl gk:Nat):Nat→Prop:=fun z=>S z∧z≠gf∧z≠gr∧z≠gl∧z≠gk
abbrev cpV (gf nf cf gr nr cr:Nat) (c d:Value) (gl nl cl gk nk ck:Nat) (g:Value):Value:=
 ckV (.slice (some ⟨gf,0,none⟩) nf cf) (.slice (some ⟨gr,0,none⟩) nr cr) c d (.slice (some ⟨gl,0,none⟩) nl cl) (.slice (some ⟨gk,0,none⟩) nk ck) g
structure CpL (w:World) (S:Nat→Prop) (B gf nf cf gr nr cr:Nat) (c d:Value) (gl nl cl gk nk ck:Nat) (g:Value) (C:Ck):Prop where
 files:LW FlR w (TS S gf gr gl gk) gf C.files
 frames:LW FrR w (TS S gf gr gl gk) gr C.frames
 zones:LA ZnR w (TS S gf gr gl gk) c C.zones
 groups:LA GrR w (TS S gf gr gl gk) d C.groups
 lists:LW LrR w (TS S gf gr gl gk) gl C.lists
 clocks:LW IntR w (TS S gf gr gl gk) gk C.clocks
 ptes:LA PtR w (TS S gf gr gl gk) g C.ptes
 ef:C.files.length=nf
 er:C.frames.length=nr
 el:C.lists.length=nl
 ek:C.clocks.length=nk
 lf:nf≤cf
 lr:nr≤cr
 ll:nl≤cl
 lk:nk≤ck
 mf:cf≤maxLen
 mr:cr≤maxLen
 ml:cl≤maxLen
 mq:ck≤maxLen
 o1:B≤gf
 o2:gf<gr
 o3:gr<gl
 o4:gl<gk
 sf:S gf
 sr:S gr
 sl:S gl
 sk:S gk
section
variable {w w':World} {S:Nat→Prop} {B gf nf cf gr nr cr:Nat} {c d:Value} {gl nl cl gk nk ck:Nat} {g:Value} {C:Ck}
theorem CpL.lt (h:CpL w S B gf nf cf gr nr cr c d gl nl cl gk nk ck g C):gk<w.heap.size:=h.clocks.lt
theorem CpL.at_ (h:CpL w S B gf nf cf gr nr cr c d gl nl cl gk nk ck g C):CkAt w S (.slice (some ⟨gf,0,none⟩) nf cf) (.slice (some ⟨gr,0,none⟩) nr cr) c d (.slice (some ⟨gl,0,none⟩) nl cl) (.slice (some ⟨gk,0,none⟩) nk ck) g C:=by
 have o1:=h.o1;have o2:=h.o2;have o3:=h.o3;have o4:=h.o4;refine ⟨?_,?_,h.zones.weak fun z _ hz=>hz.1,h.groups.weak fun z _ hz=>hz.1,?_,?_,h.ptes.weak fun z _ hz=>hz.1⟩
 ·have:=h.files.la (S':=S) (cap:=cf) h.sf (fun z _ hz=>hz.1) (by rw [h.ef];exact h.lf) h.mf;rw [h.ef] at this;exact this
 ·have:=h.frames.la (S':=S) (cap:=cr) h.sr (fun z _ hz=>hz.1) (by rw [h.er];exact h.lr) h.mr;rw [h.er] at this;exact this
 ·have:=h.lists.la (S':=S) (cap:=cl) h.sl (fun z _ hz=>hz.1) (by rw [h.el];exact h.ll) h.ml;rw [h.el] at this;exact this
 ·have:=h.clocks.la (S':=S) (cap:=ck) h.sk (fun z _ hz=>hz.1) (by rw [h.ek];exact h.lk) h.mq;rw [h.ek] at this;exact this
theorem CpL.kept (h:CpL w S B gf nf cf gr nr cr c d gl nl cl gk nk ck g C) (hk:KeepS (TS S gf gr gl gk) w w') (h1:w'.heap[gf]?=w.heap[gf]?) (h2:w'.heap[gr]?=w.heap[gr]?) (h3:w'.heap[gl]?=w.heap[gl]?) (h4:w'.heap[gk]?=w.heap[gk]?):CpL w' S B gf nf cf gr nr cr c d gl nl cl gk nk ck g C:=
 ⟨h.files.kept hk h1,h.frames.kept hk h2,h.zones.kept hk,h.groups.kept hk,h.lists.kept hk h3,h.clocks.kept hk h4,h.ptes.kept hk,h.ef,h.er,h.el,h.ek,h.lf,h.lr,h.ll,h.lk,h.mf,h.mr,h.ml,h.mq,h.o1,h.o2,h.o3,h.o4,h.sf,h.sr,h.sl,h.sk⟩
theorem CpL.step (h:CpL w S B gf nf cf gr nr cr c d gl nl cl gk nk ck g C) (hb:Below w.heap.size w w'):CpL w' S B gf nf cf gr nr cr c d gl nl cl gk nk ck g C:=by
 have o2:=h.o2;have o3:=h.o3;have o4:=h.o4;have hl:=h.lt;exact h.kept (KeepS.of_below hb) (hb.block _ (by omega)) (hb.block _ (by omega)) (hb.block _ (by omega)) (hb.block _ (by omega))
theorem CpL.weak {S':Nat→Prop} {B':Nat} (h:CpL w S B gf nf cf gr nr cr c d gl nl cl gk nk ck g C) (hB:B'≤B) (hS:∀z,S z→S' z) (hS':∀z,B'≤z→S' z):CpL w S' B' gf nf cf gr nr cr c d gl nl cl gk nk ck g C:=by
 have up:∀z,z<w.heap.size→TS S gf gr gl gk z→TS S' gf gr gl gk z:=fun z _ hz=>⟨hS z hz.1,hz.2⟩;have n1:¬TS S' gf gr gl gk gf:=fun h=>h.2.1 rfl;have n2:¬TS S' gf gr gl gk gr:=fun h=>h.2.2.1 rfl;have n3:¬TS S' gf gr gl gk gl:=fun h=>h.2.2.2.1 rfl;have n4:¬TS S' gf gr gl gk gk:=fun h=>h.2.2.2.2 rfl;have o1:=h.o1;exact ⟨h.files.weak n1 up,h.frames.weak n2 up,h.zones.weak up,h.groups.weak up,h.lists.weak n3 up,h.clocks.weak n4 up,h.ptes.weak up,h.ef,h.er,h.el,h.ek,h.lf,h.lr,h.ll,h.lk,h.mf,h.mr,h.ml,h.mq,by omega,h.o2,h.o3,h.o4,hS _ h.sf,hS _ h.sr,hS _ h.sl,hS _ h.sk⟩
theorem CpL.fresh (h:CpL w S B gf nf cf gr nr cr c d gl nl cl gk nk ck g C) (hS:∀z,w.heap.size≤z→S z) (z:Nat) (hz:w.heap.size≤z):TS S gf gr gl gk z:=by
 have o1:=h.o1;have o2:=h.o2;have o3:=h.o3;have o4:=h.o4;have hl:=h.lt;exact ⟨hS z hz,by omega,by omega,by omega,by omega⟩
theorem CpL.but (h:CpL w S B gf nf cf gr nr cr c d gl nl cl gk nk ck g C) (X:Nat) (hX:w.heap.size≤X):CpL w (fun z=>S z∧z≠X) B gf nf cf gr nr cr c d gl nl cl gk nk ck g C:=by
 have up:∀z,z<w.heap.size→TS S gf gr gl gk z→TS (fun z=>S z∧z≠X) gf gr gl gk z:=fun z hl hz=>⟨⟨hz.1,by omega⟩,hz.2⟩;have n1:¬TS (fun z=>S z∧z≠X) gf gr gl gk gf:=fun h=>h.2.1 rfl;have n2:¬TS (fun z=>S z∧z≠X) gf gr gl gk gr:=fun h=>h.2.2.1 rfl;have n3:¬TS (fun z=>S z∧z≠X) gf gr gl gk gl:=fun h=>h.2.2.2.1 rfl;have n4:¬TS (fun z=>S z∧z≠X) gf gr gl gk gk:=fun h=>h.2.2.2.2 rfl;have o2:=h.o2;have o3:=h.o3;have o4:=h.o4;have hl:=h.lt;exact ⟨h.files.weak n1 up,h.frames.weak n2 up,h.zones.weak up,h.groups.weak up,h.lists.weak n3 up,h.clocks.weak n4 up,h.ptes.weak up,h.ef,h.er,h.el,h.ek,h.lf,h.lr,h.ll,h.lk,h.mf,h.mr,h.ml,h.mq,h.o1,h.o2,h.o3,h.o4,⟨h.sf,by omega⟩,⟨h.sr,by omega⟩,⟨h.sl,by omega⟩,⟨h.sk,by omega⟩⟩
theorem CpL.setRow (h:CpL w S B gf nf cf gr nr cr c d gl nl cl gk nk ck g C) (X:Nat) (cs:Array Value) (hX:¬S X) (hB:X<B):CpL (w.setRow X cs) S B gf nf cf gr nr cr c d gl nl cl gk nk ck g C:=by
 have o1:=h.o1;have o2:=h.o2;have o3:=h.o3;have o4:=h.o4;exact h.kept (KeepS.of_setRow w X cs fun hz=>hX hz.1) (setRow_other w X gf cs (by omega)) (setRow_other w X gr cs (by omega)) (setRow_other w X gl cs (by omega)) (setRow_other w X gk cs (by omega))
theorem CpL.setCellX (h:CpL w S B gf nf cf gr nr cr c d gl nl cl gk nk ck g C) (X p:Nat) (v:Value) (hX:¬S X) (hB:gk<X):CpL (w.setCell ⟨X,p,none⟩ v) S B gf nf cf gr nr cr c d gl nl cl gk nk ck g C:=by
 have o1:=h.o1;have o2:=h.o2;have o3:=h.o3;have o4:=h.o4;have hn:∀z,z≠X→(w.setCell ⟨X,p,none⟩ v).heap[z]?=w.heap[z]?:=fun z hz=>Below.heap_setCell w ⟨X,p,none⟩ v z hz;exact h.kept (KeepS.of_setCell w ⟨X,p,none⟩ v fun hz=>hX hz.1) (hn _ (by omega)) (hn _ (by omega)) (hn _ (by omega)) (hn _ (by omega))
theorem CpL.putFiles {fs:List Fl} (h:CpL w S B gf nf cf gr nr cr c d gl nl cl gk nk ck g C) (hg:w.grownBy w' (some gf)) (hf:LW FlR w' (TS S gf gr gl gk) gf fs) (hn:fs.length=C.files.length):CpL w' S B gf nf cf gr nr cr c d gl nl cl gk nk ck g {C with files:=fs}:=by
 have o2:=h.o2;have o3:=h.o3;have o4:=h.o4;have hl:=h.lt;have hk:KeepS (TS S gf gr gl gk) w w':=KeepS.of_gb hg fun k e hk=>by cases e;exact hk.2.1 rfl
 exact ⟨hf,h.frames.kept hk (hg.block _ (by omega) (by simp;omega)),h.zones.kept hk,h.groups.kept hk,h.lists.kept hk (hg.block _ (by omega) (by simp;omega)),h.clocks.kept hk (hg.block _ (by omega) (by simp;omega)),h.ptes.kept hk,hn.trans h.ef,h.er,h.el,h.ek,h.lf,h.lr,h.ll,h.lk,h.mf,h.mr,h.ml,h.mq,h.o1,h.o2,h.o3,h.o4,h.sf,h.sr,h.sl,h.sk⟩
theorem CpL.putFrames {rs:List Fr} (h:CpL w S B gf nf cf gr nr cr c d gl nl cl gk nk ck g C) (hg:w.grownBy w' (some gr)) (hf:LW FrR w' (TS S gf gr gl gk) gr rs) (hn:rs.length=C.frames.length):CpL w' S B gf nf cf gr nr cr c d gl nl cl gk nk ck g {C with frames:=rs}:=by
 have o2:=h.o2;have o3:=h.o3;have o4:=h.o4;have hl:=h.lt;have hk:KeepS (TS S gf gr gl gk) w w':=KeepS.of_gb hg fun k e hk=>by cases e;exact hk.2.2.1 rfl
 exact ⟨h.files.kept hk (hg.block _ (by omega) (by simp;omega)),hf,h.zones.kept hk,h.groups.kept hk,h.lists.kept hk (hg.block _ (by omega) (by simp;omega)),h.clocks.kept hk (hg.block _ (by omega) (by simp;omega)),h.ptes.kept hk,h.ef,hn.trans h.er,h.el,h.ek,h.lf,h.lr,h.ll,h.lk,h.mf,h.mr,h.ml,h.mq,h.o1,h.o2,h.o3,h.o4,h.sf,h.sr,h.sl,h.sk⟩
theorem CpL.putLists {ls:List Lr} (h:CpL w S B gf nf cf gr nr cr c d gl nl cl gk nk ck g C) (hg:w.grownBy w' (some gl)) (hf:LW LrR w' (TS S gf gr gl gk) gl ls) (hn:ls.length=C.lists.length):CpL w' S B gf nf cf gr nr cr c d gl nl cl gk nk ck g {C with lists:=ls}:=by
 have o2:=h.o2;have o3:=h.o3;have o4:=h.o4;have hl:=h.lt;have hk:KeepS (TS S gf gr gl gk) w w':=KeepS.of_gb hg fun k e hk=>by cases e;exact hk.2.2.2.1 rfl
 exact ⟨h.files.kept hk (hg.block _ (by omega) (by simp;omega)),h.frames.kept hk (hg.block _ (by omega) (by simp;omega)),h.zones.kept hk,h.groups.kept hk,hf,h.clocks.kept hk (hg.block _ (by omega) (by simp;omega)),h.ptes.kept hk,h.ef,h.er,hn.trans h.el,h.ek,h.lf,h.lr,h.ll,h.lk,h.mf,h.mr,h.ml,h.mq,h.o1,h.o2,h.o3,h.o4,h.sf,h.sr,h.sl,h.sk⟩
theorem CpL.putClocks {ks:List Int} (h:CpL w S B gf nf cf gr nr cr c d gl nl cl gk nk ck g C) (hg:w.grownBy w' (some gk)) (hf:LW IntR w' (TS S gf gr gl gk) gk ks) (hn:ks.length=C.clocks.length):CpL w' S B gf nf cf gr nr cr c d gl nl cl gk nk ck g {C with clocks:=ks}:=by
 have o2:=h.o2;have o3:=h.o3;have o4:=h.o4;have hl:=h.lt;have hk:KeepS (TS S gf gr gl gk) w w':=KeepS.of_gb hg fun k e hk=>by cases e;exact hk.2.2.2.2 rfl
 exact ⟨h.files.kept hk (hg.block _ (by omega) (by simp;omega)),h.frames.kept hk (hg.block _ (by omega) (by simp;omega)),h.zones.kept hk,h.groups.kept hk,h.lists.kept hk (hg.block _ (by omega) (by simp;omega)),hf,h.ptes.kept hk,h.ef,h.er,h.el,hn.trans h.ek,h.lf,h.lr,h.ll,h.lk,h.mf,h.mr,h.ml,h.mq,h.o1,h.o2,h.o3,h.o4,h.sf,h.sr,h.sl,h.sk⟩
theorem CpL.frame {i:Nat} (h:CpL w S B gf nf cf gr nr cr c d gl nl cl gk nk ck g C) (hi:i<C.frames.length) (x:Fr):CpL (w.setCells gr (i*9) x.row) S B gf nf cf gr nr cr c d gl nl cl gk nk ck g {C with frames:=C.frames.set i x}:=
 h.putFrames (gb_setCells w gr (i*9) x.row) (h.frames.frame hi x) (by simp)
theorem CpL.with_ {c' d' g':Value} {zs:List Zn} {gs:List Gr} {ps:List Pt} (h:CpL w S B gf nf cf gr nr cr c d gl nl cl gk nk ck g C) (hz:LA ZnR w (TS S gf gr gl gk) c' zs) (hg:LA GrR w (TS S gf gr gl gk) d' gs) (hp:LA PtR w (TS S gf gr gl gk) g' ps):CpL w S B gf nf cf gr nr cr c' d' gl nl cl gk nk ck g' {C with zones:=zs,groups:=gs,ptes:=ps}:=
 ⟨h.files,h.frames,hz,hg,h.lists,h.clocks,hp,h.ef,h.er,h.el,h.ek,h.lf,h.lr,h.ll,h.lk,h.mf,h.mr,h.ml,h.mq,h.o1,h.o2,h.o3,h.o4,h.sf,h.sr,h.sl,h.sk⟩
end
structure CkOk (C:Ck):Prop where
 files:0<C.files.length∧C.files.length≤100
 frames:0<C.frames.length∧C.frames.length≤100
 groups:0<C.groups.length∧C.groups.length≤100
 lists:0<C.lists.length∧C.lists.length≤100
 clocks:0<C.clocks.length∧C.clocks.length≤100
def RetOwn (C:Ck) (S:Nat→Prop) (w:World) (en:Ending) (w':World):Prop:=∃gf nf cf gr nr cr c d gl nl cl gk nk ck g,en = .returned (cpV gf nf cf gr nr cr c d gl nl cl gk nk ck g)∧CpL w' S w.heap.size gf nf cf gr nr cr c d gl nl cl gk nk ck g C∧Below w.heap.size w w'
theorem copyL_w (C:Ck) (a b c d e f g:Value) (S:Nat→Prop) (w:World) (h:CkAt w S a b c d e f g C) (hl:CkOk C) (hS:∀z,w.heap.size≤z→S z):Calls Tryz.prog 69 #[ckV a b c d e f g] w (RetOwn C S w):=by
 refine (copy_w C a b c d e f g S w h ⟨hl.files.2,hl.frames.2,hl.groups.2,hl.lists.2,hl.clocks.2⟩).mono ?_;rintro en w' ⟨a',b',d',e',f',n1,n2,n3,n4,rfl,hc,hb⟩;have hz:=h.zones.oldB hb;have hp:=h.ptes.oldB hb;obtain ⟨gf,cf,rfl,c1,c2,q1,hwf⟩:=hc.files.lw hl.files.1;obtain ⟨gr,cr,rfl,c3,c4,q2,hwr⟩:=hc.frames.lw hl.frames.1;obtain ⟨gl,cl,rfl,c5,c6,q3,hwl⟩:=hc.lists.lw hl.lists.1;obtain ⟨gk,ck,rfl,c7,c8,q4,hwk⟩:=hc.clocks.lw hl.clocks.1;have t1:gf<n1:=hc.lt1 gf rfl;have t2:gr<n2:=hc.lt2 gr rfl;have t3:gl<n4:=hc.lt4 gl rfl;have l1:=hc.le1;have l2:=hc.le2;have l3:=hc.le3;have l4:=hc.le4;have up:∀z,S z∧z<w.heap.size→TS S gf gr gl gk z:=fun z hz=>⟨hz.1,by omega,by omega,by omega,by omega⟩;refine ⟨gf,C.files.length,cf,gr,C.frames.length,cr,c,d',gl,C.lists.length,cl,gk,C.clocks.length,ck,g,rfl,?_,hb⟩;refine ⟨hwf.weak (fun h=>h.2.1 rfl) fun z _ hz=>up z hz.1,hwr.weak (fun h=>h.2.2.1 rfl) fun z _ hz=>up z hz.1,hz.weak fun z _ hz=>up z hz,?_,hwl.weak (fun h=>h.2.2.2.1 rfl) fun z _ hz=>up z hz.1,hwk.weak (fun h=>h.2.2.2.2 rfl) fun z _ hz=>up z hz.1,hp.weak fun z _ hz=>up z hz,rfl,rfl,rfl,rfl,c1,c3,c5,c7,c2,c4,c6,c8,by omega,by omega,by omega,by omega,hS _ (by omega),hS _ (by omega),hS _ (by omega),hS _ (by omega)⟩;obtain ⟨gg,cg,rfl,e1,e2,q5,hwg⟩:=hc.groups.lw hl.groups.1;have t5:gg<n3:=hc.lt3 gg rfl;exact hwg.la ⟨hS _ (by omega),by omega,by omega,by omega,by omega⟩ (fun z _ hz=>up z hz.1) e1 e2
end
section
theorem fr_size:(Tryz.prog.info? 55).map (·.size)=some 9:=by kernel_rfl
abbrev frV (x:Fr):Value:= .agg #[.int .i64 x.file,.int .i64 x.page,.string x.pg.data,.int .i64 x.pg.valid,.int .i64 x.pg.dirty,.int .i64 x.tenant,.int .i64 x.holds,.int .i64 x.reading,.int .i64 x.writing]
theorem fr_one (x:Fr):(#[.int .i64 x.file,.int .i64 x.page,.string x.pg.data,.int .i64 x.pg.valid,.int .i64 x.pg.dirty,.int .i64 x.tenant,.int .i64 x.holds,.int .i64 x.reading,.int .i64 x.writing]:Array Value).all (·.oneCell')=true:=by simp [Value.oneCell']
def putC (C:Ck) (i j:Nat) (y:Fl) (x:Fr):Ck:={C with frames:=C.frames.set i x,files:=markFs C.files j y x}
theorem put_w40 (C:Ck) (i j:Nat) (x:Fr) (y:Fl) (a b c d e f g:Value) (S:Nat→Prop) (w:World) (h:CkAt w S a b c d e f g C) (hl:CkOk C) (hi:i<C.frames.length) (hj:C.files[j]?=some y) (hxf:x.file=j) (hS:∀z,w.heap.size≤z→S z) :
  Calls Tryz.prog 90 #[ckV a b c d e f g,.int .i64 ((i:Int)+1),frV x] w (RetOwn (putC C i j y x) S w):=by
 obtain ⟨S1,hS1⟩:∃S1:Nat→Prop,S1=fun z=>S z∧z≠w.heap.size∧z≠w.heap.size+1∧z≠w.heap.size+1+1:=⟨_,rfl⟩;have s1:∀z,S1 z→S z∧z≠w.heap.size∧z≠w.heap.size+1∧z≠w.heap.size+1+1:=fun z hz=>by rw [hS1] at hz;exact hz
 have s2:∀z,w.heap.size+1+1<z→S1 z:=fun z hz=>by rw [hS1];exact ⟨hS z (by omega),by omega,by omega,by omega⟩
 replace h:CkAt w S1 a b c d e f g C:=h.weak (fun z hz h=>by rw [hS1];exact ⟨h,by omega,by omega,by omega⟩);clear hS1;obtain ⟨A1,m1,c1,A2,m2,c2,A3,m3,c3,A4,m4,c4,A5,m5,c5,A6,m6,c6,A7,m7,c7,rfl,rfl,rfl,rfl,rfl,rfl,rfl⟩:=CkAt.caps h;have H:=H_ h;have HL:=H_ hl;have HJ:=H_ hj;have HXF:=H_ hxf;have i2:(i:Int)<(C.frames.length:Int):=by omega
 have hl2:C.frames.length≤100:=hl.frames.2;clear h hl hj hxf;have HX:=H_ (bk_alloc (bk_alloc (heap_alloc_at w (.cells #[.slice A1 m1 c1,.slice A2 m2 c2,.slice A3 m3 c3,.slice A4 m4 c4,.slice A5 m5 c5,.slice A6 m6 c6,.slice A7 m7 c7] 30)) (oF x)) (oCZ));have HF:=H_ (bk_alloc (heap_at_new (w.alloc (.cells #[.slice A1 m1 c1,.slice A2 m2 c2,.slice A3 m3 c3,.slice A4 m4 c4,.slice A5 m5 c5,.slice A6 m6 c6,.slice A7 m7 c7] 30)) (oF x) (w.heap.size+1) (by simp)) (oCZ));have HR:=H_ (heap_at_new ((w.alloc (.cells #[.slice A1 m1 c1,.slice A2 m2 c2,.slice A3 m3 c3,.slice A4 m4 c4,.slice A5 m5 c5,.slice A6 m6 c6,.slice A7 m7 c7] 30)).alloc (oF x)) (oCZ) (w.heap.size+1+1) (by simp));have HW:=H_ (bl_alloc (bl_alloc (bl_alloc (Below.refl w.heap.size w) (.cells #[.slice A1 m1 c1,.slice A2 m2 c2,.slice A3 m3 c3,.slice A4 m4 c4,.slice A5 m5 c5,.slice A6 m6 c6,.slice A7 m7 c7] 30)) (oF x)) (oCZ));have HZ:(((w.alloc (.cells #[.slice A1 m1 c1,.slice A2 m2 c2,.slice A3 m3 c3,.slice A4 m4 c4,.slice A5 m5 c5,.slice A6 m6 c6,.slice A7 m7 c7] 30)).alloc (oF x)).alloc (oCZ)).heap.size=w.heap.size+1+1+1:=by simp
 go_enter Tryz.func90,Tryz.ntmps90
 go_upto_region 1 with fail
 generalize ((w.alloc (.cells #[.slice A1 m1 c1,.slice A2 m2 c2,.slice A3 m3 c3,.slice A4 m4 c4,.slice A5 m5 c5,.slice A6 m6 c6,.slice A7 m7 c7] 30)).alloc (oF x)).alloc (oCZ)=W at HX HR HF HW HZ;obtain ⟨x0,x1,x2,x3,x4,x5,x6⟩:=cs7 HX.out
 go_upto_region 2 with (first
  | (go_at_call 69;go_loud (with_reducible refine CM (copyL_w C _ _ _ _ _ _ _ S1 _ (H.out.step HW.out) HL.out (fun z hz=>s2 z (by omega))) ?_);rintro e w1 ⟨gf,nf,cf,gr,nr,cr,c',d',gl,nl,cl,gk,nk,ck,g',rfl,hc1,hb1⟩;obtain ⟨P3,n3,r3,rfl⟩:=hc1.zones.cap;obtain ⟨P4,n4,r4,rfl⟩:=hc1.groups.cap;obtain ⟨P7,n7,r7,rfl⟩:=hc1.ptes.cap;have ef:=hc1.ef;subst ef;have er:=hc1.er;subst er;have HX1:=bkh HX hb1;have HR1:=bkh HR hb1;have HF1:=bkh HF hb1;have HW1:=blh HW hb1;have HC1:=H_ hc1;clear hc1 hb1)
  | (refine st_ck rfl (.tmp 3) (.tmp 8) rfl rfl (w.heap.size) rfl rfl HX1.out rfl ?_)
  | fail)
 have HX2:=H_ (show (w1.setRow w.heap.size (#[.slice (some ⟨gf,0,none⟩) C.files.length cf,.slice (some ⟨gr,0,none⟩) C.frames.length cr,.slice P3 n3 r3,.slice P4 n4 r4,.slice (some ⟨gl,0,none⟩) nl cl,.slice (some ⟨gk,0,none⟩) nk ck,.slice P7 n7 r7]:Array Value)).heap[w.heap.size]?=some (.cells (#[.slice (some ⟨gf,0,none⟩) C.files.length cf,.slice (some ⟨gr,0,none⟩) C.frames.length cr,.slice P3 n3 r3,.slice P4 n4 r4,.slice (some ⟨gl,0,none⟩) nl cl,.slice (some ⟨gk,0,none⟩) nk ck,.slice P7 n7 r7]:Array Value) 30 (0,0)) from setRow_heap _ _ _ _ _ _ HX1.out);have HF2:=H_ ((setRow_other w1 w.heap.size (w.heap.size+1) (#[.slice (some ⟨gf,0,none⟩) C.files.length cf,.slice (some ⟨gr,0,none⟩) C.frames.length cr,.slice P3 n3 r3,.slice P4 n4 r4,.slice (some ⟨gl,0,none⟩) nl cl,.slice (some ⟨gk,0,none⟩) nk ck,.slice P7 n7 r7]:Array Value) (by omega)).trans HF1.out);have HR2:=H_ ((setRow_other w1 w.heap.size (w.heap.size+1+1) (#[.slice (some ⟨gf,0,none⟩) C.files.length cf,.slice (some ⟨gr,0,none⟩) C.frames.length cr,.slice P3 n3 r3,.slice P4 n4 r4,.slice (some ⟨gl,0,none⟩) nl cl,.slice (some ⟨gk,0,none⟩) nk ck,.slice P7 n7 r7]:Array Value) (by omega)).trans HR1.out);have HW2:=H_ (bl_setRow HW1.out (Nat.le_refl _) (#[.slice (some ⟨gf,0,none⟩) C.files.length cf,.slice (some ⟨gr,0,none⟩) C.frames.length cr,.slice P3 n3 r3,.slice P4 n4 r4,.slice (some ⟨gl,0,none⟩) nl cl,.slice (some ⟨gk,0,none⟩) nk ck,.slice P7 n7 r7]:Array Value));have HC2:=H_ (HC1.out.setRow w.heap.size (#[.slice (some ⟨gf,0,none⟩) C.files.length cf,.slice (some ⟨gr,0,none⟩) C.frames.length cr,.slice P3 n3 r3,.slice P4 n4 r4,.slice (some ⟨gl,0,none⟩) nl cl,.slice (some ⟨gk,0,none⟩) nk ck,.slice P7 n7 r7]:Array Value) (fun hz=>(s1 _ hz).2.1 rfl) (by omega));generalize w1.setRow w.heap.size (#[.slice (some ⟨gf,0,none⟩) C.files.length cf,.slice (some ⟨gr,0,none⟩) C.frames.length cr,.slice P3 n3 r3,.slice P4 n4 r4,.slice (some ⟨gl,0,none⟩) nl cl,.slice (some ⟨gk,0,none⟩) nk ck,.slice P7 n7 r7]:Array Value)=W2 at HX2 HF2 HR2 HW2 HC2
 clear x0 x1 x2 x3 x4 x5 x6;obtain ⟨x0,x1,x2,x3,x4,x5,x6⟩:=cs7 HX2.out;obtain ⟨f0,f1,f2,f3,f4,f5,f6,f7,f8⟩:=cs9 HF2.out;have HTh:=H_ (LW.there HC2.out.frames hi (p:=0) (n:=9) (by omega));rw [Nat.add_zero] at HTh
 go_upto_region 3 with (first
  | (refine wpList_store_mid rfl 55 (.tmp 14) (.tmp 13) rfl gr (i*9) #[.int .i64 x.file,.int .i64 x.page,.string x.pg.data,.int .i64 x.pg.valid,.int .i64 x.pg.dirty,.int .i64 x.tenant,.int .i64 x.holds,.int .i64 x.reading,.int .i64 x.writing] rfl rfl HTh.out fr_size (fr_one x) ?_)
  | fail)
 have HC3:=H_ (HC2.out.frame hi x);have HX3:=H_ ((heap_setCells gr [.int .i64 x.file,.int .i64 x.page,.string x.pg.data,.int .i64 x.pg.valid,.int .i64 x.pg.dirty,.int .i64 x.tenant,.int .i64 x.holds,.int .i64 x.reading,.int .i64 x.writing] (i*9) W2 w.heap.size (by have:=HC2.out.o2;have:=HC2.out.o1;omega)).trans HX2.out);have HR3:=H_ ((heap_setCells gr [.int .i64 x.file,.int .i64 x.page,.string x.pg.data,.int .i64 x.pg.valid,.int .i64 x.pg.dirty,.int .i64 x.tenant,.int .i64 x.holds,.int .i64 x.reading,.int .i64 x.writing] (i*9) W2 (w.heap.size+1+1) (by have:=HC2.out.o2;have:=HC2.out.o1;omega)).trans HR2.out);have HW3:=H_ (bl_setCells HW2.out (by have:=HC2.out.o2;have:=HC2.out.o1;omega:w.heap.size≤gr) (i*9) [.int .i64 x.file,.int .i64 x.page,.string x.pg.data,.int .i64 x.pg.valid,.int .i64 x.pg.dirty,.int .i64 x.tenant,.int .i64 x.holds,.int .i64 x.reading,.int .i64 x.writing]);rw [show x.row=[.int .i64 x.file,.int .i64 x.page,.string x.pg.data,.int .i64 x.pg.valid,.int .i64 x.pg.dirty,.int .i64 x.tenant,.int .i64 x.holds,.int .i64 x.reading,.int .i64 x.writing] from rfl] at HC3;generalize W2.setCells gr (i*9) _=W3 at HC3 HX3 HR3 HW3;clear x0 x1 x2 x3 x4 x5 x6 f0 f1 f2 f3 f4 f5 f6 f7 f8;obtain ⟨x0,x1,x2,x3,x4,x5,x6⟩:=cs7 HX3.out
 go_wp2_with (first
  | (go_at_call 131;go_loud (with_reducible refine CM (cmark_w C.files (C.frames.set i x) i j x y gf cf _ _ _ _ _ _ _ _ _ _ _ _ _ _ _ _ (TS S1 gf gr gl gk) S1 _ HC3.out.files HC3.out.at_.frames (List.getElem?_set_self hi) HJ.out HXF.out HL.out.files.2 (by rw [List.length_set];exact hl2) HC3.out.lf (HC3.out.fresh (fun z hz=>s2 z (by have:=HC3.out.lt;have:=HC3.out.o1;have:=HC3.out.o2;have:=HC3.out.o3;have:=HC3.out.o4;omega)))) ?_);rintro e w4 ⟨rfl,hf4,hg4⟩;have HC4:=H_ (HC3.out.putFiles hg4 hf4 (markFs_len _ _ _ _));have HR4:=H_ ((hg4.block _ (bk_lt HR3.out) (by have:=HC3.out.o1;simp;omega)).trans HR3.out);have HW4:=H_ (HW3.out.grown hg4 HW3.out.size (fun b hb=>by have:=HC3.out.o1;cases hb;omega));clear hf4 hg4)
  | (refine st_ck rfl (.tmp 6) (.tmp 17) rfl rfl (w.heap.size+1+1) rfl rfl HR4.out rfl ?_))
 show bodyPost Tryz.prog Tryz.f90 _ _ _ _
 refine bodyPost_ret (ck_res rfl _ _ (w.heap.size+1+1) _ _ _ _ _ _ _ _ _ rfl (setRow_heap _ _ _ _ _ _ HR4.out)) rfl ?_;refine ⟨gf,_,cf,gr,_,cr,_,_,gl,nl,cl,gk,nk,ck,_,rfl,?_,bl_setRow HW4.out (by omega) _⟩;exact (HC4.out.setRow (w.heap.size+1+1) (#[.slice (some ⟨gf,0,none⟩) C.files.length cf,.slice (some ⟨gr,0,none⟩) C.frames.length cr,.slice P3 n3 r3,.slice P4 n4 r4,.slice (some ⟨gl,0,none⟩) nl cl,.slice (some ⟨gk,0,none⟩) nk ck,.slice P7 n7 r7]:Array Value) (fun hz=>(s1 _ hz).2.2.2 rfl) (by omega)).weak (by omega) (fun z hz=>(s1 z hz).1) hS
end
section
def SK.lr2 (T:Nat→Prop) (a:Lr) (err:Int) {S:Nat→Prop} (hT:∀z,T z→S z):SK S:=⟨fun v w=>∃v1 v2 v3,v = .tuple #[.agg #[v1,v2,v3],.int .i64 err]∧LrA w T v1 v2 v3 a,fun v w w' hk ⟨v1,v2,v3,e,h⟩=>⟨v1,v2,v3,e,h.kept ⟨hk.1,fun z hz=>hk.2 z (hT z hz)⟩⟩⟩
def SK.lr (T:Nat→Prop) (a:Lr) {S:Nat→Prop} (hT:∀z,T z→S z):SK S:=⟨fun v w=>∃v1 v2 v3,v = .agg #[v1,v2,v3]∧LrA w T v1 v2 v3 a,fun v w w' hk ⟨v1,v2,v3,e,h⟩=>⟨v1,v2,v3,e,h.kept ⟨hk.1,fun z hz=>hk.2 z (hT z hz)⟩⟩⟩
theorem LW.lr_at {w:World} {S:Nat→Prop} {g:Nat} {L:List Lr} (h:LW LrR w S g L) {i:Nat} {x:Lr} (hi:L[i]?=some x):∃A1 n1 c1 A2 n2 c2 A3 n3 c3,LrA w S (.slice A1 n1 c1) (.slice A2 n2 c2) (.slice A3 n3 c3) x∧w.cell? ⟨g,i*3,none⟩=some (.slice A1 n1 c1)∧w.cell? ⟨g,i*3+1,none⟩=some (.slice A2 n2 c2)∧w.cell? ⟨g,i*3+2,none⟩=some (.slice A3 n3 c3):=by
 obtain ⟨r,hr,hc⟩:=h.at_ hi;obtain ⟨v1,v2,v3,rfl,hA⟩:=hr;obtain ⟨A1,n1,c1,rfl⟩:=hA.1.cap;obtain ⟨A2,n2,c2,rfl⟩:=hA.2.1.cap;obtain ⟨A3,n3,c3,rfl⟩:=hA.2.2.cap;exact ⟨A1,n1,c1,A2,n2,c2,A3,n3,c3,hA,hc 0 _ rfl,hc 1 _ rfl,hc 2 _ rfl⟩
def accC (C:Ck) (t:Nat) (l:Lr) (i:Nat):Ck:={C with lists:=C.lists.set t (touchL l ((i:Int)+1))}
theorem access_w (C:Ck) (i t:Nat) (fr:Fr) (l:Lr) (a b c d e f g:Value) (S:Nat→Prop) (w:World) (h:CkAt w S a b c d e f g C) (hl:CkOk C) (hx:C.frames[i]?=some fr) (hft:fr.tenant=t) (hlt:C.lists[t]?=some l) (ok:LruOk l) (hi64:i<64) (hS:∀z,w.heap.size≤z→S z) :
  Calls Tryz.prog 101 #[ckV a b c d e f g,.int .i64 ((i:Int)+1)] w (RetOwn (accC C t l i) S w):=by
 obtain ⟨S1,s1,s2,s3⟩:=s1set hS;replace h:=h.weak s3;clear s3;obtain ⟨A1,m1,c1,A2,m2,c2,A3,m3,c3,A4,m4,c4,A5,m5,c5,A6,m6,c6,A7,m7,c7,rfl,rfl,rfl,rfl,rfl,rfl,rfl⟩:=CkAt.caps h;have hil:=(g_l hx);have htl:=(g_l hlt);have i2:(i:Int)<(C.frames.length:Int):=by omega
 have t2:(t:Int)<(C.lists.length:Int):=by omega
 have hl2:C.frames.length≤100:=hl.frames.2;have hl3:C.lists.length≤100:=hl.lists.2;have H:=H_ h;have HL:=H_ hl;have HLT:=H_ hlt;have HFR:=H_ hx;have HFT:=H_ hft;have OK:=H_ ok;clear h hl hlt hx hft ok;go_enter Tryz.func101,Tryz.ntmps101
 go_upto_region 1 with fail
 generalize hW9:(w.alloc _).alloc _=W;obtain ⟨HX,HR,HW,HZ⟩:=two_box hW9;clear hW9;obtain ⟨x0,x1,x2,x3,x4,x5,x6⟩:=cs7 HX.out
 go_upto_region 2 with (first
  | (go_at_call 69;go_loud (with_reducible refine CM (copyL_w C _ _ _ _ _ _ _ S1 _ (H.out.step HW.out) HL.out (fun z hz=>s2 z (by omega))) ?_);rintro e w1 ⟨gf,nf,cf,gr,nr,cr,c',d',gl,nl,cl,gk,nk,ck,g',rfl,hc1,hb1⟩;obtain ⟨P3,n3,r3,rfl⟩:=hc1.zones.cap;obtain ⟨P4,n4,r4,rfl⟩:=hc1.groups.cap;obtain ⟨P7,n7,r7,rfl⟩:=hc1.ptes.cap;have el:=hc1.el;subst el;have er:=hc1.er;subst er;have HX1:=bkh HX hb1;have HR1:=bkh HR hb1;have HW1:=blh HW hb1;have HC1:=H_ hc1;clear hc1 hb1)
  | (refine st_ck rfl (.tmp 2) (.tmp 7) rfl rfl (w.heap.size) rfl rfl HX1.out rfl ?_)
  | fail)
 have HX2:=H_ (show (w1.setRow w.heap.size (#[.slice (some ⟨gf,0,none⟩) nf cf,.slice (some ⟨gr,0,none⟩) C.frames.length cr,.slice P3 n3 r3,.slice P4 n4 r4,.slice (some ⟨gl,0,none⟩) C.lists.length cl,.slice (some ⟨gk,0,none⟩) nk ck,.slice P7 n7 r7]:Array Value)).heap[w.heap.size]?=some (.cells (#[.slice (some ⟨gf,0,none⟩) nf cf,.slice (some ⟨gr,0,none⟩) C.frames.length cr,.slice P3 n3 r3,.slice P4 n4 r4,.slice (some ⟨gl,0,none⟩) C.lists.length cl,.slice (some ⟨gk,0,none⟩) nk ck,.slice P7 n7 r7]:Array Value) 30 (0,0)) from setRow_heap _ _ _ _ _ _ HX1.out);have HR2:=H_ ((setRow_other w1 w.heap.size (w.heap.size+1) (#[.slice (some ⟨gf,0,none⟩) nf cf,.slice (some ⟨gr,0,none⟩) C.frames.length cr,.slice P3 n3 r3,.slice P4 n4 r4,.slice (some ⟨gl,0,none⟩) C.lists.length cl,.slice (some ⟨gk,0,none⟩) nk ck,.slice P7 n7 r7]:Array Value) (by omega)).trans HR1.out);have HW2:=H_ (bl_setRow HW1.out (Nat.le_refl _) (#[.slice (some ⟨gf,0,none⟩) nf cf,.slice (some ⟨gr,0,none⟩) C.frames.length cr,.slice P3 n3 r3,.slice P4 n4 r4,.slice (some ⟨gl,0,none⟩) C.lists.length cl,.slice (some ⟨gk,0,none⟩) nk ck,.slice P7 n7 r7]:Array Value));have HC2:=H_ (HC1.out.setRow w.heap.size (#[.slice (some ⟨gf,0,none⟩) nf cf,.slice (some ⟨gr,0,none⟩) C.frames.length cr,.slice P3 n3 r3,.slice P4 n4 r4,.slice (some ⟨gl,0,none⟩) C.lists.length cl,.slice (some ⟨gk,0,none⟩) nk ck,.slice P7 n7 r7]:Array Value) (fun hz=>(s1 _ hz).2.1 rfl) (by omega));generalize w1.setRow w.heap.size (#[.slice (some ⟨gf,0,none⟩) nf cf,.slice (some ⟨gr,0,none⟩) C.frames.length cr,.slice P3 n3 r3,.slice P4 n4 r4,.slice (some ⟨gl,0,none⟩) C.lists.length cl,.slice (some ⟨gk,0,none⟩) nk ck,.slice P7 n7 r7]:Array Value)=W2 at HX2 HR2 HW2 HC2;clear x0 x1 x2 x3 x4 x5 x6;obtain ⟨x0,x1,x2,x3,x4,x5,x6⟩:=cs7 HX2.out;have y5:W2.cell? ⟨gr,i*9+5,none⟩=some (.int .i64 (t:Int)):=by rw [←HFT.out];exact LW.frame_at HC2.out.frames HFR.out 5 _ rfl
 go_upto_region 3 with fail
 clear y5;obtain ⟨E1,k1,e1,E2,k2,e2,E3,k3,e3,hA,l0,l1,l2⟩:=LW.lr_at HC2.out.lists HLT.out;have HA:=H_ hA;clear hA;have hlx:=bk_lt HX2.out;have hlg:=HC2.out.lists.lt
 go_cut [] (fun wx=>CpL wx S1 W.heap.size gf nf cf gr C.frames.length cr (.slice P3 n3 r3) (.slice P4 n4 r4) gl C.lists.length cl gk nk ck (.slice P7 n7 r7) (accC C t l i)∧wx.heap[w.heap.size]?=some (.cells (#[.slice (some ⟨gf,0,none⟩) nf cf,.slice (some ⟨gr,0,none⟩) C.frames.length cr,.slice P3 n3 r3,.slice P4 n4 r4,.slice (some ⟨gl,0,none⟩) C.lists.length cl,.slice (some ⟨gk,0,none⟩) nk ck,.slice P7 n7 r7]:Array Value) 30 (0,0))∧wx.heap[w.heap.size+1]?=some (oCZ)∧Below w.heap.size w wx)
 case first=>
  refine wp_region_sk (S:=TS S1 gf gr gl gk) 30 14 (inL [0,1,2,3,4,5,6,7,8,9,10,11,13]) (fun wx=>CpL wx S1 W.heap.size gf nf cf gr C.frames.length cr (.slice P3 n3 r3) (.slice P4 n4 r4) gl C.lists.length cl gk nk ck (.slice P7 n7 r7) (accC C t l i)∧wx.heap[w.heap.size]?=some (.cells (#[.slice (some ⟨gf,0,none⟩) nf cf,.slice (some ⟨gr,0,none⟩) C.frames.length cr,.slice P3 n3 r3,.slice P4 n4 r4,.slice (some ⟨gl,0,none⟩) C.lists.length cl,.slice (some ⟨gk,0,none⟩) nk ck,.slice P7 n7 r7]:Array Value) 30 (0,0))∧wx.heap[w.heap.size+1]?=some (oCZ)∧Below w.heap.size w wx) [SK.eq (.pointer (some ⟨w.heap.size,4,none⟩)),SK.eq (.slice (some ⟨gl,0,none⟩) C.lists.length cl),SK.eq (.int .i64 (t:Int)),SK.eq (.pointer (some ⟨w.heap.size,4,none⟩)),SK.eq (.slice (some ⟨gl,0,none⟩) C.lists.length cl),SK.eq (.int .i64 (t:Int)),SK.eq (.pointer (some ⟨gl,t*3,none⟩)),SK.eq (.agg #[.slice E1 k1 e1,.slice E2 k2 e2,.slice E3 k3 e3]),SK.eq (.int .i64 ((i:Int)+1)),SK.lr2 (TS S1 gf gr gl gk) (touchL l ((i:Int)+1)) (if hasL l ((i:Int)+1)=true then 0 else 4) (fun _ h=>h),SK.lr2 (TS S1 gf gr gl gk) (touchL l ((i:Int)+1)) (if hasL l ((i:Int)+1)=true then 0 else 4) (fun _ h=>h),SK.lr (TS S1 gf gr gl gk) (touchL l ((i:Int)+1)) (fun _ h=>h),SK.eq (.int .i64 (if hasL l ((i:Int)+1)=true then 0 else 4)),SK.eq (.pointer (some ⟨gl,t*3,none⟩)),SK.any] (by kernel_rfl) (by kernel_rfl) rfl (fun _=>trivial) ?_;refine rP rfl rfl (fun xw hC hd K hK=>?_) (fun v0=>?_)
  ·go_simp;exact hK _ _ hC K_ rfl
  simp only [ly];refine rP rfl rfl (fun xw hC hd K hK=>?_) (fun v1=>?_)
  ·obtain rfl:v0=_:=hd 0 (by kernel_rfl);have hC':Below W2.heap.size W2 xw:=hC;have u0:=(hC'.cell (p:=⟨w.heap.size,_,none⟩) hlx).trans x4;go_simp;exact hK _ _ hC K_ rfl
  simp only [ly];refine rP rfl rfl (fun xw hC hd K hK=>?_) (fun v2=>?_)
  ·go_simp;exact hK _ _ hC K_ rfl
  simp only [ly];refine rP rfl rfl (fun xw hC hd K hK=>?_) (fun v3=>?_)
  ·go_simp;exact hK _ _ hC K_ rfl
  simp only [ly];refine rP rfl rfl (fun xw hC hd K hK=>?_) (fun v4=>?_)
  ·obtain rfl:v3=_:=hd 3 (by kernel_rfl);have hC':Below W2.heap.size W2 xw:=hC;have u0:=(hC'.cell (p:=⟨w.heap.size,_,none⟩) hlx).trans x4;go_simp;exact hK _ _ hC K_ rfl
  simp only [ly];refine rP rfl rfl (fun xw hC hd K hK=>?_) (fun v5=>?_)
  ·go_simp;exact hK _ _ hC K_ rfl
  simp only [ly];refine rP rfl rfl (fun xw hC hd K hK=>?_) (fun v6=>?_)
  ·obtain rfl:v4=_:=hd 4 (by kernel_rfl);obtain rfl:v5=_:=hd 5 (by kernel_rfl);go_simp;exact hK _ _ hC K_ rfl
  simp only [ly];refine rP rfl rfl (fun xw hC hd K hK=>?_) (fun v7=>?_)
  ·obtain rfl:v6=_:=hd 6 (by kernel_rfl);have hC':Below W2.heap.size W2 xw:=hC;have u0:=(hC'.cell (p:=⟨gl,_,none⟩) hlg).trans l0;have u1:=(hC'.cell (p:=⟨gl,_,none⟩) hlg).trans l1;have u2:=(hC'.cell (p:=⟨gl,_,none⟩) hlg).trans l2;go_simp;exact hK _ _ hC K_ rfl
  simp only [ly];refine rP rfl rfl (fun xw hC hd K hK=>?_) (fun v8=>?_)
  ·go_simp;exact hK _ _ hC K_ rfl
  simp only [ly];refine rP rfl rfl (fun xw hC hd K hK=>?_) (fun v9=>?_)
  ·obtain rfl:v7=_:=hd 7 (by kernel_rfl);obtain rfl:v8=_:=hd 8 (by kernel_rfl);have hC':Below W2.heap.size W2 xw:=hC;go_simp
   go_at_call 140
   refine (touch_w l ((i:Int)+1) _ _ _ (TS S1 gf gr gl gk) _ (HA.out.step hC') OK.out ⟨by omega,by omega⟩ (HC2.out.step hC' |>.fresh (fun z hz=>s2 z (by have:=HC2.out.lt;have:=hC'.size;have:=HC2.out.o1;have:=HC2.out.o2;have:=HC2.out.o3;have:=HC2.out.o4;omega)))).mono ?_;rintro e w1 ⟨q1,q2,q3,rfl,hA,hb⟩;exact hK _ _ (bl_step hC' hb) (KeepS.of_below hb) ⟨q1,q2,q3,rfl,hA⟩
  simp only [ly];refine rP rfl rfl (fun xw hC hd K hK=>?_) (fun v10=>?_)
  ·obtain ⟨q1,q2,q3,e,hA⟩:=hd 9 (by kernel_rfl);obtain rfl:v9=_:=e;go_simp;exact hK _ _ hC K_ ⟨q1,q2,q3,rfl,hA⟩
  simp only [ly];refine rP rfl rfl (fun xw hC hd K hK=>?_) (fun v11=>?_)
  ·obtain ⟨q1,q2,q3,e,hA⟩:=hd 10 (by kernel_rfl);obtain rfl:v10=_:=e;go_simp;exact hK _ _ hC K_ ⟨q1,q2,q3,rfl,hA⟩
  simp only [ly];refine rA rfl (fun w=>KeepS.refl w) (fun xw hd K hK=>?_) (fun v12=>?_)
  ·obtain ⟨q1,q2,q3,e,hA⟩:=hd 10 (by kernel_rfl);obtain rfl:v10=_:=e;go_simp;exact hK _ rfl
  simp only [ly];refine rP rfl rfl (fun xw hC hd K hK=>?_) (fun v13=>?_)
  ·obtain rfl:v1=_:=hd 1 (by kernel_rfl);obtain rfl:v2=_:=hd 2 (by kernel_rfl);go_simp;exact hK _ _ hC K_ rfl
  simp only [ly];refine rS (fun xw hC hd K hK=>?_) (fun v14=>?_)
  ·obtain rfl:v13=_:=hd 13 (by kernel_rfl);obtain ⟨q1,q2,q3,e,hA⟩:=hd 11 (by kernel_rfl);obtain rfl:v11=_:=e;have hC':Below W2.heap.size W2 xw:=hC;obtain ⟨B1,j1,f1,rfl⟩:=hA.1.cap;obtain ⟨B2,j2,f2,rfl⟩:=hA.2.1.cap;obtain ⟨B3,j3,f3,rfl⟩:=hA.2.2.cap;have HC3:=HC2.out.step hC';have hth:=LW.there HC3.lists htl (p:=0) (n:=3) (by omega);rw [Nat.add_zero] at hth;have hne:gl≠w.heap.size∧gl≠w.heap.size+1:=by have:=HC3.o1;have:=HC3.o2;have:=HC3.o3;omega
   refine wp_of_list (ops:=#[]) rfl (wpList_store_mid rfl 121 (.tmp 28) (.tmp 26) rfl gl (t*3) #[.slice B1 j1 f1,.slice B2 j2 f2,.slice B3 j3 f3] rfl rfl hth lru_size (one3 _ _ _ _ _ _ _ _ _) ?_);refine hK undef _ ⟨HC3.putLists (gb_setCells xw gl (t*3) _) (HC3.lists.set htl ⟨_,_,_,rfl,hA⟩) (by simp),?_,?_,?_⟩ (KeepS.of_setCells _ _ _ _ (fun h=>h.2.2.2.1 rfl)) trivial
   ·exact (heap_setCells gl _ (t*3) xw w.heap.size hne.1.symm).trans (bk_step HX2.out hC')
   ·exact (heap_setCells gl _ (t*3) xw (w.heap.size+1) hne.2.symm).trans (bk_step HR2.out hC')
   ·exact bl_setCells (bl_step HW2.out hC') (by have:=HC3.o1;have:=HC3.o2;have:=HC3.o3;omega) _ _
  simp only [ly];refine relWalkA_nil ?_;intro wz hD hG;clear hG;go_wp2;go_meet
  case rel=>exact hD
 case rest=>
  clear x0 x1 x2 x3 x4 x5 x6 l0 l1 l2 hlx hlg HX2 HR2 HW2;obtain ⟨hC3,hX3,hR3,hW3⟩:=hcut;have HC3:=H_ hC3;have HR3:=H_ hR3;have HW3:=H_ hW3;clear hC3 hR3 hW3;obtain ⟨x0,x1,x2,x3,x4,x5,x6⟩:=cs7 hX3
  go_wp2_with (refine st_ck rfl (.tmp 4) (.tmp 29) rfl rfl (w.heap.size+1) rfl rfl HR3.out rfl ?_)
  show bodyPost Tryz.prog Tryz.f101 _ _ _ _
  refine bodyPost_ret (ck_res rfl _ _ (w.heap.size+1) _ _ _ _ _ _ _ _ _ rfl (setRow_heap _ _ _ _ _ _ HR3.out)) rfl ?_;refine ⟨gf,_,cf,gr,_,cr,_,_,gl,_,cl,gk,nk,ck,_,rfl,?_,bl_setRow HW3.out (by omega) _⟩;exact (HC3.out.setRow (w.heap.size+1) (#[.slice (some ⟨gf,0,none⟩) nf cf,.slice (some ⟨gr,0,none⟩) C.frames.length cr,.slice P3 n3 r3,.slice P4 n4 r4,.slice (some ⟨gl,0,none⟩) C.lists.length cl,.slice (some ⟨gk,0,none⟩) nk ck,.slice P7 n7 r7]:Array Value) (fun hz=>(s1 _ hz).2.2 rfl) (by omega)).weak (by omega) (fun z hz=>(s1 z hz).1) hS
end
end Go.Proofs.YthhekebemmckcaaGreatDoor
