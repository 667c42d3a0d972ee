/-
  Lemmas and contracts for the laws of synchronisations (layer 43), part 42; several texts joined by a program.
-/
import Derived.Test.YthhekebemmckcaaGreatDoorJ01
import Derived.Test.YthhekebemmckcaaGreatDoorJ16
import Derived.Test.YthhekebemmckcaaGreatDoorJ30
import Derived.Test.YthhekebemmckcaaGreatDoorJ38
import Derived.Test.YthhekebemmckcaaGreatDoorJ39
import Derived.Test.YthhekebemmckcaaGreatDoorJ41
import Derived.Deep.CutRange
namespace Go.Proofs.YthhekebemmckcaaGreatDoor
set_option linter.unusedVariables false
set_option linter.unusedSimpArgs false
set_option maxRecDepth 100000
set_option maxHeartbeats 16000000
open Go.RowKit
section
theorem end_t (W w:World) (b:Nat) (hT:Tp W b w):Calls Tryz.prog 11 #[.pointer (some ⟨b,0,none⟩)] w fun e w'=>∃q,e = .returned (.bool q)∧Below w.heap.size w w':=by
 obtain ⟨⟨a,len,cap,k,h1,h2,h3,h4⟩,_⟩:=hT;have c0:w.cell? ⟨b,0,none⟩=some (.slice a len cap):=by rw [cells_at h1];rfl
 have c1:w.cell? ⟨b,1,none⟩=some (.int .i64 (k:Int)):=by rw [cells_at h1];rfl
 go_enter Tryz.func11,Tryz.ntmps11;go_wp2;go_quiet (fail);go_wp2;go_ret;exact ⟨_,rfl,below_drewN B_ _⟩
theorem row_la {α:Type} {k:Nat} {R:RR α k} {w:World} {S:Nat→Prop} {g n:Nat} {e:TypeId} {rows:List (List Value)} {L:List α} (hg:w.heap[g]?=some (.cells rows.flatten.toArray e (0,0))) (h:All2 (R.p w (fun b=>S b∧g≠b)) L rows) (hn:L.length=n) (hm:n≤maxLen) (hS:S g):LA R w S (.slice (some ⟨g,0,none⟩) n n) L:=by
 subst hn;have:=LO.fresh (base:=g) hg (Nat.le_refl _) h hm;exact this.laV (fun _ _ h=>h) (fun b hb=>by simp only [Value.ownBlock,Option.some.injEq] at hb;exact hb ▸ hS)
theorem two_groups (w:World) (a p c q:Int) (S:Nat→Prop) (hS:S w.heap.size):LA GrR (w.alloc (.cells #[.int .i64 a,.int .i64 p,.int .i64 0,.int .i64 c,.int .i64 q,.int .i64 0] 57)) S (.slice (some ⟨w.heap.size,0,none⟩) 2 2) [⟨a,p,0⟩,⟨c,q,0⟩]:=
 row_la (rows:=[[.int .i64 a,.int .i64 p,.int .i64 0],[.int .i64 c,.int .i64 q,.int .i64 0]]) (heap_alloc_new _ _) ⟨rfl,rfl,trivial⟩ rfl (by unfold maxLen;omega) hS
theorem three_places (w:World) (S:Nat→Prop) (hS:S w.heap.size):LA PlR (w.alloc (.cells #[.int .i64 0,.int .i64 0,.int .i64 0,.int .i64 1,.int .i64 1,.int .i64 2] 61)) S (.slice (some ⟨w.heap.size,0,none⟩) 3 3) [⟨0,0⟩,⟨0,1⟩,⟨1,2⟩]:=
 row_la (rows:=[[.int .i64 0,.int .i64 0],[.int .i64 0,.int .i64 1],[.int .i64 1,.int .i64 2]]) (heap_alloc_new _ _) ⟨rfl,rfl,rfl,trivial⟩ rfl (by unfold maxLen;omega) hS
theorem three_ok:PlsOk [⟨0,0⟩,⟨0,1⟩,⟨1,2⟩]:=by
 refine ⟨fun x hx=>?_,by decide,by decide,fun i k x y hk hx hy=>?_⟩
 ·simp only [List.mem_cons,List.not_mem_nil,or_false] at hx
  rcases hx with rfl | rfl | rfl <;> decide
 ·have hi:=(g_l hx);simp only [List.length_cons,List.length_nil] at hi;obtain rfl | rfl | rfl:i=0∨i=1∨i=2:=by omega
  ·omega
  ·obtain rfl:k=0:=by omega
   obtain rfl:=Option.some.inj hx;obtain rfl:=Option.some.inj hy
   decide
  ·obtain rfl | rfl:k=0∨k=1:=by omega
   ·obtain rfl:=Option.some.inj hx;obtain rfl:=Option.some.inj hy
    decide
   ·obtain rfl:=Option.some.inj hx;obtain rfl:=Option.some.inj hy
    decide
theorem two_ints (w:World) (a c:Int) (S:Nat→Prop) (hS:S w.heap.size):LA IntR (w.alloc (.cells #[.int .i64 a,.int .i64 c] 3)) S (.slice (some ⟨w.heap.size,0,none⟩) 2 2) [a,c]:=
 row_la (rows:=[[.int .i64 a],[.int .i64 c]]) (heap_alloc_new _ _) ⟨rfl,rfl,trivial⟩ rfl (by unfold maxLen;omega) hS
theorem sz_two {a c:Int} (h1:2≤a∧a≤8) (h2:2≤c∧c≤8):SzOk [a,c]:=
 ⟨by simp,fun n hn=>by simp only [List.mem_cons,List.not_mem_nil,or_false] at hn;rcases hn with rfl | rfl <;> omega,by unfold sumI;simp;omega⟩
theorem pc_first {W w w3:World} {b:Nat} {a b' c d e f g:Value} {C:Ck} (hI:Inv 3 2 2 C) (hc:CkAt w3 (fun z=>z≠b∧z≠w.heap.size) a b' c d e f g C) (hT:Tp W b w3) (hR:w3.heap[w.heap.size]?=some (oCZ)) (hg:w.grownBy w3 (some b)) (hb:b<w.heap.size) :
  PC 3 2 2 (fun z=>z≠b) W w w b w3.heap.size w.heap.size none a b' c d e f g C ((w3.alloc (oCZ)).setRow w3.heap.size #[a,b',c,d,e,f,g]):=by
 have hs:=bk_lt hR;have hZ:=heap_at_new w3 (oCZ) w3.heap.size rfl;refine ⟨hI,?_,setRow_heap _ _ _ _ _ _ hZ,(setRow_other _ _ _ _ (by omega)).trans (bk_alloc hR _),(hT.alloc _).gb (gb_setRow _ _ _) (by omega),gb_row (grownBy_trans hg (World.grownBy_alloc _ _ _)) (by omega) _,fun z hz=>(by cases hz),by omega,by omega,hb,by omega,fun h=>h rfl,fun z hz=>by omega⟩;exact (((hc.weak (S':=Sx (fun z=>z≠b) w3.heap.size w.heap.size none) (fun z hz h=>⟨h.1,by omega,h.2,fun e=>by cases e⟩)).step (bl_alloc B_ _))).kept (KeepS.of_setRow _ _ _ (fun h=>h.2.1 rfl))
theorem cache_t (W w:World) (b:Nat) (hT:Tp W b w):Calls Tryz.prog 6 #[.pointer (some ⟨b,0,none⟩)] w (RetSt 3 2 2 (fun z=>z≠b) W b w):=by
 have hbw:=hT.lt;have HT:=H_ (hT.alloc (oCZ));have HR:=H_ (heap_alloc_at w (oCZ));have HG:=H_ (World.grownBy_alloc w (oCZ) (some b));clear hT;go_enter Tryz.func6,Tryz.ntmps6
 go_upto_region 1 with fail
 generalize w.alloc (oCZ)=W1 at HT HR HG
 go_cut [3] (fun s3 wx=>∃gs:List Gr,LA GrR wx (fun z=>z≠b∧z≠w.heap.size) s3 gs∧GrsOk gs∧gs.length=2∧(∀g ∈ gs,g.charge=0)∧wx.heap[w.heap.size]?=some (oCZ)∧w.grownBy wx (some b)∧Tp W b wx)
 case first=>
  go_wp2_with (first
   | (go_at_call 7;(with_reducible refine CM (next_t 12 W _ b (by omega) (by omega) HT.out) ?_);rintro e w1 ⟨x,rfl,q0,hx,hT1,hg1⟩;obtain ⟨x,rfl⟩:=Int.eq_ofNat_of_zero_le q0;replace HR:=H_ (gb_block hg1 (by omega) HR.out);replace HG:=H_ (grownBy_trans HG.out hg1);replace HT:=H_ hT1;clear hT1 hg1 q0)
   | (go_at_call 7;(with_reducible refine CM (next_t 4 W _ b (by omega) (by omega) HT.out) ?_);rintro e w1 ⟨x,rfl,q0,hx,hT1,hg1⟩;obtain ⟨x,rfl⟩:=Int.eq_ofNat_of_zero_le q0;replace HR:=H_ (gb_block hg1 (by omega) HR.out);replace HG:=H_ (grownBy_trans HG.out hg1);replace HT:=H_ hT1;clear hT1 hg1 q0))
  go_meet
  case rel=>
   have hs:=bk_lt HR.out;exact ⟨_,two_groups w1 _ _ _ _ _ ⟨by omega,by omega⟩,⟨fun g hg=>by simp only [List.mem_cons,List.not_mem_nil,or_false] at hg;rcases hg with rfl | rfl <;> (dsimp only;omega),by simp,by simp⟩,rfl,fun g hg=>(by simp only [List.mem_cons,List.not_mem_nil,or_false] at hg;rcases hg with rfl | rfl <;> rfl),bk_alloc HR.out _,grownBy_trans HG.out (World.grownBy_alloc _ _ _),HT.out.alloc _⟩
 case rest=>
  clear HT HR HG;obtain ⟨gs,hga,hgo,hg2,hg0,hr,hg,hT⟩:=hcut;have HT:=H_ hT;have HR:=H_ hr;have HG:=H_ hg;have HGA:=H_ hga;clear hr hg hT hga
  go_upto_region 2 with fail
  go_cut [4,5] (fun s4 s5 wx=>∃X er a b' c d e f g C,s4 = .pointer (some ⟨X,0,none⟩)∧s5 = .int .i64 er∧PC 3 2 2 (fun z=>z≠b) W w w b X w.heap.size none a b' c d e f g C wx)
  case first=>
   have hs:=bk_lt HR.out;have HPL:=H_ (three_places wc (fun z=>z≠b∧z≠w.heap.size) ⟨by have:=HT.out.lt;omega,by omega⟩);have hnb:¬(b≠b∧b≠w.heap.size):=fun h=>h.1 rfl;have hsb:b<wc.heap.size:=HT.out.lt
   go_wp2_with (first
    | (go_at_call 7;(with_reducible refine CM (next_t 6 W _ b (by omega) (by omega) HT1.out) ?_);rintro e w2 ⟨y,rfl,q0',hy,hT2,hg2⟩;obtain ⟨y,rfl⟩:=Int.eq_ofNat_of_zero_le q0';have HT2:=H_ (hT2.alloc (.cells #[.int .i64 (2+(x:Int)),.int .i64 (2+(y:Int))] 3));have HR2:=H_ (bk_alloc (gb_block hg2 (by omega) HR1.out) (.cells #[.int .i64 (2+(x:Int)),.int .i64 (2+(y:Int))] 3));have HG2:=H_ (grownBy_trans (grownBy_trans HG1.out hg2) (World.grownBy_alloc w2 (.cells #[.int .i64 (2+(x:Int)),.int .i64 (2+(y:Int))] 3) (some b)));have HPL2:=H_ ((HPL1.out.kept (ks_gb hg2 hnb)).alloc (.cells #[.int .i64 (2+(x:Int)),.int .i64 (2+(y:Int))] 3));have HGA2:=H_ ((HGA1.out.kept (ks_gb hg2 hnb)).alloc (.cells #[.int .i64 (2+(x:Int)),.int .i64 (2+(y:Int))] 3));have HSZ2:=H_ (two_ints w2 (2+(x:Int)) (2+(y:Int)) (fun z=>z≠b∧z≠w.heap.size) ⟨by have:=hT2.lt;omega,by have:=bk_lt HR1.out;have:=hg2.size;omega⟩);clear hT2 hg2)
    | (go_at_call 7;(with_reducible refine CM (next_t 6 W _ b (by omega) (by omega) (HT.out.alloc _)) ?_);rintro e w1 ⟨x,rfl,q0,hx,hT1,hg1⟩;obtain ⟨x,rfl⟩:=Int.eq_ofNat_of_zero_le q0;have HT1:=H_ hT1;have HR1:=H_ (gb_block hg1 (by omega) (bk_alloc HR.out _));have HG1:=H_ (grownBy_trans (grownBy_trans HG.out (World.grownBy_alloc _ _ _)) hg1);have HPL1:=H_ (HPL.out.kept (ks_gb hg1 hnb));have HGA1:=H_ ((HGA.out.alloc _).kept (ks_gb hg1 hnb));clear hT1 hg1)
    | (go_at_call 24;go_loud (refine CM (cnew_w _ _ gs _ _ _ (fun z=>z≠b∧z≠w.heap.size) _ HPL2.out three_ok HSZ2.out (sz_two (by omega) (by omega)) HGA2.out hgo hg0 (fun z hz=>⟨by have:=HT2.out.lt;omega,by have:=bk_lt HR2.out;omega⟩)) ?_);rintro e w3 ⟨C,a1,b1,c1,d1,e1,f1,g1,rfl,rfl,hc1,hb3⟩;obtain ⟨E1,u1,n1,E2,u2,n2,E3,u3,n3,E4,u4,n4,E5,u5,n5,E6,u6,n6,E7,u7,n7,rfl,rfl,rfl,rfl,rfl,rfl,rfl⟩:=CkAt.caps hc1;have HT3:=H_ (HT2.out.step hb3);have HR3:=bkh HR2 hb3;have HG3:=H_ (grownBy_trans HG2.out (gb_of_below hb3 (some b)));have HC3:=H_ hc1;have hs3:=bk_lt HR3.out;have hsb3:=HT3.out.lt;have HZ:=H_ (heap_at_new w3 (oCZ) w3.heap.size rfl))
    | (refine st_ck rfl (.tmp 4) (.tmp 34) rfl rfl w3.heap.size rfl rfl HZ.out rfl ?_))
   go_meet
   case rel=>
    have hinv:=inv_new (F:=3) (G:=2) (Z:=2) rfl hg2 rfl (by omega) three_ok (sz_two (a:=2+(x:Int)) (c:=2+(y:Int)) (by omega) (by omega)) hgo;exact ⟨w3.heap.size,_,_,_,_,_,_,_,_,_,rfl,rfl,pc_first hinv HC3.out HT3.out HR3.out HG3.out hbw⟩
  case rest=>
   clear HT HR HG HGA;obtain ⟨X,er,a,b',c,d,e,f,g,C,rfl,rfl,hP⟩:=hcut;have HP:=H_ hP;clear hP hgo hg2 hg0
   go_wp2_with (go_at_call 7;(with_reducible refine CM (next_t 40 W _ b (by omega) (by omega) HP.out.tp) ?_);rintro e w1 ⟨x,rfl,q0,hx,hT1,hg1⟩;obtain ⟨x,rfl⟩:=Int.eq_ofNat_of_zero_le q0;replace HP:=H_ (HP.out.keep hg1 hT1);clear hT1 hg1)
   go_loopw [6] (fun s6 wx=>∃k:Nat,s6 = .int .i64 (k:Int)∧k≤44∧PCs 3 2 2 (fun z=>z≠b) W w w b X w.heap.size none wx) (fun s6 _=>(intOf s6).toNat)
   case atStart=>exact ⟨4+x,by simp,by omega,_,_,_,_,_,_,_,_,HP.out⟩
   case round=>
    clear HP;obtain ⟨k,rfl,hk,a,b',c,d,e,f,g,C,hP⟩:=hrel;obtain ⟨A1,m1,c1,A2,m2,c2,A3,m3,c3,A4,m4,c4,A5,m5,c5,A6,m6,c6,A7,m7,c7,rfl,rfl,rfl,rfl,rfl,rfl,rfl⟩:=CkAt.caps hP.at_;have HP:=H_ hP;clear hP
    go_upto_region 4 with fail
    go_cut [45] (fun s45 wx=>∃t:Bool,s45 = .bool t∧(t=true→0<k)∧PC 3 2 2 (fun z=>z≠b) W w w b X w.heap.size none (.slice A1 m1 c1) (.slice A2 m2 c2) (.slice A3 m3 c3) (.slice A4 m4 c4) (.slice A5 m5 c5) (.slice A6 m6 c6) (.slice A7 m7 c7) C wx)
    case first=>
     by_cases hk0:0<k
     ·have k1:(0:Int)<(k:Int):=by omega
      go_wp2_with (go_at_call 11;go_loud (refine CM (end_t W _ b HP.out.tp) ?_);rintro e w2 ⟨q,rfl,hb2⟩;replace HP:=H_ (HP.out.step hb2);clear hb2)
      go_meet
      case rel=>exact ⟨_,rfl,fun _=>hk0,HP.out⟩
     ·obtain rfl:k=0:=by omega
      go_wp2;go_meet
      case rel=>exact ⟨_,rfl,(fun h=>by cases h),HP.out⟩
    case rest=>
     clear HP;obtain ⟨t,rfl,ht,hP⟩:=hcut;have HP:=H_ hP;obtain ⟨x0,x1,x2,x3,x4,x5,x6⟩:=cs7 hP.box;clear hP
     cases t with
     | true=>
      have hk0:=ht rfl;clear ht
      go_wp2_with (first
       | (go_at_call 25;go_loud (refine CM (step_t C _ _ _ _ _ _ _ W _ b (Sx (fun z=>z≠b) X w.heap.size none) HP.out.at_ HP.out.inv HP.out.tp (fun h=>h.1 rfl) HP.out.fresh) ?_);rintro e w2 ⟨C1,a1,b1,c1',d1,e1,f1,g1,hI1,rfl,hc1,hT2,hg2⟩;obtain ⟨E1,u1,n1,E2,u2,n2,E3,u3,n3,E4,u4,n4,E5,u5,n5,E6,u6,n6,E7,u7,n7,rfl,rfl,rfl,rfl,rfl,rfl,rfl⟩:=CkAt.caps hc1;have HP2:=H_ (HP.out.keep hg2 hT2))
       | (refine st_ck rfl (.tmp 4) (.tmp 50) rfl rfl X rfl rfl HP2.out.box rfl ?_))
      go_roundw
      case rel=>exact ⟨k - 1,by go_num,by omega,_,_,_,_,_,_,_,_,HP2.out.store hI1 hc1⟩
      case measure=>simp [intOf];omega
     | false=>
      clear ht
      go_wp2_with (refine st_ck rfl (.tmp 2) (.tmp 51) rfl rfl w.heap.size rfl rfl HP.out.res rfl ?_)
      show bodyPost Tryz.prog Tryz.f6 _ _ _ _
      refine bodyPost_ret (ck_res rfl _ _ w.heap.size _ _ _ _ _ _ _ _ _ rfl (setRow_heap _ _ _ _ _ _ HP.out.res)) rfl ?_;obtain ⟨q1,q2,q3⟩:=HP.out.done;exact ⟨C,_,_,_,_,_,_,_,HP.out.inv,rfl,q1,q2,q3⟩
end
section
structure BX (X:Nat) (v1 v2:Value) (s:Sy) (W:World):Prop where
 x:W.heap[X]?=some (.cells #[.int .i64 s.file,.int .i64 s.size,.int .i64 s.stage,v1,v2,.bool s.failed] 37 (0,0))
 a:SyA W Any v1 v2 s
theorem BX.step {X:Nat} {v1 v2:Value} {s:Sy} {W W':World} (h:BX X v1 v2 s W) (hb:Below W.heap.size W W'):BX X v1 v2 s W':=⟨bk_step h.x hb,h.a.step hb⟩
theorem BX.new {v1 v2:Value} {s:Sy} {S:Nat→Prop} {W:World} (h:SyA W S v1 v2 s):BX W.heap.size v1 v2 s ((W.alloc (oSZ)).setRow W.heap.size #[.int .i64 s.file,.int .i64 s.size,.int .i64 s.stage,v1,v2,.bool s.failed]):=
 ⟨setRow_heap _ _ _ _ _ _ (heap_alloc_at W _),((((h.weak (S':=fun z=>z<W.heap.size) (fun z hz _=>hz)).step (bl_alloc B_ _)).kept (KeepS.of_setRow _ _ _ (show ¬(W.heap.size<W.heap.size) by omega)))).weak (fun z _ _=>trivial)⟩
theorem bl_new {W:World} (o:Obj) (cs:Array Value):Below W.heap.size W ((W.alloc o).setRow W.heap.size cs):=bl_setRow (bl_alloc B_ _) (Nat.le_refl _) cs
structure CX (X:Nat) (a b c d e f g:Value) (C:Ck) (W:World):Prop where
 x:W.heap[X]?=some (.cells #[a,b,c,d,e,f,g] 30 (0,0))
 a:CkAt W (fun z=>z≠X) a b c d e f g C
theorem CX.new {a b c d e f g:Value} {C:Ck} {S:Nat→Prop} {W:World} (h:CkAt W S a b c d e f g C):CX W.heap.size a b c d e f g C ((W.alloc (oCZ)).setRow W.heap.size #[a,b,c,d,e,f,g]):=
 ⟨setRow_heap _ _ _ _ _ _ (heap_alloc_at W _),(((h.weak (S':=fun z=>z≠W.heap.size) (fun z hz _=>by omega)).step (bl_alloc B_ _)).kept (KeepS.of_setRow _ _ _ (fun h=>h rfl)))⟩
theorem CX.put {X:Nat} {a b c d e f g a' b' c' d' e' f' g':Value} {C C':Ck} {W W':World} (h:CX X a b c d e f g C W) (hb:Below W.heap.size W W') (h':CkAt W' (fun z=>z≠X) a' b' c' d' e' f' g' C'):CX X a' b' c' d' e' f' g' C' (W'.setRow X #[a',b',c',d',e',f',g']):=
 ⟨setRow_heap _ _ _ _ _ _ (bk_step h.x hb),h'.kept (KeepS.of_setRow _ _ _ (fun h=>h rfl))⟩
theorem one_place (w:World):LA PlR (w.alloc (.cells #[.int .i64 0,.int .i64 0] 61)) Any (.slice (some ⟨w.heap.size,0,none⟩) 1 1) [⟨0,0⟩]:=
 row_la (rows:=[[.int .i64 0,.int .i64 0]]) (heap_alloc_new _ _) ⟨rfl,trivial⟩ rfl (by unfold maxLen;omega) trivial
theorem one_int (w:World):LA IntR (w.alloc (.cells #[.int .i64 8] 3)) Any (.slice (some ⟨w.heap.size,0,none⟩) 1 1) [8]:=
 row_la (rows:=[[.int .i64 8]]) (heap_alloc_new _ _) ⟨rfl,trivial⟩ rfl (by unfold maxLen;omega) trivial
theorem one_group (w:World):LA GrR (w.alloc (.cells #[.int .i64 8,.int .i64 0,.int .i64 0] 57)) Any (.slice (some ⟨w.heap.size,0,none⟩) 1 1) [⟨8,0,0⟩]:=
 row_la (rows:=[[.int .i64 8,.int .i64 0,.int .i64 0]]) (heap_alloc_new _ _) ⟨rfl,trivial⟩ rfl (by unfold maxLen;omega) trivial
theorem one_ok:PlsOk [⟨0,0⟩]:=by
 refine ⟨fun x hx=>?_,by decide,by decide,fun i k x y hk hx hy=>?_⟩
 ·obtain rfl:=List.mem_singleton.1 hx;decide
 ·have hi:=(g_l hx);simp only [List.length_cons,List.length_nil] at hi;omega
theorem sz_one:SzOk [8]:=⟨by simp,fun n hn=>by obtain rfl:=List.mem_singleton.1 hn;omega,by unfold sumI;simp⟩
theorem gr_one:GrsOk [⟨8,0,0⟩]:=⟨fun g hg=>by obtain rfl:=List.mem_singleton.1 hg;decide,by decide,by decide⟩
theorem aw_inv:Inv 1 1 1 awC:=inv_new rfl rfl rfl (by omega) one_ok sz_one gr_one
def s0:Sy:=⟨0,3,1,[0],[],false⟩
theorem awk_begun (v1 v2:Value) (W:World) (h:SyA W Any v1 v2 s0):Calls Tryz.prog 12 #[syV s0 v1 v2,.int .i64 0] W (RetSy ⟨0,3,1,[],[0],false⟩ Any W):=pBegun_w s0 0 v1 v2 Any W h (by decide) List.Pairwise.nil (fun _ _=>trivial)
theorem awk_ended (er:Int) (v1 v2:Value) (W:World) (h:SyA W Any v1 v2 ⟨0,3,1,[],[0],false⟩):Calls Tryz.prog 14 #[syV ⟨0,3,1,[],[0],false⟩ v1 v2,.int .i64 0,.int .i64 er] W (RetSy ⟨0,3,1,[],[],er != 0⟩ Any W):=pEnded_w ⟨0,3,1,[],[0],false⟩ 0 er v1 v2 Any W h (fun _ _=>trivial)
theorem awk_gone (v1 v2:Value) (W:World) (h:SyA W Any v1 v2 s0):Calls Tryz.prog 16 #[syV s0 v1 v2,.int .i64 0] W (RetSy ⟨0,3,1,[],[],false⟩ Any W):=pGone_w s0 0 v1 v2 Any W h (fun _ _=>trivial)
theorem awk_next (f:Bool) (v1 v2:Value) (W:World) (h:SyA W Any v1 v2 ⟨0,3,1,[],[],f⟩):Calls Tryz.prog 18 #[syV ⟨0,3,1,[],[],f⟩ v1 v2] W (RetSy ⟨0,3,if f then 3 else 2,[],[],f⟩ Any W):=pNext_w43 ⟨0,3,1,[],[],f⟩ v1 v2 Any W h (fun _ _=>trivial)
theorem awk_fin (v1 v2:Value) (W:World) (h:SyA W Any v1 v2 ⟨0,3,2,[],[],false⟩):Calls Tryz.prog 20 #[syV ⟨0,3,2,[],[],false⟩ v1 v2,.int .i64 0] W (RetSyE (⟨0,3,3,[],[],false⟩,0) Any W):=pFin_w ⟨0,3,2,[],[],false⟩ 0 v1 v2 Any W h (fun _ _=>trivial)
theorem awake_w (w:World) (hbt:BitsAt w):Calls Tryz.prog 22 #[] w (RetB true w):=by
 have HBT:=H_ (fun w' (hb:Below w.heap.size w w')=>hbt.step hb);clear hbt;go_enter Tryz.func22,Tryz.ntmps22
 go_upto_region 1 with fail
 go_cut [1] (fun s1 wx=>∃X a b c d e f g,s1 = .pointer (some ⟨X,0,none⟩)∧w.heap.size≤X∧CX X a b c d e f g awC wx∧Below w.heap.size w wx)
 case first=>
  have HP:=H_ (((one_place w).alloc (.cells #[.int .i64 8] 3)).alloc (.cells #[.int .i64 8,.int .i64 0,.int .i64 0] 57));have hi:=one_int (w.alloc (.cells #[.int .i64 0,.int .i64 0] 61));have hg:=one_group ((w.alloc (.cells #[.int .i64 0,.int .i64 0] 61)).alloc (.cells #[.int .i64 8] 3));rw [show (w.alloc (.cells #[.int .i64 0,.int .i64 0] 61)).heap.size=w.heap.size+1 by simp] at hi;rw [show ((w.alloc (.cells #[.int .i64 0,.int .i64 0] 61)).alloc (.cells #[.int .i64 8] 3)).heap.size=w.heap.size+1+1 by simp] at hg;have HI:=H_ (hi.alloc (.cells #[.int .i64 8,.int .i64 0,.int .i64 0] 57));have HG:=H_ hg;clear hi hg;have HB:=H_ (bl_alloc (bl_alloc (bl_alloc (Below.refl w.heap.size w) (.cells #[.int .i64 0,.int .i64 0] 61)) (.cells #[.int .i64 8] 3)) (.cells #[.int .i64 8,.int .i64 0,.int .i64 0] 57))
  go_wp2_with (first
   | (go_at_call 24;go_loud (refine CM (cnew_w _ _ _ _ _ _ Any _ HP.out one_ok HI.out sz_one HG.out gr_one (fun g hg=>by obtain rfl:=List.mem_singleton.1 hg;rfl) (fun _ _=>trivial)) ?_);rintro e w3 ⟨C,a1,b1,c1,d1,e1,f1,g1,rfl,rfl,hc1,hb3⟩;obtain ⟨E1,u1,n1,E2,u2,n2,E3,u3,n3,E4,u4,n4,E5,u5,n5,E6,u6,n6,E7,u7,n7,rfl,rfl,rfl,rfl,rfl,rfl,rfl⟩:=CkAt.caps hc1;have HC3:=H_ hc1;have HB3:=H_ (HB.out.trans (hb3.mono HB.out.size));have HZ:=H_ (heap_at_new w3 (oCZ) w3.heap.size rfl))
   | (refine st_ck rfl (.tmp 1) (.tmp 17) rfl rfl w3.heap.size rfl rfl HZ.out rfl ?_))
  go_meet
  case rel=>exact ⟨w3.heap.size,_,_,_,_,_,_,_,rfl,HB3.out.size,CX.new HC3.out,HB3.out.trans ((bl_new _ _).mono HB3.out.size)⟩
 case rest=>
  obtain ⟨X,a,b,c,d,e,f,g,rfl,hX,hc,hb⟩:=hcut;have HC:=H_ hc;have HB:=H_ hb;clear hc hb;have hin:=fun W a b c d e f g (h:CX X a b c d e f g awC W) (hXW:X<W.heap.size)=>insert_w40 (F:=1) (G:=1) (Z:=1) awC 0 0 0 0 false awY lrNo ⟨8,0,0⟩ 0 a b c d e f g (fun z=>z≠X) W h.a aw_inv rfl (by omega) rfl rfl rfl (by decide +kernel) (fun z hz=>by omega);rw [show ((0:Nat):Int)=0 from rfl] at hin;have hXw:=bk_lt HC.out.x;have hin1:=hin wc a b c d e f g HC.out hXw;clear hin;obtain ⟨E1,u1,n1,E2,u2,n2,E3,u3,n3,E4,u4,n4,E5,u5,n5,E6,u6,n6,E7,u7,n7,rfl,rfl,rfl,rfl,rfl,rfl,rfl⟩:=CkAt.caps HC.out.a;obtain ⟨x0,x1,x2,x3,x4,x5,x6⟩:=cs7 HC.out.x
  go_upto_region 3 with (first
   | (go_at_call 37;go_loud (refine CM hin1 ?_);rintro e w3 ⟨C,nn,er,a1,b1,c1,d1,e1,f1,g1,hQ,rfl,hc1,hb3⟩;have HC3:=H_ hc1;have HX3:=H_ (bk_step HC.out.x hb3);obtain ⟨E1',u1',n1',E2',u2',n2',E3',u3',n3',E4',u4',n4',E5',u5',n5',E6',u6',n6',E7',u7',n7',rfl,rfl,rfl,rfl,rfl,rfl,rfl⟩:=CkAt.caps hc1)
   | (refine st_ck rfl (.tmp 1) (.tmp 22) rfl rfl X rfl rfl HX3.out rfl ?_))
  have hI3:=(InP.inv hQ aw_inv rfl (by omega) (by omega) rfl rfl).1;obtain ⟨ac,rfl⟩:=aw_ins hQ;have HC4:=H_ (HC.out.put hb3 hc1);have HB4:=H_ (bl_setRow (HB.out.trans (hb3.mono HB.out.size)) hX #[.slice E1' u1' n1',.slice E2' u2' n2',.slice E3' u3' n3',.slice E4' u4' n4',.slice E5' u5' n5',.slice E6' u6' n6',.slice E7' u7' n7']);clear hQ hc1 hb3 HC HB HC3 HX3 x0 x1 x2 x3 x4 x5 x6 hXw hin1;generalize w3.setRow X _=W4 at HC4 HB4;have hXw:=bk_lt HC4.out.x;have hwr:=cwrite_w (F:=1) (G:=1) (Z:=1) _ 0 0 0 awY1 ⟨#[97,98,99]⟩ _ _ _ _ _ _ _ (fun z=>z≠X) W4 HC4.out.a hI3 aw_frU.fl rfl (by decide) (by decide) (fun z hz=>by omega);rw [show ((0:Nat):Int)=0 from rfl] at hwr;obtain ⟨x0,x1,x2,x3,x4,x5,x6⟩:=cs7 HC4.out.x
  go_upto_region 4 with (first
   | (go_at_call 38;go_loud (refine CM hwr ?_);rintro e w5 ⟨C2,er,a1,b1,c1,d1,e1,f1,g1,hQ,rfl,hc1,hb5⟩;have HX5:=H_ (bk_step HC4.out.x hb5);have HC5:=H_ hc1;obtain ⟨D1,s1,t1,D2,s2,t2,D3,s3,t3,D4,s4,t4,D5,s5,t5,D6,s6,t6,D7,s7,t7,rfl,rfl,rfl,rfl,rfl,rfl,rfl⟩:=CkAt.caps hc1)
   | (refine st_ck rfl (.tmp 1) (.tmp 28) rfl rfl X rfl rfl HX5.out rfl ?_))
  have hI5:=hQ.1;obtain ⟨y2,hy2,hst⟩:=aw_start hQ;have HST:=H_ hst;have HC6:=H_ (HC4.out.put hb5 hc1);have HB6:=H_ (bl_setRow (HB4.out.trans (hb5.mono HB4.out.size)) hX #[.slice D1 s1 t1,.slice D2 s2 t2,.slice D3 s3 t3,.slice D4 s4 t4,.slice D5 s5 t5,.slice D6 s6 t6,.slice D7 s7 t7]);clear hQ hc1 hb5 HC4 HB4 HC5 HX5 x0 x1 x2 x3 x4 x5 x6 hXw hst hwr;generalize w5.setRow X _=W6 at HC6 HB6;have hXw:=bk_lt HC6.out.x;have hps:=pStart_w C2 0 y2 _ _ _ _ _ _ _ (fun z=>z≠X) W6 HC6.out.a hI5 hy2 (HBT.out _ HB6.out) (fun z hz=>by omega);rw [HST.out,show ((0:Nat):Int)=0 from rfl] at hps;have hx:=HC6.out.x;obtain ⟨x0,x1,x2,x3,x4,x5,x6⟩:=cs7 hx;clear hx HBT hI3 hI5 hy2 HST
  go_cut [3,4] (fun s3 s4 wx=>∃Y v1 v2,s3 = .pointer (some ⟨Y,0,none⟩)∧s4 = .int .i64 0∧BX Y v1 v2 ⟨0,3,1,[0],[],false⟩ wx∧Below w.heap.size w wx)
  case first=>
   go_wp2_with (first
    | (go_at_call 8;go_loud (refine CM hps ?_);rintro e w7 ⟨v1,v2,rfl,ha,hb7⟩;obtain ⟨A1,m1,c1,rfl⟩:=ha.t.cap;obtain ⟨A2,m2,c2,rfl⟩:=ha.g.cap;have HA:=H_ ha;have HB7:=H_ (HB6.out.trans (hb7.mono HB6.out.size));have HZ:=H_ (heap_at_new w7 (oSZ) w7.heap.size rfl))
    | (refine st_sy rfl (.tmp 3) (.tmp 33) rfl rfl w7.heap.size rfl rfl HZ.out rfl ?_))
   go_meet
   case rel=>exact ⟨w7.heap.size,_,_,rfl,rfl,BX.new HA.out,HB7.out.trans ((bl_new _ _).mono HB7.out.size)⟩
  case rest=>
   clear HC6 HB6 x0 x1 x2 x3 x4 x5 x6 hps;obtain ⟨Y,v1,v2,rfl,rfl,hbx,hb⟩:=hcut;have HY:=H_ hbx;have HB:=H_ hb;clear hbx hb;obtain ⟨V,hV⟩:∃V,V=wc:=⟨_,rfl⟩;subst hV;obtain ⟨A3,m3,c3,rfl⟩:=HY.out.a.t.cap;obtain ⟨A4,m4,c4,rfl⟩:=HY.out.a.g.cap;have em3:m3=1:=HY.out.a.m1;subst em3;have HB0:=H_ (Below.refl V.heap.size V);have hx:=(HY.out).x
   dsimp only at hx
   obtain ⟨x0,x1,x2,x3,x4,x5⟩:=cs6 hx;clear hx
   go_upto_region 5 with fail
   go_cut [5] (fun s5 wx=>∃Y v1 v2,s5 = .pointer (some ⟨Y,0,none⟩)∧BX Y v1 v2 ⟨0,3,2,[],[],false⟩ wx∧Below V.heap.size V wx)
   case first=>
    go_wp2_with (first
     | (go_at_call 12;go_loud (refine CM (awk_begun _ _ V HY.out.a) ?_);rintro e w1 ⟨v1,v2,rfl,ha,hb1⟩;have HA1:=H_ ha;have HB1:=H_ (HB0.out.trans (hb1.mono HB0.out.size));clear ha)
     | (go_at_call 14;go_loud (refine CM (awk_ended 0 _ _ w1 HA1.out) ?_);rintro e w2 ⟨v1,v2,rfl,ha,hb2⟩;have HA2:=H_ ha;have HB2:=H_ (HB1.out.trans (hb2.mono HB1.out.size));clear ha)
     | (go_at_call 18;go_loud (refine CM (awk_next false _ _ w2 HA2.out) ?_);rintro e w3 ⟨v1,v2,rfl,ha,hb3⟩;obtain ⟨A1,m1,c1,rfl⟩:=ha.t.cap;obtain ⟨A2,m2,c2,rfl⟩:=ha.g.cap;have HA3:=H_ ha;have HB3:=H_ (HB2.out.trans (hb3.mono HB2.out.size));clear ha;have HZ:=H_ (heap_at_new w3 (oSZ) w3.heap.size rfl))
     | (refine st_sy rfl (.tmp 5) (.tmp 38) rfl rfl w3.heap.size rfl rfl HZ.out rfl ?_))
    go_meet
    case rel=>exact ⟨w3.heap.size,_,_,rfl,BX.new HA3.out,HB3.out.trans ((bl_new _ _).mono HB3.out.size)⟩
   case rest=>
    clear HB0 x0 x1 x2 x3 x4 x5;obtain ⟨Y5,v1,v2,rfl,h5,hb5⟩:=hcut;obtain ⟨V5,hV⟩:∃V5,V5=wc:=⟨_,rfl⟩;subst hV;have HY5:=H_ h5;have HY:=H_ (HY.out.step hb5);have HB:=H_ (HB.out.trans (hb5.mono HB.out.size));obtain ⟨A5,m5,c5,rfl⟩:=h5.a.t.cap;obtain ⟨A6,m6,c6,rfl⟩:=h5.a.g.cap;clear h5 hb5;have HB0:=H_ (Below.refl V5.heap.size V5);have hx:=(HY5.out).x
    dsimp only at hx
    obtain ⟨x0,x1,x2,x3,x4,x5⟩:=cs6 hx;clear hx
    go_upto_region 6 with fail
    go_cut [6,7] (fun s6 s7 wx=>∃Y v1 v2,s6 = .pointer (some ⟨Y,0,none⟩)∧s7 = .int .i64 0∧BX Y v1 v2 ⟨0,3,3,[],[],false⟩ wx∧Below V5.heap.size V5 wx)
    case first=>
     go_wp2_with (first
      | (go_at_call 20;go_loud (refine CM (awk_fin _ _ V5 HY5.out.a) ?_);rintro e w3 ⟨v1,v2,rfl,ha,hb3⟩;obtain ⟨A1,m1,c1,rfl⟩:=ha.t.cap;obtain ⟨A2,m2,c2,rfl⟩:=ha.g.cap;have HA3:=H_ ha;have HB3:=H_ (HB0.out.trans (hb3.mono HB0.out.size));clear ha;have HZ:=H_ (heap_at_new w3 (oSZ) w3.heap.size rfl))
      | (refine st_sy rfl (.tmp 6) (.tmp 42) rfl rfl w3.heap.size rfl rfl HZ.out rfl ?_))
     go_meet
     case rel=>exact ⟨w3.heap.size,_,_,rfl,rfl,BX.new HA3.out,HB3.out.trans ((bl_new _ _).mono HB3.out.size)⟩
    case rest=>
     clear HB0 x0 x1 x2 x3 x4 x5;obtain ⟨Y6,v1,v2,rfl,rfl,h6,hb6⟩:=hcut;obtain ⟨V6,hV⟩:∃V6,V6=wc:=⟨_,rfl⟩;subst hV;have HY6:=H_ h6;have HY5:=H_ (HY5.out.step hb6);have HY:=H_ (HY.out.step hb6);have HB:=H_ (HB.out.trans (hb6.mono HB.out.size));clear h6 hb6;have HB0:=H_ (Below.refl V6.heap.size V6);have hx:=(HY.out).x
     dsimp only at hx
     obtain ⟨x0,x1,x2,x3,x4,x5⟩:=cs6 hx;clear hx
     go_upto_region 7 with fail
     go_cut [8] (fun s8 wx=>∃Y v1 v2,s8 = .pointer (some ⟨Y,0,none⟩)∧BX Y v1 v2 ⟨0,3,2,[],[],false⟩ wx∧Below V6.heap.size V6 wx)
     case first=>
      go_wp2_with (first
       | (go_at_call 16;go_loud (refine CM (awk_gone _ _ V6 HY.out.a) ?_);rintro e w1 ⟨v1,v2,rfl,ha,hb1⟩;have HA1:=H_ ha;have HB1:=H_ (HB0.out.trans (hb1.mono HB0.out.size));clear ha)
       | (go_at_call 18;go_loud (refine CM (awk_next false _ _ w1 HA1.out) ?_);rintro e w3 ⟨v1,v2,rfl,ha,hb3⟩;obtain ⟨A1,m1,c1,rfl⟩:=ha.t.cap;obtain ⟨A2,m2,c2,rfl⟩:=ha.g.cap;have HA3:=H_ ha;have HB3:=H_ (HB1.out.trans (hb3.mono HB1.out.size));clear ha;have HZ:=H_ (heap_at_new w3 (oSZ) w3.heap.size rfl))
       | (refine st_sy rfl (.tmp 8) (.tmp 46) rfl rfl w3.heap.size rfl rfl HZ.out rfl ?_))
      go_meet
      case rel=>exact ⟨w3.heap.size,_,_,rfl,BX.new HA3.out,HB3.out.trans ((bl_new _ _).mono HB3.out.size)⟩
     case rest=>
      clear HB0 x0 x1 x2 x3 x4 x5;obtain ⟨Y8,v1,v2,rfl,h8,hb8⟩:=hcut;obtain ⟨V8,hV⟩:∃V8,V8=wc:=⟨_,rfl⟩;subst hV;have HY8:=H_ h8;have HY6:=H_ (HY6.out.step hb8);have HY5:=H_ (HY5.out.step hb8);have HY:=H_ (HY.out.step hb8);have HB:=H_ (HB.out.trans (hb8.mono HB.out.size));clear h8 hb8;have HB0:=H_ (Below.refl V8.heap.size V8);have hx:=(HY.out).x
      dsimp only at hx
      obtain ⟨x0,x1,x2,x3,x4,x5⟩:=cs6 hx;clear hx
      go_upto_region 8 with fail
      go_cut [9] (fun s9 wx=>∃Y v1 v2,s9 = .pointer (some ⟨Y,0,none⟩)∧BX Y v1 v2 ⟨0,3,3,[],[],true⟩ wx∧Below V8.heap.size V8 wx)
      case first=>
       go_wp2_with (first
        | (go_at_call 12;go_loud (refine CM (awk_begun _ _ V8 HY.out.a) ?_);rintro e w1 ⟨v1,v2,rfl,ha,hb1⟩;have HA1:=H_ ha;have HB1:=H_ (HB0.out.trans (hb1.mono HB0.out.size));clear ha)
        | (go_at_call 14;go_loud (refine CM (awk_ended 10 _ _ w1 HA1.out) ?_);rintro e w2 ⟨v1,v2,rfl,ha,hb2⟩;have HA2:=H_ ha;have HB2:=H_ (HB1.out.trans (hb2.mono HB1.out.size));clear ha)
        | (go_at_call 18;go_loud (refine CM (awk_next true _ _ w2 HA2.out) ?_);rintro e w3 ⟨v1,v2,rfl,ha,hb3⟩;obtain ⟨A1,m1,c1,rfl⟩:=ha.t.cap;obtain ⟨A2,m2,c2,rfl⟩:=ha.g.cap;have HA3:=H_ ha;have HB3:=H_ (HB2.out.trans (hb3.mono HB2.out.size));clear ha;have HZ:=H_ (heap_at_new w3 (oSZ) w3.heap.size rfl))
        | (refine st_sy rfl (.tmp 9) (.tmp 50) rfl rfl w3.heap.size rfl rfl HZ.out rfl ?_))
       go_meet
       case rel=>exact ⟨w3.heap.size,_,_,rfl,BX.new HA3.out,HB3.out.trans ((bl_new _ _).mono HB3.out.size)⟩
      case rest=>
       clear HB0 x0 x1 x2 x3 x4 x5;obtain ⟨Y9,v1,v2,rfl,h9,hb9⟩:=hcut;have HY8:=H_ (HY8.out.step hb9);have HY6:=H_ (HY6.out.step hb9);have HY5:=H_ (HY5.out.step hb9);have HY:=H_ (HY.out.step hb9);have HB:=H_ (HB.out.trans (hb9.mono HB.out.size));have a3:=cells_at HY.out.x 3;have a1:=cells_at HY.out.x 1;have b2:=cells_at HY5.out.x 2;have c2:=cells_at HY6.out.x 2;have c5:=cells_at HY6.out.x 5;have e2:=cells_at HY8.out.x 2;have f2:=cells_at h9.x 2;have f5:=cells_at h9.x 5;simp only [List.getElem?_toArray,List.getElem?_cons_zero,List.getElem?_cons_succ] at a3 a1 b2 c2 c5 e2 f2 f5;clear HY HY5 HY6 HY8 h9 hb9;go_wp2;go_ret;exact ⟨rfl,HB.out⟩
end
section
structure CS (b X:Nat) (a b' c d e f g:Value) (C:Ck) (W:World):Prop where
 x:W.heap[X]?=some (.cells #[a,b',c,d,e,f,g] 30 (0,0))
 a:CkAt W (fun z=>z≠b∧z≠X) a b' c d e f g C
 ne:X≠b
theorem CS.step {b X:Nat} {a b' c d e f g:Value} {C:Ck} {W W':World} (h:CS b X a b' c d e f g C W) (hb:Below W.heap.size W W'):CS b X a b' c d e f g C W':=⟨bk_step h.x hb,h.a.step hb,h.ne⟩
theorem CS.keep {b X:Nat} {a b' c d e f g:Value} {C:Ck} {W W':World} (h:CS b X a b' c d e f g C W) (hg:W.grownBy W' (some b)):CS b X a b' c d e f g C W':=⟨gb_block hg h.ne h.x,h.a.kept (ks_gb hg (fun h=>h.1 rfl)),h.ne⟩
theorem CS.arg {b X:Nat} {a b' c d e f g:Value} {C:Ck} {W:World} (h:CS b X a b' c d e f g C W):CkAt W (fun z=>z≠b) a b' c d e f g C:=h.a.weak (fun z _ hz=>hz.1)
end
section
def TpP (W:World) (b:Nat) (w:World):Prop:=
 (∃(a:Option Addr) (len cap k:Nat),w.heap[b]?=some (.cells #[.slice a len cap,.int .i64 (k:Int)] 34 (0,0))∧k≤len∧len≤maxLen∧
  ∀i,i<len→∃(c o:Nat) (x:Int),a=some ⟨c,o,none⟩∧c<W.heap.size∧w.cell? ⟨c,o+i,none⟩=some (.int .i64 x))∧Below W.heap.size W w∧W.heap.size≤b
theorem TpP.lt {W w:World} {b:Nat} (h:TpP W b w):b<w.heap.size:=by obtain ⟨⟨a,len,cap,k,h1,_⟩,_⟩:=h;exact bk_lt h1
theorem TpP.gb {W w w':World} {b:Nat} {r:Option Nat} (h:TpP W b w) (hg:w.grownBy w' r) (hr:∀k,r=some k→W.heap.size≤k∧k≠b):TpP W b w':=by
 obtain ⟨⟨a,len,cap,k,h1,h2,h3,h4⟩,hB,hWb⟩:=h;refine ⟨⟨a,len,cap,k,(hg.block b (bk_lt h1) fun e=>(hr b e.symm).2 rfl).trans h1,h2,h3,fun i hi=>?_⟩,hB.grown hg hB.size (fun k hk=>(hr k hk).1),hWb⟩;obtain ⟨c,o,x,ha,hc,hx⟩:=h4 i hi;exact ⟨c,o,x,ha,hc,hg.cell hx (fun e=>by have:=(hr c e.symm).1;omega)⟩
theorem TpP.step {W w w':World} {b:Nat} (h:TpP W b w) (hb:Below w.heap.size w w'):TpP W b w':=h.gb (gb_of_below hb none) (fun k hk=>by cases hk)
theorem TpP.start {W w:World} {a:Option Addr} {len cap:Nat} {zs:List Int} (h:IsRow .i64 W a len cap zs) (hB:Below W.heap.size W w):TpP W w.heap.size (w.alloc (.cells #[.slice a len cap,.int .i64 0] 34)):=by
 refine ⟨⟨a,len,cap,0,heap_alloc_new _ _,Nat.zero_le _,?_,?_⟩,bl_alloc hB _,hB.size⟩
 ·rcases h with ⟨_,rfl,_⟩ | ⟨x,_,h1,h2,_⟩
  ·exact Nat.zero_le _
  ·exact Nat.le_trans h1 h2
 ·intro i hi
  rcases h with ⟨_,rfl,_⟩ | ⟨x,rfl,h1,h2,h3,h4,h5⟩
  ·omega
  ·obtain ⟨c,o,sp⟩:=x;have hc:=h4 i (by omega);have hc0:=h4 0 (by omega);have hsp:sp=none:=by simpa [Addr.add] using World.cell?_spot hc0
   subst hsp;rw [Addr.add_mid] at hc;have hlt:=World.block_lt_of_cell? W ⟨c,o+i,none⟩ hc;exact ⟨c,o,zs.getD i 0,rfl,hlt,((bl_alloc hB _).cell hlt).trans hc⟩
theorem next_p (n:Int) (W w:World) (b:Nat) (h1n:1≤n) (h2n:n≤9223372036854775807) (h:TpP W b w) :
  Calls Tryz.prog 7 #[.pointer (some ⟨b,0,none⟩),.int .i64 n] w fun e w'=>∃x,e = .returned (.int .i64 x)∧0≤x∧x<n∧TpP W b w'∧w.grownBy w' (some b):=by
 obtain ⟨⟨a,len,cap,k,h1,h2,h3,h4⟩,hB,hWb⟩:=h;have c0:w.cell? ⟨b,0,none⟩=some (.slice a len cap):=by rw [cells_at h1];rfl
 have c1:w.cell? ⟨b,1,none⟩=some (.int .i64 (k:Int)):=by rw [cells_at h1];rfl
 by_cases hk:k<len
 ·obtain ⟨c,o,x,rfl,hc,hx⟩:=h4 k hk;refine (next_more n w b len cap c o k x h1n h2n c0 c1 (free_at h1 1) h3 hk hx (by omega)).mono ?_;rintro e w' ⟨rfl,m,rfl⟩;have hr:=cutI_range x n h1n;have hg:w.grownBy ((w.setCell ⟨b,1,none⟩ (.int .i64 (k+1))).drewN m) (some b):=grownBy_trans (grownBy_setCell w ⟨b,1,none⟩ _) (grownBy_drewN _ _ _);refine ⟨_,rfl,hr.1,hr.2,⟨⟨some ⟨c,o,none⟩,len,cap,k+1,?_,hk,h3,?_⟩,hB.grown hg hB.size (fun k hk=>by injection hk with hk;omega),hWb⟩,hg⟩
  ·show (w.setCell ⟨b,1,none⟩ (.int .i64 (k+1))).heap[b]?=_
   simp [World.setCell,Array.getElem?_modify,h1]
  ·intro i hi;obtain ⟨c',o',x',ha,hc',hx'⟩:=h4 i hi;exact ⟨c',o',x',ha,hc',hg.cell hx' (by simp;omega)⟩
 ·obtain rfl:k=len:=by omega
  refine (next_end n w b k cap a c0 c1 h3).mono ?_;rintro e w' ⟨rfl,m,rfl⟩;exact ⟨0,rfl,by omega,by omega,⟨⟨a,k,cap,k,h1,Nat.le_refl _,h3,h4⟩,below_drewN hB _,hWb⟩,grownBy_drewN _ _ _⟩
theorem end_p (W w:World) (b:Nat) (hT:TpP W b w):Calls Tryz.prog 11 #[.pointer (some ⟨b,0,none⟩)] w fun e w'=>∃q,e = .returned (.bool q)∧Below w.heap.size w w':=by
 obtain ⟨⟨a,len,cap,k,h1,h2,h3,h4⟩,_,_⟩:=hT;obtain ⟨x0,x1⟩:=cs2 h1;clear h1 h4;go_enter Tryz.func11,Tryz.ntmps11;go_wp2;go_quiet (fail);go_wp2;go_ret;exact ⟨_,rfl,below_drewN B_ _⟩
end
end Go.Proofs.YthhekebemmckcaaGreatDoor
