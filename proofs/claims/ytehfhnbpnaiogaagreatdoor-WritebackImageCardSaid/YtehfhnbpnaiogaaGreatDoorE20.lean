/-
  Lemmas and contracts for the laws of this seat, part 20; several texts joined by a program.
-/
import Derived.Test.YtehfhnbpnaiogaaGreatDoorE17
import Derived.Test.YtehfhnbpnaiogaaGreatDoorE19
import Derived.Test.YtehfhnbpnaiogaaGreatDoorE00
import Derived.ChangeKeysEq
import Derived.Laws.BitsAllLaws
import Derived.Laws.StructEq
import Derived.Outline
namespace Go.Proofs.YtehfhnbpnaiogaaGreatDoor
set_option linter.unusedVariables false
set_option linter.unusedSimpArgs false
set_option maxRecDepth 100000
set_option maxHeartbeats 16000000
open Go.RowKit Go.Proofs.Tryz IntKind
variable {C:Ck} {S:Nat->Prop} {V w w':World} {a b c d e f g u:Value} {cs tmps:Array Value} {en:Ending} {fn:Func} {i j k n z:Nat} {o:Obj} {p q:Tmp} {vv:Nat->Int} {x:Fr} {y:Fl}
section
theorem jZ_ (h:fn.results=#[.cell p 30,.cell q 38]) (tmps:Array Value) {g:Nat}(g3:Nat)
  (hp:tmps.getD p undef = P_ g) (hq:tmps.getD q undef = P_ g3) (hg:w.heap[g]?=some (.cells cs 30 (0,0))) (hg3:w.cell? ⟨g3,0,none⟩=some u) (hs:cs.size=7) :
  (results fn tmps).run prog w = .ok (.tuple #[.agg cs,u]) w:=by
 have a:tmps[p]?.getD undef = P_ g:=by simpa using hp
 have b:tmps[q]?.getD undef = P_ g3:=by simpa using hq
 simp [results,h,a,b,asAddr,run_loadVar_row w g _ 30 cs (0,0) _ hg underlying30 rfl (by rw [hs];exact fI),rI w hg3]
def S5e (S:Nat->Prop) (n:Nat):Nat->Prop:=fun z=>S z/\z≠n/\z≠n+1/\z≠n+1+1
theorem xY {Pr:Ck->Int->Prop} (h:fn.results=#[.cell p 30,.cell q 38]) {B X gf nf cf gr nr cr:Nat} (err:Int)
  (hp:tmps.getD p undef = P_ (w+1)) (hq:tmps.getD q undef = P_ (w+1+1))
  (HR:∃cs0,V.heap[w.heap.size+1]?=some (.cells cs0 30 (0,0))) (HE:∃u,V.heap[w.heap.size+1+1]?=some (.cells #[u] 38 (0,0)))
  (hB:Bd V (S5e S (w)) B X gf nf cf gr nr cr c d e f g C) (hcs:cs=#[S_ (some ⟨gf,0,none⟩) nf cf,S_ (some ⟨gr,0,none⟩) nr cr,c,d,e,f,g]) (hb:q_ w V) (hP:Pr C err) :
  Leaves prog fn tmps (gC Pr S w) [] .returning ((V.setRow (w+1) cs).setCell ⟨w+1+1,0,none⟩ (I_ err)):=by
 subst hcs;obtain ⟨cs0,HR⟩:=HR;obtain ⟨u,HE⟩:=HE;have a:=(setRow_other V (w+1) (w+1+1) #[S_ (some ⟨gf,0,none⟩) nf cf,S_ (some ⟨gr,0,none⟩) nr cr,c,d,e,f,g] O_).trans HE;have b:(V.setRow (w+1) #[S_ (some ⟨gf,0,none⟩) nf cf,S_ (some ⟨gr,0,none⟩) nr cr,c,d,e,f,g]).heap[w.heap.size+1]?=some (.cells #[S_ (some ⟨gf,0,none⟩) nf cf,S_ (some ⟨gr,0,none⟩) nr cr,c,d,e,f,g] 30 (0,0)):=setRow_heap _ _ _ _ _ _ HR;have i:=(hB.at_.kept (r_.of_setRow V (w+1) #[S_ (some ⟨gf,0,none⟩) nf cf,S_ (some ⟨gr,0,none⟩) nr cr,c,d,e,f,g] (fun h=>h.2.2.1 rfl))).kept (r_.of_setCell _ ⟨w+1+1,0,none⟩ (I_ err) (fun h=>h.2.2.2 rfl));refine ⟨_,jZ_ h tmps (w+1+1) hp hq (aM b _ _ (by show w.heap.size+1≠w.heap.size+1+1;omega)) (a_ (R_ a _) 0) rfl,?_⟩;exact ⟨C,err,_,_,_,_,_,_,_,hP,rfl,i.weak (fun z _ j=>j.1),bA (j_ hb O_ _) _ _ (by show w.heap.size<=w.heap.size+1+1;omega)⟩
theorem iH_ (n:Int) (h:x_ w S a b c d e f g C) (ok:lS C) (hu:dE C i x j y) (her:xH y.ecnt y.eerr) (hv:0<D_ y.c x.page) (hS:∀z,w.heap.size<=z->S z) :
  C_ 16 #[cI a b c d e f g,I_ ((i:Int)+1),I_ n] w (gC (nI C i j x y n) S w):=by
 have b0:=fun w' (N:q_ w w') (hlt:w.heap.size+1+1<w'.heap.size)=>vT C a b c d e f g (S5e S (w)) w' ((h.weak (fun z hz hs=>⟨hs,O_,O_,O_⟩)).step N) ok (fun z hz=>⟨hS z O_,O_,O_,O_⟩);have ah:=fun w' (N:q_ w w')=>pT i x (h.step N) hu.fr ok.ok.frames.2;rw [ofi hu] at ah;obtain ⟨A1,m1,c1,A2,m2,c2,A3,m3,c3,A4,m4,c4,A5,m5,c5,A6,m6,c6,A7,m7,c7,rfl,rfl,rfl,rfl,rfl,rfl,rfl⟩:=x_.caps h;obtain ⟨bb,o,rfl,bd,y0,y1,y2,y3,y4,y5,y6,y7,y8⟩:=FrA.cells h.frames hu.fr;obtain ⟨bf,of,kt,KB,kc,rfl,bc,k1,k2,R,U,b6⟩:=FlA.cells h.files hu.fl;have b7:=bK hu.fr;have ay:=bK hu.fl;have b9:m2=C.frames.length:=by obtain ⟨_,_,e,_⟩:=h.frames.form;injection e
 have b8:m1=C.files.length:=by obtain ⟨_,_,e,_⟩:=h.files.form;injection e
 subst b8 b9;obtain ⟨M,b4,HV,b3⟩:=sP hu ok hv her;clear h ok hu k1 k2 R U hv her y0 y1 y2 y3 y4 y5 y6 y7 y8 b6;have HS:=H_ (show St w [(w.heap.size,.cells (E_ (some ⟨bf,of,none⟩) C.files.length c1 (some ⟨bb,o,none⟩) C.frames.length c2 A3 m3 c3 A4 m4 c4 A5 m5 c5 A6 m6 c6 A7 m7 c7) 30 (0,0)),(w.heap.size+1,cG),(w.heap.size+1+1,.cells #[I_ 0] 38 (0,0))] (((w.alloc (.cells (E_ (some ⟨bf,of,none⟩) C.files.length c1 (some ⟨bb,o,none⟩) C.frames.length c2 A3 m3 c3 A4 m4 c4 A5 m5 c5 A6 m6 c6 A7 m7 c7) 30)).alloc (cG)).alloc (.cells #[I_ 0] 38)) from ((St.nil w).push _ _ rfl).push _ (w+1) z_ |>.push _ (w+1+1) z_)
 go_enter_defers func16,ntmps16
 go_upto_region 2 with fail
 generalize ((w.alloc (.cells (E_ (some ⟨bf,of,none⟩) C.files.length c1 (some ⟨bb,o,none⟩) C.frames.length c2 A3 m3 c3 A4 m4 c4 A5 m5 c5 A6 m6 c6 A7 m7 c7) 30)).alloc (cG)).alloc (.cells #[I_ 0] 38)=V at HS;have al:=HS.bk _ _ cO;obtain ⟨x0,x1,x2,x3,x4,x5,x6⟩:=aF al
 go_upto_region 3 with (go_at_call 42;refine CM (b0 _ HS.below (p_ (HS.bk _ _ jB))) ?_;rintro e w1 ⟨X,gf,nf,cf,gr,nr,cr,c',d',e',f',g',rfl,hB,au⟩)
 have b5:w.heap.size+3<=V.heap.size:=p_ (HS.bk _ _ jB);have a6:=H_ (HS.step au);have ab:=H_ hB;obtain ⟨B1,an⟩:=aZ V.heap.size;rw [<-an] at ab b5;obtain ⟨E3,e3,R,rfl⟩:=hB.zones.cap;obtain ⟨E4,e4,U,rfl⟩:=hB.groups.cap;obtain ⟨E5,e5,k5,rfl⟩:=hB.lists.cap;obtain ⟨E6,e6,k6,rfl⟩:=hB.clocks.cap;obtain ⟨E7,e7,k7,rfl⟩:=hB.ptes.cap;clear x0 x1 x2 x3 x4 x5 x6 al hB au HS an b0;have am:=a6.bk _ _ cO;obtain ⟨x0,x1,x2,x3,x4,x5,x6⟩:=aF am
 go_upto_region 5 with (go_at_call 43;refine CM (ah _ a6.below) ?_;rintro e w2 ⟨rfl,ac⟩;have aj:=H_ (a6.step ac);have a5:=H_ (ab.step ac))
 clear x0 x1 x2 x3 x4 x5 x6 am ac a6 ab ah;have D:C.frames[i]?=some x:=M.fr;have a8:nr<=100:=by have:=a5.er;have:=b4.ok.frames.2;omega
 have aw:=jU i x a5.out D a8
 go_upto_region 6 with (go_at_call 48;refine CM aw ?_;rintro e w3 ⟨rfl,ad⟩)
 have Z:=H_ (aj.step ad);have H:=H_ (a5.step ad);clear aj a5 ad aw;have r8:=H.frames.frame_at D 8 _ rfl
 by_cases Q:x.writing=0
 ·have d3:(x.writing == 0)=true:=by simp [Q]
  have HB:=H_ (show nI C i j x y n C 4 by unfold nI;rw [if_pos Q];exact ⟨rfl,rfl⟩);clear Q;have Y:=H.box;obtain ⟨x0,x1,x2,x3,x4,x5,x6⟩:=aF Y;have F:=Z.bk _ _ jQ;have v:=Z.bk _ _ jB;have e0:(w3.setRow (w+1) (E_ (o_ gf) nf cf (o_ gr) nr cr E3 e3 R E4 e4 U E5 e5 k5 E6 e6 k6 E7 e7 k7)).cell? ⟨w+1+1,0,none⟩=some (I_ 0):=(c_ (setRow_other _ (w+1) (w+1+1) _ O_)).trans (a_ v 0);have ez:(w3.setRow (w+1) (E_ (o_ gf) nf cf (o_ gr) nr cr E3 e3 R E4 e4 U E5 e5 k5 E6 e6 k6 E7 e7 k7)).frozen? ⟨w+1+1,0,none⟩=false:=(World.frozen?_of_block (a:=⟨w+1+1,0,none⟩) (setRow_other _ (w+1) (w+1+1) _ O_)).trans (t_ v 0)
  go_wp2_with (refine aJ rfl (.tmp 6) (.tmp 32) rfl rfl rfl rfl F rfl ?_)
  refine leaves_cons (f:=41) (args:=#[P_ (w+1+1)]) z_ (by simp [go_sem]) ?_;refine (fO).mono ?_;rintro e u' b2 ⟨rfl,rfl,rfl⟩;refine xY rfl 4 rfl rfl ⟨_,F⟩ ⟨_,v⟩ H.out rfl Z.below ?_;exact HB.out
 ·have d3:(x.writing == 0)=false:=by simp [Q]
  have ak:=H_ Q;clear Q;have J:∀(g':Nat) (ob:Obj),(g',ob) ∈ ([(w.heap.size,.cells (E_ (some ⟨bf,of,none⟩) C.files.length c1 (some ⟨bb,o,none⟩) C.frames.length c2 A3 m3 c3 A4 m4 c4 A5 m5 c5 A6 m6 c6 A7 m7 c7) 30 (0,0)),(w.heap.size+1,cG),(w.heap.size+1+1,.cells #[I_ 0] 38 (0,0))]:List (Nat × Obj))->g'<B1:=fun g' ob hm=>by
   simp only[qJ,List.not_mem_nil,or_false,Prod.mk.injEq] at hm
   rcases hm with ⟨rfl,_⟩ | ⟨rfl,_⟩ | ⟨rfl,_⟩ <;> omega
  have L:w.heap.size<=B1:=O_
  have ba:j<nf:=by have:=H.ef;omega
  have av:=fun w' (N:q_ w3 w')=>xQ i j x (H.step N) D a8 M.ix ba
  go_upto_region 9 with (go_at_call 66;refine CM (av _ B_) ?_;rintro e w4 ⟨rfl,ae⟩)
  have a7:=H_ (Z.step ae);have m:=H_ (H.step ae);clear Z H ae av r8;obtain ⟨p,hp⟩:∃p:Nat,x.page=p:=⟨x.page.toNat,by have:=M.ok.page;omega⟩;have bg:p<8:=by have:=M.ok.page;omega
  have HP:=H_ hp;clear hp
  by_cases he:n=0
  ·subst he
   go_upto_region 10 with fail
   have r1:=m.frames.frame_at D 1 _ rfl;rw [HP.out] at r1;obtain ⟨z7,z8,z9,z6⟩:=LW.fl_at m.files M.fl;have az:=m.files.lt;have G:=m.frames.lt
   go_cut [] from 38 to 49 (fun wx=>St w [(w.heap.size,.cells (E_ (some ⟨bf,of,none⟩) C.files.length c1 (some ⟨bb,o,none⟩) C.frames.length c2 A3 m3 c3 A4 m4 c4 A5 m5 c5 A6 m6 c6 A7 m7 c7) 30 (0,0)),(w.heap.size+1,cG),(w.heap.size+1+1,.cells #[I_ 0] 38 (0,0))] wx/\Bd wx (S5e S (w)) B1 X gf nf cf gr nr cr (S_ E3 e3 R) (S_ E4 e4 U) (S_ E5 e5 k5) (S_ E6 e6 k6) (S_ E7 e7 k7) {C with files:=C.files.set j {y with blocks:=bits .or .i64 y.blocks (wrap64 (2 ^ p))}})
   case first=>
    refine bG (S:=(fun z=>z≠gf)) 87 12 (fun i=>decide (i<=11)) (fun wx=>St w [(w.heap.size,.cells (E_ (some ⟨bf,of,none⟩) C.files.length c1 (some ⟨bb,o,none⟩) C.frames.length c2 A3 m3 c3 A4 m4 c4 A5 m5 c5 A6 m6 c6 A7 m7 c7) 30 (0,0)),(w.heap.size+1,cG),(w.heap.size+1+1,.cells #[I_ 0] 38 (0,0))] wx/\Bd wx (S5e S (w)) B1 X gf nf cf gr nr cr (S_ E3 e3 R) (S_ E4 e4 U) (S_ E5 e5 k5) (S_ E6 e6 k6) (S_ E7 e7 k7) {C with files:=C.files.set j {y with blocks:=bits .or .i64 y.blocks (wrap64 (2 ^ p))}}) [SK.eq (.pointer (some ⟨gf,j*15,none⟩)),SK.eq (.pointer (some ⟨gf,j*15,none⟩)),SK.eq (.pointer (some ⟨gf,j*15+7,none⟩)),SK.eq (I_ y.blocks),SK.eq (.pointer (some ⟨gr,i*9,none⟩)),SK.eq (.pointer (some ⟨gr,i*9,none⟩)),SK.eq (.pointer (some ⟨gr,i*9+1,none⟩)),SK.eq (I_ (p:Int)),SK.eq (I_ (wrap64 (2 ^ p))),SK.eq (I_ (bits .or .i64 y.blocks (wrap64 (2 ^ p)))),SK.eq (.pointer (some ⟨gf,j*15,none⟩)),SK.eq (.pointer (some ⟨gf,j*15+7,none⟩)),SK.any] s_ s_ rfl (fun _=>trivial) ?_
    refine qP fun v0=>qP fun v1=>qP fun v2=>?_;simp only[ly];refine k_ rfl rfl (fun xw t r K B=>?_) (fun v3=>?_)
    ·obtain rfl:v2=_:=r 2 s_;have l:q_ w4 xw:=t;have u0:=(l.cell (p:=⟨gf,_,none⟩) az).trans z7;go_simp;exact B _ _ t K_ rfl
    simp only[ly];refine qP fun v4=>qP fun v5=>qP fun v6=>?_;simp only[ly];refine k_ rfl rfl (fun xw t r K B=>?_) (fun v7=>?_)
    ·obtain rfl:v6=_:=r 6 s_;have l:q_ w4 xw:=t;have u0:=(l.cell (p:=⟨gr,_,none⟩) G).trans r1;go_simp;exact B _ _ t K_ rfl
    simp only[ly];refine k_ rfl rfl (fun xw t r K B=>?_) (fun v8=>?_)
    ·obtain rfl:v7=_:=r 7 s_;go_simp;exact B _ _ t K_ (by first | rfl | (show Value.int _ _=Value.int _ _;simp;done) | (show Value.int _ _=Value.int _ _;simp [IntKind.wrap_i64,wrap64];done) | (show Value.int _ _=Value.int _ _;simp [IntKind.wrap_i64];omega))
    simp only[ly];refine k_ rfl rfl (fun xw t r K B=>?_) (fun v9=>?_)
    ·obtain rfl:v3=_:=r 3 s_;obtain rfl:v8=_:=r 8 s_;go_simp;exact B _ _ t K_ (by first | rfl | (show Value.int _ _=Value.int _ _;simp;done) | (show Value.int _ _=Value.int _ _;simp [IntKind.wrap_i64,wrap64];done) | (show Value.int _ _=Value.int _ _;simp [IntKind.wrap_i64];omega))
    simp only[ly];refine qP fun v10=>qP fun v11=>?_;simp only[ly];refine aL (fun xw t r K B=>?_) (fun v12=>?_)
    ·obtain rfl:v11=_:=r 11 s_;obtain rfl:v9=_:=r 9 s_;have l:q_ w4 xw:=t;have q:=m.step l;have O:=a7.step l;obtain ⟨⟨u,hu⟩,be⟩:=q.files.slot (i:=j) O_ (p:=7) O_;go_simp;have a2:=q.putFiles (J_ xw gf (j*15+7) [I_ (bits .or .i64 y.blocks (wrap64 (2 ^ p)))]) (q.files.blocks M.fl _) z_;exact B undef _ ⟨O.grown (J_ xw gf (j*15+7) [I_ (bits .or .i64 y.blocks (wrap64 (2 ^ p)))]) (fun k e=>by cases e;exact m.o1) J L,a2⟩ (r_.of_setCell _ _ _ (fun h=>h rfl)) trivial
    simp only[ly];refine aY ?_;intro wz hD hG;clear hG;go_wp2;go_meet
    case rel=>exact hD
   case rest=>
    obtain ⟨ar,ap⟩:=hcut;have P:=H_ ar;have s:=H_ ap;clear ar ap a7 m r1 z7 z8 z9 z6 az G;have af:=D;obtain ⟨⟨u8,ag⟩,ai⟩:=s.frames.slot (i:=i) (p:=8) (by simp;omega) O_
    go_upto_region 14 with fail
    have E:=H_ (s.putFrames (v_ wc ⟨gr,i*9+8,none⟩ (I_ 0)) (s.frames.writing af 0) z_);have A:=H_ (P.grown (v_ wc ⟨gr,i*9+8,none⟩ (I_ 0)) (fun k e=>by cases e;exact s.o2) J L);generalize wc.setCell ⟨gr,i*9+8,none⟩ (I_ 0)=V8 at E A;clear s P ag ai;have a4:=fun w' (N:q_ V8 w')=>oJ i j ⟨x.file,x.page,x.pg,x.tenant,x.holds,x.reading,0⟩ ⟨y.dev,y.slot,y.c,y.size,bits .or .i64 y.blocks (wrap64 (2 ^ p)),y.ecnt,y.eerr,y.sseq,y.ssize,y.sblocks,y.which,y.seq⟩ (E.step N) (nU b7) a8 M.ix (nU ay) ⟨M.ok.page,HV⟩ (fun z hz=>by have:=A.below.size;have:=N.size;have:=p_ (A.bk _ _ jB);exact ⟨hS z O_,O_,O_,O_⟩)
    go_upto_region 15 with (go_at_call 51;refine CM (a4 _ B_) ?_;rintro e w9 ⟨⟨v9,rfl⟩,a0,a3⟩)
    have W:=H_ a0;have I:=H_ (A.grown a3 (fun k e=>by cases e;exact E.o1) J L);clear E A a0 a3 a4;have Y:=W.box;obtain ⟨x0,x1,x2,x3,x4,x5,x6⟩:=aF Y;have F:=I.bk _ _ jQ;have v:=I.bk _ _ jB;have e0:(w9.setRow (w+1) (E_ (o_ gf) nf cf (o_ gr) nr cr E3 e3 R E4 e4 U E5 e5 k5 E6 e6 k6 E7 e7 k7)).cell? ⟨w+1+1,0,none⟩=some (I_ 0):=(c_ (setRow_other _ (w+1) (w+1+1) _ O_)).trans (a_ v 0);have ez:(w9.setRow (w+1) (E_ (o_ gf) nf cf (o_ gr) nr cr E3 e3 R E4 e4 U E5 e5 k5 E6 e6 k6 E7 e7 k7)).frozen? ⟨w+1+1,0,none⟩=false:=(World.frozen?_of_block (a:=⟨w+1+1,0,none⟩) (setRow_other _ (w+1) (w+1+1) _ O_)).trans (t_ v 0)
    go_wp2_with (refine aJ rfl (.tmp 6) (.tmp 86) rfl rfl rfl rfl F rfl ?_)
    refine leaves_cons (f:=41) (args:=#[P_ (w+1+1)]) z_ (by simp [go_sem]) ?_;refine (fO).mono ?_;rintro e u' b2 ⟨rfl,rfl,rfl⟩;refine xY rfl 0 rfl rfl ⟨_,F⟩ ⟨_,v⟩ W.out rfl I.below ?_;unfold nI;rw [if_neg ak.out,if_pos rfl];refine ⟨?_,rfl⟩;simp only[eY,eW,d0_,List.set_set];rw [HP.out]
    rfl
  ·have e2:(n == 0)=false:=beq_eq_false_iff_ne.2 he;have HE:=H_ he;clear he
   go_upto_region 11 with fail
   have r2:=m.frames.frame_at D 2 _ rfl;have r3:=m.frames.frame_at D 3 _ rfl;have r4:=m.frames.frame_at D 4 _ rfl;have r8:=m.frames.frame_at D 8 _ rfl;have G:=m.frames.lt;have b1:=fun w'=>gX_ x.pg.data x.pg.valid x.pg.dirty x.writing w' M.ok.pg M.ok.writing
   go_cut [] from 50 to 64 (fun wx=>St w [(w.heap.size,.cells (E_ (some ⟨bf,of,none⟩) C.files.length c1 (some ⟨bb,o,none⟩) C.frames.length c2 A3 m3 c3 A4 m4 c4 A5 m5 c5 A6 m6 c6 A7 m7 c7) 30 (0,0)),(w.heap.size+1,cG),(w.heap.size+1+1,.cells #[I_ 0] 38 (0,0))] wx/\Bd wx (S5e S (w)) B1 X gf nf cf gr nr cr (S_ E3 e3 R) (S_ E4 e4 U) (S_ E5 e5 k5) (S_ E6 e6 k6) (S_ E7 e7 k7) {C with frames:=C.frames.set i {x with pg:=aK x.pg x.writing}})
   case first=>
    refine bG (S:=(fun z=>z≠gr)) 87 15 (inL [0,1,2,3,4,5,6,7,8,9,10,11,13,14]) (fun wx=>St w [(w.heap.size,.cells (E_ (some ⟨bf,of,none⟩) C.files.length c1 (some ⟨bb,o,none⟩) C.frames.length c2 A3 m3 c3 A4 m4 c4 A5 m5 c5 A6 m6 c6 A7 m7 c7) 30 (0,0)),(w.heap.size+1,cG),(w.heap.size+1+1,.cells #[I_ 0] 38 (0,0))] wx/\Bd wx (S5e S (w)) B1 X gf nf cf gr nr cr (S_ E3 e3 R) (S_ E4 e4 U) (S_ E5 e5 k5) (S_ E6 e6 k6) (S_ E7 e7 k7) {C with frames:=C.frames.set i {x with pg:=aK x.pg x.writing}}) [SK.eq (.pointer (some ⟨gr,i*9,none⟩)),SK.eq (.pointer (some ⟨gr,i*9,none⟩)),SK.eq (.pointer (some ⟨gr,i*9,none⟩)),SK.eq (.pointer (some ⟨gr,i*9+2,none⟩)),SK.eq (.agg #[.string x.pg.data,I_ x.pg.valid,I_ x.pg.dirty]),SK.eq (.pointer (some ⟨gr,i*9,none⟩)),SK.eq (.pointer (some ⟨gr,i*9,none⟩)),SK.eq (.pointer (some ⟨gr,i*9+8,none⟩)),SK.eq (I_ x.writing),SK.eq (.tuple #[wV (aK x.pg x.writing).data (aK x.pg x.writing).valid (aK x.pg x.writing).dirty,I_ 0]),SK.eq (.tuple #[wV (aK x.pg x.writing).data (aK x.pg x.writing).valid (aK x.pg x.writing).dirty,I_ 0]),SK.eq (wV (aK x.pg x.writing).data (aK x.pg x.writing).valid (aK x.pg x.writing).dirty),SK.eq (I_ 0),SK.eq (.pointer (some ⟨gr,i*9,none⟩)),SK.eq (.pointer (some ⟨gr,i*9+2,none⟩)),SK.any] s_ s_ rfl (fun _=>trivial) ?_
    refine qP fun v0=>qP fun v1=>?_;simp only[ly];refine qP fun v2=>qP fun v3=>?_;simp only[ly];refine k_ rfl rfl (fun xw t r K B=>?_) (fun v4=>?_)
    ·obtain rfl:v3=_:=r 3 s_;have l:q_ w4 xw:=t;have u0:=(l.cell (p:=⟨gr,_,none⟩) G).trans r2;have u1:=(l.cell (p:=⟨gr,_,none⟩) G).trans r3;have u2:=(l.cell (p:=⟨gr,_,none⟩) G).trans r4;go_simp;exact B _ _ t K_ rfl
    simp only[ly];refine qP fun v5=>qP fun v6=>qP fun v7=>?_;simp only[ly];refine k_ rfl rfl (fun xw t r K B=>?_) (fun v8=>?_)
    ·obtain rfl:v7=_:=r 7 s_;have l:q_ w4 xw:=t;have u0:=(l.cell (p:=⟨gr,_,none⟩) G).trans r8;go_simp;exact B _ _ t K_ rfl
    simp only[ly];refine k_ rfl rfl (fun xw t r K B=>?_) (fun v9=>?_)
    ·obtain rfl:v4=_:=r 4 s_;obtain rfl:v8=_:=r 8 s_;have l:q_ w4 xw:=t;go_simp
     go_at_call 67
     refine (b1 xw).mono ?_;rintro e w1 ⟨rfl,N⟩;exact B _ _ (d_ l N) (r_.of_below N) rfl
    simp only[ly];refine k_ rfl rfl (fun xw t r K B=>?_) (fun v10=>?_)
    ·obtain e:=r 9 s_;obtain rfl:v9=_:=e;go_simp;exact B _ _ t K_ rfl
    simp only[ly];refine k_ rfl rfl (fun xw t r K B=>?_) (fun v11=>?_)
    ·obtain e:=r 10 s_;obtain rfl:v10=_:=e;go_simp;exact B _ _ t K_ rfl
    simp only[ly];refine cD rfl (fun w=>r_.refl w) (fun xw r K B=>?_) (fun v12=>?_)
    ·obtain e:=r 10 s_;obtain rfl:v10=_:=e;go_simp;exact B _ rfl
    simp only[ly];refine qP fun v13=>qP fun v14=>?_;simp only[ly];refine aL (fun xw t r K B=>?_) (fun v15=>?_)
    ·obtain rfl:v14=_:=r 14 s_;obtain e:=r 11 s_;obtain rfl:v11=_:=e;have l:q_ w4 xw:=t;have q:=m.step l;have O:=a7.step l;have a9:=q.frames.there (i:=i) (p:=2) (n:=3) O_ O_;refine aO (ops:=#[]) rfl (pF rfl 83 (.tmp 64) (.tmp 61) rfl gr (i*9+2) #[.string (aK x.pg x.writing).data,I_ (aK x.pg x.writing).valid,I_ (aK x.pg x.writing).dirty] rfl rfl a9 dB (eX) ?_);have a2:=q.putFrames (J_ xw gr (i*9+2) [.string (aK x.pg x.writing).data,I_ (aK x.pg x.writing).valid,I_ (aK x.pg x.writing).dirty]) (q.frames.page D (aK x.pg x.writing)) z_;exact B undef _ ⟨O.grown (J_ xw gr (i*9+2) [.string (aK x.pg x.writing).data,I_ (aK x.pg x.writing).valid,I_ (aK x.pg x.writing).dirty]) (fun k e=>by cases e;exact m.o2) J L,a2⟩ (r_.of_setCells _ _ _ _ (fun h=>h rfl)) trivial
    simp only[ly];refine aY ?_;intro wz hD hG;clear hG;go_wp2;go_meet
    case rel=>exact hD
   case rest=>
    obtain ⟨aq,ao⟩:=hcut;have O:=H_ aq;have q:=H_ ao;clear aq ao a7 m r2 r3 r4 r8 G b1;obtain ⟨z7,z8,z9,z6⟩:=LW.fl_at q.files M.fl;have aa:=fun w'=>di_ n w' b3 HE
    go_upto_region 13 with (first
     | (go_at_call 68;(with_reducible refine CM (aa _) ?_);rintro e w6 ⟨rfl,a1⟩;have a9:=(q.step a1).files.there (i:=j) (p:=8) (n:=2) O_ O_)
     | (refine pF rfl 60 (.tmp 76) (.tmp 73) rfl gf (j*15+8) #[I_ (kF y.ecnt y.eerr n).1,I_ (kF y.ecnt y.eerr n).2.1] rfl rfl a9 sN (bf_) ?_))
    have s:=H_ ((q.step a1).putFiles (J_ w6 gf (j*15+8) _) ((q.step a1).files.errs M.fl (kF y.ecnt y.eerr n).1 (kF y.ecnt y.eerr n).2.1) z_);have P:=H_ ((O.step a1).grown (J_ w6 gf (j*15+8) [I_ (kF y.ecnt y.eerr n).1,I_ (kF y.ecnt y.eerr n).2.1]) (fun k e=>by cases e;exact q.o1) J L);generalize w6.setCells gf (j*15+8) _=V7 at s P;clear q O a9 a1 aa z7 z8 z9 z6;have ax:i<(C.frames.set i {x with pg:=aK x.pg x.writing}).length:=by simp;omega
    have af:(C.frames.set i {x with pg:=aK x.pg x.writing})[i]?=some {x with pg:=aK x.pg x.writing}:=nU O_
    obtain ⟨⟨u8,ag⟩,ai⟩:=s.frames.slot (i:=i) (p:=8) (by simp;omega) O_
    go_upto_region 14 with fail
    have E:=H_ (s.putFrames (v_ V7 ⟨gr,i*9+8,none⟩ (I_ 0)) (s.frames.writing af 0) z_);have A:=H_ (P.grown (v_ V7 ⟨gr,i*9+8,none⟩ (I_ 0)) (fun k e=>by cases e;exact s.o2) J L);generalize V7.setCell ⟨gr,i*9+8,none⟩ (I_ 0)=V8 at E A;clear s P ag ai;have a4:=fun w' (N:q_ V8 w')=>oJ i j ⟨x.file,x.page,aK x.pg x.writing,x.tenant,x.holds,x.reading,0⟩ ⟨y.dev,y.slot,y.c,y.size,y.blocks,(kF y.ecnt y.eerr n).1,(kF y.ecnt y.eerr n).2.1,y.sseq,y.ssize,y.sblocks,y.which,y.seq⟩ (E.step N) (nU ax) a8 M.ix (nU ay) ⟨M.ok.page,HV⟩ (fun z hz=>by have:=A.below.size;have:=N.size;have:=p_ (A.bk _ _ jB);exact ⟨hS z O_,O_,O_,O_⟩)
    go_upto_region 15 with (go_at_call 51;refine CM (a4 _ B_) ?_;rintro e w9 ⟨⟨v9,rfl⟩,a0,a3⟩)
    have W:=H_ a0;have I:=H_ (A.grown a3 (fun k e=>by cases e;exact E.o1) J L);clear E A a0 a3 a4;have Y:=W.box;obtain ⟨x0,x1,x2,x3,x4,x5,x6⟩:=aF Y;have F:=I.bk _ _ jQ;have v:=I.bk _ _ jB;have e0:(w9.setRow (w+1) (E_ (o_ gf) nf cf (o_ gr) nr cr E3 e3 R E4 e4 U E5 e5 k5 E6 e6 k6 E7 e7 k7)).cell? ⟨w+1+1,0,none⟩=some (I_ 0):=(c_ (setRow_other _ (w+1) (w+1+1) _ O_)).trans (a_ v 0);have ez:(w9.setRow (w+1) (E_ (o_ gf) nf cf (o_ gr) nr cr E3 e3 R E4 e4 U E5 e5 k5 E6 e6 k6 E7 e7 k7)).frozen? ⟨w+1+1,0,none⟩=false:=(World.frozen?_of_block (a:=⟨w+1+1,0,none⟩) (setRow_other _ (w+1) (w+1+1) _ O_)).trans (t_ v 0)
    go_wp2_with (refine aJ rfl (.tmp 6) (.tmp 86) rfl rfl rfl rfl F rfl ?_)
    refine leaves_cons (f:=41) (args:=#[P_ (w+1+1)]) z_ (by simp [go_sem]) ?_;refine (fO).mono ?_;rintro e u' b2 ⟨rfl,rfl,rfl⟩;refine xY rfl 0 rfl rfl ⟨_,F⟩ ⟨_,v⟩ W.out rfl I.below ?_;unfold nI;rw [if_neg ak.out,if_neg HE.out];refine ⟨?_,rfl⟩;simp only[eY,eW,List.set_set]
end
section
theorem iG_ (n k:Int) (h:x_ w S a b c d e f g C) (ok:lS C) (hus:∀w',q_ w w'->C_ 43 #[cI a b c d e f g,I_ n] w' (cP false w')) (hS:∀z,w.heap.size<=z->S z) :
  C_ 16 #[cI a b c d e f g,I_ n,I_ k] w (gC (fun C' err=>C'=C/\err=2) S w):=by
 have x:=fun w' (hb:q_ w w') (hlt:w.heap.size+1+1<w'.heap.size)=>vT C a b c d e f g (S5e S (w)) w' ((h.weak (fun z hz hs=>⟨hs,O_,O_,O_⟩)).step hb) ok (fun z hz=>⟨hS z O_,O_,O_,O_⟩);obtain ⟨G,W,c1,H,Y,c2,I,Z,O,J,m4,P,K,m5,Q,L,m6,R,M,m7,U,rfl,rfl,rfl,rfl,rfl,rfl,rfl⟩:=x_.caps h;clear h ok;have p:=H_ (show St w [(w.heap.size,.cells (E_ G W c1 H Y c2 I Z O J m4 P K m5 Q L m6 R M m7 U) 30 (0,0)),(w.heap.size+1,cG),(w.heap.size+1+1,.cells #[I_ 0] 38 (0,0))] (((w.alloc (.cells (E_ G W c1 H Y c2 I Z O J m4 P K m5 Q L m6 R M m7 U) 30)).alloc (cG)).alloc (.cells #[I_ 0] 38)) from ((St.nil w).push _ _ rfl).push _ (w+1) z_ |>.push _ (w+1+1) z_)
 go_enter_defers func16,ntmps16
 go_upto_region 2 with fail
 generalize ((w.alloc (.cells (E_ G W c1 H Y c2 I Z O J m4 P K m5 Q L m6 R M m7 U) 30)).alloc (cG)).alloc (.cells #[I_ 0] 38)=V at p;have t:=p.bk _ _ cO;obtain ⟨x0,y,A,B,D,E,F⟩:=aF t
 go_upto_region 3 with (go_at_call 42;refine CM (x _ p.below (p_ (p.bk _ _ jB))) ?_;rintro e w1 ⟨X,gf,nf,cf,gr,nr,cr,c',d',e',f',g',rfl,m,v⟩)
 have i:=H_ (p.step v);have q:=H_ m;obtain ⟨E3,e3,k3,rfl⟩:=m.zones.cap;obtain ⟨E4,e4,k4,rfl⟩:=m.groups.cap;obtain ⟨E5,e5,k5,rfl⟩:=m.lists.cap;obtain ⟨E6,e6,k6,rfl⟩:=m.clocks.cap;obtain ⟨E7,e7,k7,rfl⟩:=m.ptes.cap;clear x0 y A B D E F t m v p x;have u:=i.bk _ _ cO;obtain ⟨x0,y,A,B,D,E,F⟩:=aF u
 go_upto_region 4 with (go_at_call 43;refine CM (hus _ i.below) ?_;rintro e w2 ⟨rfl,o⟩)
 have l:=H_ (i.step o);have r:=H_ (q.step o);clear x0 y A B D E F u o i q hus;have N:=r.box;obtain ⟨x0,y,A,B,D,E,F⟩:=aF N;have s:=l.bk _ _ jQ;have j:=l.bk _ _ jB;have e0:(w2.setRow (w+1) (E_ (o_ gf) nf cf (o_ gr) nr cr E3 e3 k3 E4 e4 k4 E5 e5 k5 E6 e6 k6 E7 e7 k7)).cell? ⟨w+1+1,0,none⟩=some (I_ 0):=(c_ (setRow_other _ (w+1) (w+1+1) _ O_)).trans (a_ j 0);have ez:(w2.setRow (w+1) (E_ (o_ gf) nf cf (o_ gr) nr cr E3 e3 k3 E4 e4 k4 E5 e5 k5 E6 e6 k6 E7 e7 k7)).frozen? ⟨w+1+1,0,none⟩=false:=(World.frozen?_of_block (a:=⟨w+1+1,0,none⟩) (setRow_other _ (w+1) (w+1+1) _ O_)).trans (t_ j 0)
 go_wp2_with (refine aJ rfl (.tmp 6) (.tmp 20) rfl rfl rfl rfl s rfl ?_)
 refine leaves_cons (f:=41) (args:=#[P_ (w+1+1)]) z_ (by simp [go_sem]) ?_;refine (fO).mono ?_;rintro e u' a0 ⟨rfl,rfl,rfl⟩;exact xY rfl 2 rfl rfl ⟨_,s⟩ ⟨_,j⟩ r.out rfl l.below ⟨rfl,rfl⟩
theorem gU (n:Int) (h:x_ w S a b c d e f g C) :
  C_ 73 #[cI a b c d e f g,I_ n] w (cP (decide (0<=n)&&decide (n<(C.files.length:Int))) w):=by
 obtain ⟨m,l,rfl,H,I⟩:=h.files.form;obtain ⟨o,A,c2,rfl⟩:=h.frames.cap;obtain ⟨p,B,u,q,D,v,r,E,x,s,F,y,t,G,z,rfl,rfl,rfl,rfl,rfl⟩:=x_.caps5 h;clear h H I;have k:=H_ (b_ (aI (w) w) (.cells (E_ m C.files.length l o A c2 p B u q D v r E x s F y t G z) 30))
 by_cases h0:0<=n
 ·have J:decide (0<=n)=true:=dT h0
  by_cases h1:n<(C.files.length:Int)
  ·have i:=H_ h0;have j:=H_ h1;go_enter func73,ntmps73;go_wp2;go_ret;have h0:=i.out;have h1:=j.out;exact ⟨by simp;omega,k.out⟩
  ·have i:=H_ h0;have j:=H_ h1;go_enter func73,ntmps73;go_wp2;go_ret;have h0:=i.out;have h1:=j.out;exact ⟨by simp;omega,k.out⟩
 ·go_enter func73,ntmps73;go_wp2;go_ret;exact ⟨by simp;omega,k.out⟩
end
section
theorem j0_ (h:fn.results=#[.cell p 37,.cell q 38]) (tmps:Array Value) {g:Nat}(g3:Nat)
  (hp:tmps.getD p undef = P_ g) (hq:tmps.getD q undef = P_ g3) (hg:w.heap[g]?=some (.cells cs 37 (0,0))) (hg3:w.cell? ⟨g3,0,none⟩=some u) (hs:cs.size=10) :
  (results fn tmps).run prog w = .ok (.tuple #[.agg cs,u]) w:=by
 have a:tmps[p]?.getD undef = P_ g:=by simpa using hp
 have b:tmps[q]?.getD undef = P_ g3:=by simpa using hq
 simp [results,h,a,b,asAddr,run_loadVar_row w g _ 37 cs (0,0) _ hg underlying37 rfl (by rw [hs];exact bT),rI w hg3]
def tK (P:Value->Int->Prop) (w:World) (en:Ending) (w':World):Prop:=∃rq err,P rq err/\en = .returned (.tuple #[rq,I_ err])/\q_ w w'
def rZ (x:Fr) (y:Fl) (rq:Value) (err:Int):Prop:=if x.reading=0 then rq=rq0/\err=4 else rq=rqP x y x.reading 1 ⟨#[]⟩/\err=0
theorem bg_ {Pr:Value->Int->Prop} (h:fn.results=#[.cell p 37,.cell q 38]) {rq:Array Value} (err:Int)
  (hp:tmps.getD p undef = P_ (w+1)) (hq:tmps.getD q undef = P_ (w+1+1))
  (HR:∃cs0,V.heap[w.heap.size+1]?=some (.cells cs0 37 (0,0))) (HE:∃u,V.heap[w.heap.size+1+1]?=some (.cells #[u] 38 (0,0)))
  (hrq:rq.size=10) (hb:q_ w V) (hP:Pr (.agg rq) err) :
  Leaves prog fn tmps (tK Pr w) [] .returning ((V.setRow (w+1) rq).setCell ⟨w+1+1,0,none⟩ (I_ err)):=by
 obtain ⟨cs0,HR⟩:=HR;obtain ⟨u,HE⟩:=HE;have a:=(setRow_other V (w+1) (w+1+1) rq O_).trans HE;have b:(V.setRow (w+1) rq).heap[w.heap.size+1]?=some (.cells rq 37 (0,0)):=setRow_heap _ _ _ _ _ _ HR;refine ⟨_,j0_ h tmps (w+1+1) hp hq (aM b _ _ (by show w.heap.size+1≠w.heap.size+1+1;omega)) (a_ (R_ a _) 0) hrq,?_⟩;exact ⟨_,err,hP,rfl,bA (j_ hb O_ _) _ _ (by show w.heap.size<=w.heap.size+1+1;omega)⟩
theorem fc_ (h:x_ w S a b c d e f g C) (hl:C.frames.length<=100) (hu:dE C i x j y) (hsl:0<=y.slot/\y.slot<7) (hdb:qM w) :
  C_ 18 #[cI a b c d e f g,I_ ((i:Int)+1)] w (tK (rZ x y) w):=by
 have v:=fun w' (hb:q_ w w')=>pT i x (h.step hb) hu.fr hl;rw [ofi hu] at v;have H:=H_ h;obtain ⟨A1,m1,c1,A2,m2,c2,A3,m3,c3,A4,m4,c4,A5,m5,c5,A6,m6,c6,A7,m7,c7,rfl,rfl,rfl,rfl,rfl,rfl,rfl⟩:=x_.caps h;obtain ⟨bb,o,rfl,a4,L,U,y2,W,X,Y,Z,y7,y8⟩:=FrA.cells h.frames hu.fr;obtain ⟨bf,of,kt,KB,kc,rfl,ac,k1,k2,k3,k4,a5⟩:=FlA.cells h.files hu.fl;have ad:=bK hu.fr;have ae:=bK hu.fl;have a7:m2=C.frames.length:=by obtain ⟨_,_,e,_⟩:=h.frames.form;injection e
 have a6:m1=C.files.length:=by obtain ⟨_,_,e,_⟩:=h.files.form;injection e
 subst a6 a7;have i2:(i:Int)<(C.frames.length:Int):=O_
 have i4:(i:Int)+1<=100:=O_
 obtain ⟨B,a0,a1⟩:=eT hu hdb hsl;rw [hu.ix] at L;clear h hu hdb hsl k1 k2 k3 k4 a5;have A:=H_ (show St w [(w.heap.size,.cells (E_ (some ⟨bf,of,none⟩) C.files.length c1 (some ⟨bb,o,none⟩) C.frames.length c2 A3 m3 c3 A4 m4 c4 A5 m5 c5 A6 m6 c6 A7 m7 c7) 30 (0,0)),(w.heap.size+1,lK),(w.heap.size+1+1,.cells #[I_ 0] 38 (0,0))] (((w.alloc (.cells (E_ (some ⟨bf,of,none⟩) C.files.length c1 (some ⟨bb,o,none⟩) C.frames.length c2 A3 m3 c3 A4 m4 c4 A5 m5 c5 A6 m6 c6 A7 m7 c7) 30)).alloc (lK)).alloc (.cells #[I_ 0] 38)) from ((St.nil w).push _ _ rfl).push _ (w+1) z_ |>.push _ (w+1+1) z_)
 go_enter_defers func18,ntmps18
 go_upto_region 2 with fail
 generalize ((w.alloc (.cells (E_ (some ⟨bf,of,none⟩) C.files.length c1 (some ⟨bb,o,none⟩) C.frames.length c2 A3 m3 c3 A4 m4 c4 A5 m5 c5 A6 m6 c6 A7 m7 c7) 30)).alloc (lK)).alloc (.cells #[I_ 0] 38)=V at A;have E:=A.bk _ _ cO;obtain ⟨x0,M,N,O,P,Q,R⟩:=aF E
 go_upto_region 4 with (go_at_call 43;refine CM (v _ A.below) ?_;rintro e w2 ⟨rfl,G⟩;have r:=H_ (A.step G))
 clear x0 M N O P Q R E G A v;have F:=r.bk _ _ cO;obtain ⟨x0,M,N,O,P,Q,R⟩:=aF F;have D:=H_ r.below;have aa:=kt9 (D.block _ a4) L U y2 W X Y Z y7 y8;clear L U y2 W X Y Z y7 y8;obtain ⟨L,U,y2,W,X,Y,Z,y7,y8⟩:=aa
 go_upto_region 5 with fail
 have HF:=H_ (g_ w2 (.cells (fG (j:Int) x) 85));have l:=H_ (r.alloc (.cells (fG (j:Int) x) 85));generalize w2.alloc (.cells (fG (j:Int) x) 85)=V3 at HF l;clear x0 M N O P Q R L U y2 W X Y Z y7 y8 F r D;obtain ⟨f0,f1,f2,f3,f4,f5,f6,f7,f8⟩:=sE HF.out
 by_cases m:x.reading=0
 ·have d3:(x.reading == 0)=true:=by rw [m];rfl
  have HB:=H_ (show rZ x y rq0 4 by unfold rZ;rw [if_pos m];exact ⟨rfl,rfl⟩);clear m;have n:=l.bk _ _ jQ;have k:=l.bk _ _ jB;have e0:(V3.setRow (w+1) lO).cell? ⟨w+1+1,0,none⟩=some (I_ 0):=(c_ (setRow_other _ (w+1) (w+1+1) _ O_)).trans (a_ k 0);have ez:(V3.setRow (w+1) lO).frozen? ⟨w+1+1,0,none⟩=false:=(World.frozen?_of_block (a:=⟨w+1+1,0,none⟩) (setRow_other _ (w+1) (w+1+1) _ O_)).trans (t_ k 0)
  go_wp2_with (refine cV rfl 37 (.tmp 4) (.tmp 21) rfl rfl (w+1) lO rfl rfl 37 _ n bT rfl (dX) ?_)
  refine leaves_cons (f:=41) (args:=#[P_ (w+1+1)]) z_ (by simp [go_sem]) ?_;refine (fO).mono ?_;rintro e u' z ⟨rfl,rfl,rfl⟩;refine bg_ rfl 4 rfl rfl ⟨_,n⟩ ⟨_,k⟩ rfl l.below ?_;exact HB.out
 ·have d3:(x.reading == 0)=false:=beq_eq_false_iff_ne.2 m;obtain ⟨s,u⟩:=aZ x.reading;have K:s=1\/s=2\/s=3:=by have:=B.ok.reading;omega
  obtain ⟨q,p,J,I,a9⟩:∃q p:Nat,(dR s).1=q/\(dR s).2=p/\((s=1/\(q:Int)=0/\(p:Int)=1)\/(s=2/\(q:Int)=1/\(p:Int)=1)\/(s=3/\(q:Int)=0/\(p:Int)=2)):=by
   rcases K with rfl | rfl | rfl
   ·exact ⟨0,1,rfl,rfl,.inl ⟨rfl,rfl,rfl⟩⟩
   ·exact ⟨1,1,rfl,rfl,.inr (.inl ⟨rfl,rfl,rfl⟩)⟩
   ·exact ⟨0,2,rfl,rfl,.inr (.inr ⟨rfl,rfl,rfl⟩)⟩
  have HB:=H_ (show rZ x y (.agg (bJ 0 x.tenant y.dev 1 (y.slot*18+2+x.page*2+(q:Int)) (p:Int) ⟨#[]⟩ false false 0)) 0 by
   unfold rZ;rw [if_neg m];refine ⟨?_,rfl⟩;unfold rqP;rw [<-u,J,I])
  rw [<-u] at f7 d3;clear m J I K u;have a8:=fun w' (hb:q_ w w')=>cm_ i j x y 1 s q p ⟨#[]⟩ (.inr ⟨rfl,rfl⟩) (H.step hb) B.fr B.ix B.fl hl a1 B.ok.page (a0.step hb) a9 (fun z ab=>el_ z);have a2:=l.bk _ _ cO;obtain ⟨x0,M,N,O,P,Q,R⟩:=aF a2
  go_wp2_with (first
   | (go_at_call 46;refine CM (a8 _ l.below) ?_;rintro e w5 ⟨rfl,a3⟩;have t:=H_ (l.step a3);have n:=t.bk _ _ jQ;have k:=t.bk _ _ jB;have e0:(w5.setRow (w+1) (bJ 0 x.tenant y.dev 1 (y.slot*18+2+x.page*2+(q:Int)) (p:Int) ⟨#[]⟩ false false 0)).cell? ⟨w+1+1,0,none⟩=some (I_ 0):=(c_ (setRow_other _ (w+1) (w+1+1) _ O_)).trans (a_ k 0);have ez:(w5.setRow (w+1) (bJ 0 x.tenant y.dev 1 (y.slot*18+2+x.page*2+(q:Int)) (p:Int) ⟨#[]⟩ false false 0)).frozen? ⟨w+1+1,0,none⟩=false:=(World.frozen?_of_block (a:=⟨w+1+1,0,none⟩) (setRow_other _ (w+1) (w+1+1) _ O_)).trans (t_ k 0))
   | (refine cV rfl 37 (.tmp 4) (.tmp 26) rfl rfl (w+1) (bJ 0 x.tenant y.dev 1 (y.slot*18+2+x.page*2+(q:Int)) (p:Int) ⟨#[]⟩ false false 0) rfl rfl 37 _ n bT rfl (dX) ?_))
  refine leaves_cons (f:=41) (args:=#[P_ (w+1+1)]) z_ (by simp [go_sem]) ?_;refine (fO).mono ?_;rintro e u' z ⟨rfl,rfl,rfl⟩;refine bg_ rfl 0 rfl rfl ⟨_,n⟩ ⟨_,k⟩ rfl t.below ?_;exact HB.out
end
section
theorem wU (n:Int) (h:x_ w S a b c d e f g C) :
  C_ 125 #[cI a b c d e f g,I_ n] w (cP (decide (0<=n)&&decide (n<(C.files.length:Int))) w):=by
 obtain ⟨m,l,rfl,H,I⟩:=h.files.form;obtain ⟨o,A,c2,rfl⟩:=h.frames.cap;obtain ⟨p,B,u,q,D,v,r,E,x,s,F,y,t,G,z,rfl,rfl,rfl,rfl,rfl⟩:=x_.caps5 h;clear h H I;have k:=H_ (b_ (aI (w) w) (.cells (E_ m C.files.length l o A c2 p B u q D v r E x s F y t G z) 30))
 by_cases h0:0<=n
 ·have J:decide (0<=n)=true:=dT h0
  by_cases h1:n<(C.files.length:Int)
  ·have i:=H_ h0;have j:=H_ h1;go_enter func125,ntmps125;go_wp2;go_ret;have h0:=i.out;have h1:=j.out;exact ⟨by simp;omega,k.out⟩
  ·have i:=H_ h0;have j:=H_ h1;go_enter func125,ntmps125;go_wp2;go_ret;have h0:=i.out;have h1:=j.out;exact ⟨by simp;omega,k.out⟩
 ·go_enter func125,ntmps125;go_wp2;go_ret;exact ⟨by simp;omega,k.out⟩
theorem gR_ (n p:Int) (h:x_ w S a b c d e f g C) (hn:¬(0<=n/\n<(C.files.length:Int))):C_ 57 #[cI a b c d e f g,I_ n,I_ p] w (eR 0 w):=by
 have i:=fun w' (hb:q_ w w')=>wU n (h.step hb);rw [show (decide (0<=n)&&decide (n<(C.files.length:Int)))=false by simp;omega] at i;obtain ⟨l,A,c1,m,B,c2,o,D,u,q,E,v,r,F,x,s,G,y,t,H,z,rfl,rfl,rfl,rfl,rfl,rfl,rfl⟩:=x_.caps h;have k:=H_ (fun X=>b_ (aI (w) w) X);clear h hn;go_enter func57,ntmps57
 go_wp2_with (go_at_call 125;(with_reducible refine CM (i _ (by first | assumption | exact k.out _)) ?_);rintro e w1 ⟨rfl,j⟩)
 go_ret2
 exact ⟨rfl,d_ (k.out _) j⟩
theorem gT_ (i:Nat) (x:Fl) (p:Int) (h:x_ w S a b c d e f g C) (hi:C.files[i]?=some x):C_ 57 #[cI a b c d e f g,I_ i,I_ p] w (eR (D_ x.c p) w):=by
 have N:=bK hi;have s:=fun w' (hb:q_ w w')=>wU i (h.step hb);rw [show (decide (0<=(i:Int))&&decide ((i:Int)<(C.files.length:Int)))=true by simp;omega] at s;obtain ⟨A,cap,rfl,q1,q2⟩:=h.files.form;obtain ⟨bb,o,t,B,M,rfl,y,H,I,J,K,hc⟩:=FlA.cells h.files hi;have n:=fun w' (hb:q_ w w')=>jJ_ M p H I J (K.step hb);have y2:w.cell? ⟨bb,o+i*15+2,none⟩=some (I_ t):=hc 2 _ rfl;have D:=hc 3 _ rfl;have E:w.cell? ⟨bb,o+i*15+4,none⟩=some (I_ (f_ t x.c).val):=hc 4 _ rfl;have F:w.cell? ⟨bb,o+i*15+5,none⟩=some (I_ (f_ t x.c).marks):=hc 5 _ rfl;have G:=H_ (fun X=>b_ (aI (w) w) X);have Z:(0:Int)<=(i:Int):=O_
 have i1:(i:Int)<(C.files.length:Int):=O_
 generalize (f_ t x.c).kids.length=kn at *;generalize (f_ t x.c).val=kv at *;generalize (f_ t x.c).marks=km at *;obtain ⟨m,r⟩:=aZ (D_ x.c p);rw [<-r] at n ⊢;clear hc h hi r H I J K;have L:=H_ (g_ w (.cells #[S_ (some ⟨bb,o,none⟩) C.files.length cap,b,c,d,e,f,g] 30));go_enter func57,ntmps57
 go_upto_region 3 with (go_at_call 125;(with_reducible refine CM (s _ (by first | assumption | exact G.out _)) ?_);rintro e w1 ⟨rfl,q⟩)
 have k:=H_ (d_ (G.out _) q);have v:=lJ L q;obtain ⟨x0,Q,R,U,V,W,Y⟩:=aF v.out;clear Q R U V W Y;have z:=kt4 (k.block _ y) y2 D E F;clear y2 D E F;obtain ⟨y2,D,E,F⟩:=z;clear q
 by_cases hv:m<=0
 ·have u:=H_ (show wG m = .tuple #[I_ 0,.bool false] from if_pos hv)
  by_cases h0:m=0
  ·subst h0;clear hv
   go_wp2_with (go_at_call 126;(with_reducible refine CM (n _ k.out) ?_);rintro e w2 ⟨rfl,j⟩;have l:=lU k j;clear j)
   go_ret2
   exact ⟨by rw [u.out];rfl,l⟩
  ·have O:m<0:=O_
   have P:¬0<m:=O_
   clear hv h0
   go_wp2_with (go_at_call 126;(with_reducible refine CM (n _ k.out) ?_);rintro e w2 ⟨rfl,j⟩;have l:=lU k j;clear j)
   all_goals first | omega | skip
   go_ret2
   exact ⟨by rw [u.out,<-dF (show ¬(0<m) by omega)];rfl,l⟩
 ·have u:=H_ (show wG m = .tuple #[I_ m,.bool true] from if_neg hv);have yX:0<m:=O_
  go_wp2_with (go_at_call 126;(with_reducible refine CM (n _ k.out) ?_);rintro e w2 ⟨rfl,j⟩;have l:=lU k j;clear j)
  all_goals first | omega | skip
  go_ret2
  exact ⟨by rw [u.out];rfl,l⟩
def kN (C:Ck) (v:Int):Bool:=decide (0<v)&&(match C.frames[(v - 1).toNat]? with | some x=>decide (0<=x.file)&&(x.pg.dirty != 0&&x.writing == 0) | none=>false)
def nQ (C:Ck) (vv:Nat->Int) (k:Nat):List Int:=((List.range k).filter (fun p=>kN C (vv p))).map (fun p:Nat=>(p:Int))
theorem fD_ (h:kN C (vv k)=true):nQ C vv (k+1)=nQ C vv k ++ [(k:Int)]:=by simp [nQ,List.range_succ,h]
theorem qH (h:kN C (vv k)=false):nQ C vv (k+1)=nQ C vv k:=by simp [nQ,List.range_succ,h]
theorem fC_ (C:Ck) (vv:Nat->Int) (k:Nat):(nQ C vv k).length<=k:=by
 unfold nQ;rw [mL_];exact dO (List.length_filter_le _ _) z_
theorem wW (n:Int) (h:x_ w S a b c d e f g C) (hl:C.frames.length<=100) (hfind:∀(p:Nat) w',q_ w w'->p<8->C_ 57 #[cI a b c d e f g,I_ n,I_ (p:Int)] w' (eR (vv p) w')) (hS:∀b,w.heap.size<=b->S b) :
  C_ 12 #[cI a b c d e f g,I_ n] w (pG (nQ C vv 8) S w):=by
 have H:=H_ h;have J:=fun (v:Int) w' (G:q_ w w') (hn:¬(1<=v/\v<=C.frames.length))=>cp_ v (h.step G) hn;have L:=fun (i:Nat) (x:Fr) w' (G:q_ w w') (hi:C.frames[i]?=some x)=>pT i x (h.step G) hi hl;obtain ⟨A1,m1,c1,rfl⟩:=h.files.cap;obtain ⟨A2,c2,rfl,q1,q2⟩:=h.frames.form;obtain ⟨A3,m3,c3,A4,m4,c4,A5,m5,c5,A6,m6,c6,A7,m7,c7,rfl,rfl,rfl,rfl,rfl⟩:=x_.caps5 h;have a2:=H_ (g_ w (.cells (E_ A1 m1 c1 A2 C.frames.length c2 A3 m3 c3 A4 m4 c4 A5 m5 c5 A6 m6 c6 A7 m7 c7) 30));have a1:=H_ (b_ (aI (w) w) (.cells (E_ A1 m1 c1 A2 C.frames.length c2 A3 m3 c3 A4 m4 c4 A5 m5 c5 A6 m6 c6 A7 m7 c7) 30));clear h q1 q2;go_enter func12,ntmps12
 go_upto_region 3 with fail
 generalize w.alloc (.cells (E_ A1 m1 c1 A2 C.frames.length c2 A3 m3 c3 A4 m4 c4 A5 m5 c5 A6 m6 c6 A7 m7 c7) 30)=V at a2 a1
 go_loopw [5,9] (fun u i wx=>∃k:Nat,i = I_ (k:Int)/\k<=8/\LO M_ 3 wx (w+1) S u (nQ C vv k)/\q_ w wx/\aW wx (w) (E_ A1 m1 c1 A2 C.frames.length c2 A3 m3 c3 A4 m4 c4 A5 m5 c5 A6 m6 c6 A7 m7 c7) 30) (fun _ i _=>100 - (intOf i).toNat)
 case atStart=>exact ⟨0,rfl,O_,LO.nil _ _ _ _ _,a1.out,a2.out⟩
 case round=>
  obtain ⟨k,rfl,hk,ho,G,X⟩:=hrel;obtain ⟨K,t,F⟩:=eT ho G X;clear ho G X;obtain ⟨x0,D,N,O,P,Q,R⟩:=aF F.out;have l:=p_ F
  by_cases a6:k<8
  ·have k8:(k:Int)<8:=O_
   have k0:(0:Int)<=(k:Int):=O_
   have E:=fun w' (G:q_ w w')=>hfind k w' G a6;obtain ⟨v,hv⟩:=aZ (vv k);rw [<-hv] at E
   by_cases h0:v<=0
   ·have U:=H_ (show kN C (vv k)=false by rw [<-hv];unfold kN;rw [dF O_];rfl);rw [show eR v=fun w e w'=>e = .returned (.tuple #[I_ 0,.bool false])/\q_ w w' by funext w e w';unfold eR;rw [show wG v = .tuple #[I_ 0,.bool false] from if_pos h0]] at E;have B:=fun w' (G:q_ w w')=>J 0 w' G O_;clear hv h0 hfind J L
    go_wp2_with (first
     | (go_at_call 57;(with_reducible refine CM (E _ t.out) ?_);rintro e w1 ⟨rfl,j⟩;have r:=lU t j;have z:=H_ (K.step j);have A:=lJ F j;have x0:=(c_ (j.block _ l)).trans x0;have D:=(c_ (j.block _ l)).trans D;have N:=(c_ (j.block _ l)).trans N;have O:=(c_ (j.block _ l)).trans O;have P:=(c_ (j.block _ l)).trans P;have Q:=(c_ (j.block _ l)).trans Q;have R:=(c_ (j.block _ l)).trans R)
     | (go_at_call 43;(with_reducible refine CM (B _ r.out) ?_);rintro e w2 ⟨rfl,m⟩;have q:=lU r m;have y:=H_ (z.step m);have s:=lJ A m))
    go_roundw
    case rel=>exact ⟨k+1,by go_num,O_,by rw [qH U.out];exact y,q.out,s⟩
    case measure=>exact bH
   ·rw [show eR v=fun w e w'=>e = .returned (.tuple #[I_ v,.bool true])/\q_ w w' by funext w e w';unfold eR;rw [show wG v = .tuple #[I_ v,.bool true] from if_neg h0]] at E
    by_cases h1:v<=C.frames.length
    ·obtain ⟨i,rfl⟩:∃i:Nat,v=(i:Int)+1:=⟨(v - 1).toNat,O_⟩;have a5:i<C.frames.length:=O_
     obtain ⟨x,X⟩:∃x,C.frames[i]?=some x:=⟨_,cU a5⟩;have B:=fun w' (G:q_ w w')=>L i x w' G X;have W:kN C (vv k)=(decide (0<=x.file)&&(x.pg.dirty != 0&&x.writing == 0)):=by
      rw [<-hv];unfold kN;rw [show (((i:Int)+1) - 1).toNat=i by omega,X,dT O_];rfl
     obtain ⟨bb,o,rfl,I,y0,y1,y2,y3,Y,y5,y6,y7,Z⟩:=FrA.cells H.frames X;have i2:(i:Int)<(C.frames.length:Int):=O_
     have i4:(i:Int)+1<=100:=O_
     clear y0 y1 y2 y3 y5 y6 y7 hv h0 h1 hfind J L
     by_cases hf:0<=x.file
     ·rw [dT hf] at B W
      by_cases hd:x.pg.dirty=0
      ·have U:=H_ (show kN C (vv k)=false by rw [W,hd];rfl);rw [hd] at Y;clear W hf hd X
       go_wp2_with (first
        | (go_at_call 57;(with_reducible refine CM (E _ t.out) ?_);rintro e w1 ⟨rfl,j⟩;have r:=lU t j;have z:=H_ (K.step j);have A:=lJ F j;have x0:=(c_ (j.block _ l)).trans x0;have D:=(c_ (j.block _ l)).trans D;have N:=(c_ (j.block _ l)).trans N;have O:=(c_ (j.block _ l)).trans O;have P:=(c_ (j.block _ l)).trans P;have Q:=(c_ (j.block _ l)).trans Q;have R:=(c_ (j.block _ l)).trans R)
        | (go_at_call 43;(with_reducible refine CM (B _ r.out) ?_);rintro e w2 ⟨rfl,m⟩;have q:=lU r m;have y:=H_ (z.step m);have s:=lJ A m;have D:=a_ s 1;simp only[zl] at D;replace Y:=(c_ (q.block _ I)).trans Y;replace Z:=(c_ (q.block _ I)).trans Z)
        | fail)
       go_roundw
       case rel=>exact ⟨k+1,by go_num,O_,by rw [qH U.out];exact y,q.out,s⟩
       case measure=>exact bH
      ·have a4:(x.pg.dirty != 0)=true:=bne_iff_ne.2 hd
       by_cases M:x.writing=0
       ·have U:=H_ (show kN C (vv k)=true by rw [W,a4,M];rfl);rw [M] at Z;clear W hf hd X M
        go_wp2_with (first
         | (go_at_call 57;(with_reducible refine CM (E _ t.out) ?_);rintro e w1 ⟨rfl,j⟩;have r:=lU t j;have z:=H_ (K.step j);have A:=lJ F j;have x0:=(c_ (j.block _ l)).trans x0;have D:=(c_ (j.block _ l)).trans D;have N:=(c_ (j.block _ l)).trans N;have O:=(c_ (j.block _ l)).trans O;have P:=(c_ (j.block _ l)).trans P;have Q:=(c_ (j.block _ l)).trans Q;have R:=(c_ (j.block _ l)).trans R)
         | (go_at_call 43;(with_reducible refine CM (B _ r.out) ?_);rintro e w2 ⟨rfl,m⟩;have q:=lU r m;have y:=H_ (z.step m);have s:=lJ A m;have D:=a_ s 1;simp only[zl] at D;replace Y:=(c_ (q.block _ I)).trans Y;replace Z:=(c_ (q.block _ I)).trans Z)
         | (at_builtin;(refine U_ cS rfl (.tmp 43) (.tmp 45) rfl S rfl (y.alloc _) (by have:=p_ s;simp;omega) (by have:=fC_ C vv k;omega) #[I_ (k:Int)] rfl (l_ _ _ _ rfl) (k:Int) rfl ?_);intro v4 w4 a0 a3 a7))
        go_roundw
        case rel=>exact ⟨k+1,by go_num,O_,by rw [fD_ U.out];exact a0,(b_ q.out _).grown a3 (b_ q.out _).size (fun b G=>by have:=(y.own G).1;omega),(a3.block _ (p_ (m_ s.out _)) (fun e=>by have:=(y.own e.symm).1;omega)).trans (m_ s.out _)⟩
        case measure=>exact bH
       ·have U:=H_ (show kN C (vv k)=false by rw [W,beq_eq_false_iff_ne.2 M];simp);have a8:(x.writing == 0)=false:=beq_eq_false_iff_ne.2 M;clear W hf hd X M
        go_wp2_with (first
         | (go_at_call 57;(with_reducible refine CM (E _ t.out) ?_);rintro e w1 ⟨rfl,j⟩;have r:=lU t j;have z:=H_ (K.step j);have A:=lJ F j;have x0:=(c_ (j.block _ l)).trans x0;have D:=(c_ (j.block _ l)).trans D;have N:=(c_ (j.block _ l)).trans N;have O:=(c_ (j.block _ l)).trans O;have P:=(c_ (j.block _ l)).trans P;have Q:=(c_ (j.block _ l)).trans Q;have R:=(c_ (j.block _ l)).trans R)
         | (go_at_call 43;(with_reducible refine CM (B _ r.out) ?_);rintro e w2 ⟨rfl,m⟩;have q:=lU r m;have y:=H_ (z.step m);have s:=lJ A m;have D:=a_ s 1;simp only[zl] at D;replace Y:=(c_ (q.block _ I)).trans Y;replace Z:=(c_ (q.block _ I)).trans Z)
         | fail)
        go_roundw
        case rel=>exact ⟨k+1,by go_num,O_,by rw [qH U.out];exact y,q.out,s⟩
        case measure=>exact bH
     ·rw [dF hf] at B W;have U:=H_ (show kN C (vv k)=false by rw [W];rfl);clear W hf X
      go_wp2_with (first
       | (go_at_call 57;(with_reducible refine CM (E _ t.out) ?_);rintro e w1 ⟨rfl,j⟩;have r:=lU t j;have z:=H_ (K.step j);have A:=lJ F j;have x0:=(c_ (j.block _ l)).trans x0;have D:=(c_ (j.block _ l)).trans D;have N:=(c_ (j.block _ l)).trans N;have O:=(c_ (j.block _ l)).trans O;have P:=(c_ (j.block _ l)).trans P;have Q:=(c_ (j.block _ l)).trans Q;have R:=(c_ (j.block _ l)).trans R)
       | (go_at_call 43;(with_reducible refine CM (B _ r.out) ?_);rintro e w2 ⟨rfl,m⟩;have q:=lU r m;have y:=H_ (z.step m);have s:=lJ A m;have D:=a_ s 1;simp only[zl] at D;replace Y:=(c_ (q.block _ I)).trans Y;replace Z:=(c_ (q.block _ I)).trans Z)
       | fail)
      go_roundw
      case rel=>exact ⟨k+1,by go_num,O_,by rw [qH U.out];exact y,q.out,s⟩
      case measure=>exact bH
    ·have U:=H_ (show kN C (vv k)=false by rw [<-hv];unfold kN;rw [xX O_];simp);have B:=fun w' (G:q_ w w')=>J v w' G O_;clear hv h0 h1 hfind J L
     go_wp2_with (first
      | (go_at_call 57;(with_reducible refine CM (E _ t.out) ?_);rintro e w1 ⟨rfl,j⟩;have r:=lU t j;have z:=H_ (K.step j);have A:=lJ F j;have x0:=(c_ (j.block _ l)).trans x0;have D:=(c_ (j.block _ l)).trans D;have N:=(c_ (j.block _ l)).trans N;have O:=(c_ (j.block _ l)).trans O;have P:=(c_ (j.block _ l)).trans P;have Q:=(c_ (j.block _ l)).trans Q;have R:=(c_ (j.block _ l)).trans R)
      | (go_at_call 43;(with_reducible refine CM (B _ r.out) ?_);rintro e w2 ⟨rfl,m⟩;have q:=lU r m;have y:=H_ (z.step m);have s:=lJ A m))
     go_roundw
     case rel=>exact ⟨k+1,by go_num,O_,by rw [qH U.out];exact y,q.out,s⟩
     case measure=>exact bH
  ·obtain rfl:k=8:=O_
   go_wp2;go_ret
   exact ⟨_,rfl,K.la (fun _ _ h=>h) (fun b G=>hS b O_),t.out⟩
end
section
theorem eB_ {P:Program} {t:TypeId} {n:Nat} (h:(P.info? t).map (·.size)=some n):∃j,P.info? t=some j/\j.size=n:=by
 cases hj:P.info? t with
 | none=>rw [hj] at h;cases h
 | some j=>rw [hj] at h;exact ⟨j,rfl,by simpa using h⟩
theorem cn_ (xs:Array Value) (i:Nat) (n:Int) (w:World) (h:xs[i]?=some (.int .u8 n)):(part 5 xs i).run prog w = .ok (.int .u8 n) w:=by
 simp [part,isAgg,run_underlying underlying5,go_sem,h]
theorem sS (d:Nat) {xs ys:Array Value} {is:List Nat} (w:World) (i:Nat) (x y:Int) (hx:xs[i]?=some (.int .u8 x)) (hy:ys[i]?=some (.int .u8 y)) :
  (Op.eqItems (d+1) 5 1 xs ys (i :: is)).run prog w=if x == y then (Op.eqItems (d+1) 5 1 xs ys is).run prog w else .ok false w:=by
 have h1:=cn_ xs i x w hx;have h2:=cn_ ys i y w hy;have h3:=run_equalIn_int w d 5 .u8 .u8 x y underlying5;simp only[Op.eqItems,Nat.mul_one,Sem.run_ite,Sem.run_bind,h1,h2,h3,Result.andThen_ok]
 by_cases h:x=y
 ·subst h;simp
 ·simp [h,Sem.run_pure]
theorem ev_ (a b c d e g h i:UInt8) (w:World) :
  (binOp .neq 198 (hv a b c d) (hv e g h i)).run prog w = .ok (.bool (!(a == e&&b == g&&c == h&&d == i))) w:=by
 obtain ⟨k,f,j⟩:=eB_ (P:=prog) (t:=5) (n:=1) s_;have hc:prog.cellsOf 5=1:=by kernel_rfl
 rw [run_neq_struct,show (10000:Nat)=9999+1 from rfl,run_equalIn_array w 9999 _ _ underlying198 f,hc];rw [show List.range 4=[0,1,2,3] from rfl,show (9999:Nat)=9998+1 from rfl];rw [sS 9998 w 0 a.toNat e.toNat rfl rfl,sS 9998 w 1 b.toNat g.toNat rfl rfl,sS 9998 w 2 c.toNat h.toNat rfl rfl,sS 9998 w 3 d.toNat i.toNat rfl rfl];have q:∀x y:UInt8,((x.toNat:Int) == (y.toNat:Int))=(x == y):=fun x y=>by
  rw [Bool.eq_iff_iff];simp only[beq_iff_eq]
  constructor
  ·intro h;exact UInt8.toNat_inj.1 O_
  ·rintro rfl;rfl
 rw [q,q,q,q]
 cases a == e <;> cases b == g <;> cases c == h <;> cases d == i <;> simp [Op.eqItems,Sem.run_pure]
theorem sC {a b:Nat} (ha:a<9223372036854775808) (hb:b<9223372036854775808) :
  bits .or .i64 (a:Int) (b:Int)=((a ||| b:Nat):Int):=by
 have c:a ||| b<2 ^ 63:=Nat.or_lt_two_pow O_ O_
 have h1:(BitVec.ofInt 64 (a:Int)).toNat=a:=by
  rw [BitVec.ofInt_natCast,BitVec.toNat_ofNat];exact Nat.mod_eq_of_lt O_
 have h2:(BitVec.ofInt 64 (b:Int)).toNat=b:=by
  rw [BitVec.ofInt_natCast,BitVec.toNat_ofNat];exact Nat.mod_eq_of_lt O_
 show i64.wrap ((BitVec.ofInt 64 (a:Int) ||| BitVec.ofInt 64 (b:Int)).toNat:Int)=_
 rw [BitVec.toNat_or,h1,h2];exact IntWalk.i64_in _ O_
theorem eY_ (a b:UInt8):bits .or .i64 ((a.toNat:Int)*256) (b.toNat:Int)=(a.toNat:Int)*256+b.toNat:=by
 have ha:=a.toNat_lt;have hb:=b.toNat_lt;have e:((a.toNat:Int)*256)=((a.toNat*256:Nat):Int):=O_
 rw [e,sC O_ O_,nat_join 8 _ _ O_ O_];omega
theorem sL (a:UInt8):(a.toNat:Int)<=255:=by have:=a.toNat_lt;omega
theorem qW:w.drew.heap[i]?=w.heap[i]?:=rfl
theorem bS (h:w.heap.size=n):(w.alloc o).heap[n]?=some o:=by
 subst h;exact heap_alloc_new w o
theorem cX (h:n<w):(w.alloc o).heap[n]?=w.heap[n]?:=Below.heap_alloc w o n h
def ok8 (a b c d e g h i:UInt8) (f:Int):Bool:=(nW a f == e&&nW b f == g&&nW c f == h&&nW d f == i)&&decide ((c.toNat:Int)<=128)
def dM_ (ok:Bool) (q s b:Int) (w:World) (e:Ending) (w':World):Prop:=e = .returned (.tuple #[.agg (if ok=true then #[I_ q,I_ s,I_ b] else #[I_ 0,I_ 0,I_ 0]),.bool ok])/\q_ w w'
end
section
def tQ (s:ByteArray) (k:Nat):Int:=(s.data.getD k 0).toNat
def gA (s:ByteArray) (f:Int):Bool:=
 match s.data.toList with
 | [a,b,c,d,e,g,h,i]=>decide (0<=f/\f<8)&&ok8 a b c d e g h i f
 | _=>false
def mD (s:ByteArray) (f:Int):Int:=if gA s f=true then tQ s 0*256+tQ s 1 else 0
def sF (s:ByteArray) (f:Int):Int:=if gA s f=true then tQ s 2 else 0
def xW (s:ByteArray) (f:Int):Int:=if gA s f=true then tQ s 3 else 0
def dL_ (ok:Bool) (q s b:Int) (w:World) (e:Ending) (w':World):Prop:=e = .returned (.tuple #[.agg #[I_ q,I_ s,I_ b],.bool ok])/\q_ w w'
abbrev fW_ (s:ByteArray) (f:Int) (w:World):Ending->World->Prop:=dL_ (gA s f) (mD s f) (sF s f) (xW s f) w
theorem hO_ (s:ByteArray) (h:s.size=8):∃a b c d e g h i,s=dZ a b c d e g h i:=by
 obtain ⟨⟨l⟩⟩:=s
 match l,h with
 | [a,b,c,d,e,g,h,i],_=>exact ⟨a,b,c,d,e,g,h,i,rfl⟩
theorem cT_ (s:ByteArray) (f:Int) (h:¬(s.size=8/\0<=f/\f<8)):gA s f=false:=by
 obtain ⟨⟨l⟩⟩:=s;unfold gA
 split
 ·rename_i a b c d e g h' i heq
  have hl:l=[a,b,c,d,e,g,h',i]:=heq;subst hl;have:¬(0<=f/\f<8):=fun hf=>h ⟨rfl,hf⟩;simp [this]
 ·rfl
theorem g1_ (a b c d e g h i:UInt8) (f:Int) (h1:0<=f) (h2:f<8) (H:dM_ (ok8 a b c d e g h i f) (((a.toNat:Nat):Int)*256+b.toNat) c.toNat d.toNat w en w'):fW_ (dZ a b c d e g h i) f w en w':=by
 have l:gA (dZ a b c d e g h i) f=ok8 a b c d e g h i f:=by
  show (decide (0<=f/\f<8)&&ok8 a b c d e g h i f)=_
  simp [h1,h2]
 obtain ⟨j,k⟩:=H;refine ⟨?_,k⟩;rw [j];unfold mD sF xW;rw [l]
 cases ok8 a b c d e g h i f <;> rfl
theorem fl_ (s:ByteArray) (f:Int) (h:¬(s.size=8/\0<=f/\f<8)) (H:dL_ false 0 0 0 w en w'):fW_ s f w en w':=by
 have e1:=cT_ s f h;unfold fW_ mD sF xW;rw [e1];exact H
theorem bc_ (s:ByteArray) (f:Int) (w:World) (h:¬(s.size=8/\0<=f/\f<8)) (hm:s.size<=maxLen):C_ 148 #[.string s,I_ f] w (dL_ false 0 0 0 w):=by
 unfold maxLen at hm
 by_cases j:s.size=8
 ·have l:decide (0<=f/\f<8)=false:=by simp;omega
  have H:=H_ h;clear h;obtain ⟨a,b,c,d,e,g,h,i,rfl⟩:=hO_ s j;clear j H;unfold dZ;go_enter func148,ntmps148
  go_wp2_with (go_at_call 141;(with_reducible refine CM (sU) ?_);rintro e w2 ⟨rfl,rfl⟩)
  exact bodyPost_ret (v:= .tuple #[.agg #[I_ 0,I_ 0,I_ 0],.bool false]) (by simp [results,results148,go_sem]) rfl ⟨rfl,B_.alloc (aQ _) _⟩
 ·have k:¬(s.size:Int)=8:=O_
  go_enter func148,ntmps148
  go_wp2_with fail
  exact bodyPost_ret (v:= .tuple #[.agg #[I_ 0,I_ 0,I_ 0],.bool false]) (by simp [results,results148,go_sem]) rfl ⟨rfl,B_.alloc (aQ _) _⟩
def nxE (q s b:Int):Int:=if zB q s b=true then if q=65535 then 3 else 0 else 1
def ht_ (q s b n:Int) (w:World) (e:Ending) (w':World):Prop:=e = .returned (.tuple #[.agg #[I_ q,I_ s,I_ b],I_ n])/\q_ w w'
abbrev a0_ (q s b:Int) (w:World):Ending->World->Prop:=ht_ (if nxE q s b=0 then q+1 else 0) (if nxE q s b=0 then s else 0) (if nxE q s b=0 then b else 0) (nxE q s b) w
theorem b9_ (q s b:Int) (w:World):C_ 74 #[.agg #[I_ q,I_ s,I_ b]] w (a0_ q s b w):=by
 by_cases d:zB q s b=true
 ·obtain ⟨h1,h2,h3,u,x,y⟩:=hj_ d
  by_cases o:q=65535
  ·subst o;have n:Hid (nxE 65535 s b=3):=by show _=_;simp [nxE,d]
   go_enter func74,ntmps74
   go_wp2_with (go_at_call 139;(with_reducible refine CM (iR) ?_);rintro e w1 ⟨rfl,f⟩;have c:=(f.block (w) (by simp;omega)).trans ((cX z_).trans (bS rfl));have a:=(f.block (w+1) z_).trans (bS z_);have g:=a_ c 0;have i:=a_ c 1;have j:=a_ c 2;have n0:=t_ c 0;have k:=a_ a 0;have l:=a_ a 1;have m:=a_ a 2;have p:=t_ a 0;have r:=t_ a 1;have t:=t_ a 2;simp only[zl] at g i j k l m)
   exact bodyPost_ret (v:= .tuple #[.agg #[I_ 0,I_ 0,I_ 0],I_ 3]) (by simp [results,results74,go_sem,g,i,j,k,l,m]) rfl ⟨by rw [n.out];rfl,by (repeat (with_reducible first | assumption | exact aI _ _ | refine b_ ?_ _ | apply Below.drew | refine below_drewN ?_ _ | (apply cW;assumption) | (refine rN ?_ (aQ _) _) | (refine rN ?_ (by first | omega | (simp;done) | (go_simp;done)) _)))⟩
  ·have n:Hid (nxE q s b=0):=by show _=_;simp [nxE,d,o]
   go_enter func74,ntmps74
   go_wp2_with (go_at_call 139;(with_reducible refine CM (iR) ?_);rintro e w1 ⟨rfl,f⟩;have c:=(f.block (w) (by simp;omega)).trans ((cX z_).trans (bS rfl));have a:=(f.block (w+1) z_).trans (bS z_);have g:=a_ c 0;have i:=a_ c 1;have j:=a_ c 2;have n0:=t_ c 0;have k:=a_ a 0;have l:=a_ a 1;have m:=a_ a 2;have p:=t_ a 0;have r:=t_ a 1;have t:=t_ a 2;simp only[zl] at g i j k l m)
   exact bodyPost_ret (v:= .tuple #[.agg #[I_ (q+1),I_ s,I_ b],I_ 0]) (by simp [results,results74,go_sem,g,i,j,k,l,m]) rfl ⟨by rw [n.out];rfl,by (repeat (with_reducible first | assumption | exact aI _ _ | refine b_ ?_ _ | apply Below.drew | refine below_drewN ?_ _ | (apply cW;assumption) | (refine rN ?_ (aQ _) _) | (refine rN ?_ (by first | omega | (simp;done) | (go_simp;done)) _)))⟩
 ·simp only[Bool.not_eq_true] at d;have n:Hid (nxE q s b=1):=by show _=_;simp [nxE,d]
  go_enter func74,ntmps74
  go_wp2_with (go_at_call 139;(with_reducible refine CM (iR) ?_);rintro e w1 ⟨rfl,f⟩;have c:=(f.block (w) (by simp;omega)).trans ((cX z_).trans (bS rfl));have a:=(f.block (w+1) z_).trans (bS z_);have g:=a_ c 0;have i:=a_ c 1;have j:=a_ c 2;have n0:=t_ c 0;have k:=a_ a 0;have l:=a_ a 1;have m:=a_ a 2;have p:=t_ a 0;have r:=t_ a 1;have t:=t_ a 2;simp only[zl] at g i j k l m)
  exact bodyPost_ret (v:= .tuple #[.agg #[I_ 0,I_ 0,I_ 0],I_ 1]) (by simp [results,results74,go_sem,g,i,j,k,l,m]) rfl ⟨by rw [n.out];rfl,by (repeat (with_reducible first | assumption | exact aI _ _ | refine b_ ?_ _ | apply Below.drew | refine below_drewN ?_ _ | (apply cW;assumption) | (refine rN ?_ (aQ _) _) | (refine rN ?_ (by first | omega | (simp;done) | (go_simp;done)) _)))⟩
end
section
structure CBx (V:World) (b s n:Nat) (ty:TypeId) (cs:Array Value) (γ:Option Nat) (d:Nat->Bool) (w:World):Prop where
 bl:q_ V w
 no:d b=false->γ=none
 so:d b=true->γ≠none
 at_:∀z,γ=some z->V.heap.size<=z/\∃c0,w.heap[z]?=some (.cells c0 ty (0,0))/\c0.size=n/\(d s=true->c0=cs)
section
variable {V w w':World} {b s n i:Nat} {ty:TypeId} {cs:Array Value} {γ:Option Nat} {d:Nat->Bool}
theorem CBx.start (V:World) (b s n:Nat) (ty:TypeId) (cs:Array Value):CBx V b s n ty cs none (fun _=>false) V:=⟨aI _ _,fun _=>rfl,(fun h=>by cases h),(fun z h=>by cases h)⟩
theorem CBx.drew (h:CBx V b s n ty cs γ d w):CBx V b s n ty cs γ d {w with drawn:=w.drawn+1}:=⟨h.bl.drew,h.no,h.so,h.at_⟩
theorem CBx.more (h:CBx V b s n ty cs γ d w) (hb:i≠b) (hs:i≠s) (hw:q_ w w'):CBx V b s n ty cs γ (Y_ d i) w':=by
 have a:Y_ d i b=d b:=by unfold Y_;rw [beq_eq_false_iff_ne.2 (Ne.symm hb),Bool.or_false]
 have c:Y_ d i s=d s:=by unfold Y_;rw [beq_eq_false_iff_ne.2 (Ne.symm hs),Bool.or_false]
 refine ⟨d_ h.bl hw,by rw [a];exact h.no,by rw [a];exact h.so,fun z f=>?_⟩;obtain ⟨g,c0,j,k,l⟩:=h.at_ z f;exact ⟨g,c0,i_ j hw,k,by rw [c];exact l⟩
theorem CBx.box (h:CBx V b s n ty cs γ d w) (hd:d b=false) (hs:d s=false) (hbs:s≠b) (c0:Array Value) (hc:c0.size=n):CBx V b s n ty cs (some w.heap.size) (Y_ d b) (w.alloc (.cells c0 ty)):=by
 have c:Y_ d b s=d s:=by unfold Y_;rw [beq_eq_false_iff_ne.2 hbs,Bool.or_false]
 have a:Y_ d b b=true:=by unfold Y_;simp
 refine ⟨b_ h.bl _,(by rw [a];intro h;cases h),fun _=>by simp,fun z f=>?_⟩
 cases f
 exact ⟨h.bl.size,c0,l_ w (.cells c0 ty) _ rfl,hc,by rw [c,hs];intro h;cases h⟩
theorem CBx.fill (h:CBx V b s n ty cs (some z) d w) (hbs:s≠b) (hc:cs.size=n):CBx V b s n ty cs (some z) (Y_ d s) (w.setRow z cs):=by
 have c:Y_ d s b=d b:=by unfold Y_;rw [beq_eq_false_iff_ne.2 (Ne.symm hbs),Bool.or_false]
 obtain ⟨a,c0,g,i,j⟩:=h.at_ z rfl;refine ⟨j_ h.bl a _,fun _=>?_,fun _=>by simp,fun k f=>?_⟩
 ·rename_i hh
  rw [c] at hh;exact h.no hh
 ·cases f
  exact ⟨a,_,setRow_heap _ _ _ _ _ _ g,hc,fun _=>rfl⟩
end
structure STx (V:World) (S:Nat->Prop) (l:List (Nat × Nat × TypeId × Array Value)) (n:Nat) (W:World) (d:Nat->Bool) (w:World):Prop where
 kp:r_ S V w
 bl:Below n W w
 rows:∀k z t cs,(k,z,t,cs) ∈ l->∃c0,w.heap[z]?=some (.cells c0 t (0,0))/\c0.size=cs.size/\(d k=true->c0=cs)
section
variable {V W w:World} {S:Nat->Prop} {l:List (Nat × Nat × TypeId × Array Value)} {n i:Nat} {d:Nat->Bool}
theorem STx.start (hb:Below n W V) (h:∀k z t cs,(k,z,t,cs) ∈ l->∃c0,V.heap[z]?=some (.cells c0 t (0,0))/\c0.size=cs.size):STx V S l n W (fun _=>false) V:=
 ⟨r_.refl V,hb,fun k z t cs hm=>(by obtain ⟨c0,h1,h2⟩:=h k z t cs hm;exact ⟨c0,h1,h2,fun h=>by cases h⟩)⟩
theorem STx.drew (h:STx V S l n W d w):STx V S l n W d {w with drawn:=w.drawn+1}:=⟨h.kp,h.bl.drew,h.rows⟩
theorem STx.more (h:STx V S l n W d w) (hi:(l.all fun x=>decide (x.1≠i))=true):STx V S l n W (Y_ d i) w:=by
 refine ⟨h.kp,h.bl,fun k z t cs a=>?_⟩;obtain ⟨c0,c,f,g⟩:=h.rows k z t cs a;have b:k≠i:=by simpa using List.all_eq_true.1 hi _ a
 refine ⟨c0,c,f,fun e=>g ?_⟩;unfold Y_ at e
 rwa [beq_eq_false_iff_ne.2 b,Bool.or_false] at e
theorem STx.fill (h:STx V S l n W d w) {t:TypeId} (hm:(k,z,t,cs) ∈ l) (hn:n<=z) (hS:¬S z) (hu:∀x ∈ l,x=(k,z,t,cs)\/(x.1≠k/\x.2.1≠z)):STx V S l n W (Y_ d k) (w.setRow z cs):=by
 refine ⟨h.kp.trans (r_.of_setRow _ _ _ (fun c=>hS c)),j_ h.bl hn _,fun j i m cs' a=>?_⟩;obtain ⟨c0,b,f,g⟩:=h.rows _ _ _ _ a
 rcases hu _ a with e | ⟨e1,e2⟩
 ·cases e
  exact ⟨_,setRow_heap _ _ _ _ _ _ b,rfl,fun _=>rfl⟩
 ·refine ⟨c0,(setRow_other w z i cs e2).trans b,f,fun e=>g ?_⟩;unfold Y_ at e
  rwa [beq_eq_false_iff_ne.2 e1,Bool.or_false] at e
end
def d9_ (y:Fl) (size:Int):Bool:=!(y.sseq == y.seq&&(y.ssize == size&&y.sblocks == y.blocks))
theorem bu_ (j:Nat) (y:Fl) (sz:Int) (h:x_ w S a b c d e f g C) (hj:C.files[j]?=some y) :
  C_ 24 #[cI a b c d e f g,I_ (j:Int),I_ sz] w (cP (d9_ y sz) w):=by
 have Q:=bK hj;have k:=fun w' (hb:q_ w w')=>gU j (h.step hb);rw [show (decide (0<=(j:Int))&&decide ((j:Int)<(C.files.length:Int)))=true by simp;omega] at k;obtain ⟨A1,n,rfl,Y,Z⟩:=h.files.form;obtain ⟨s,I,c2,rfl⟩:=h.frames.cap;obtain ⟨t,J,D,u,K,E,v,L,F,x,M,G,z,N,H,rfl,rfl,rfl,rfl,rfl⟩:=x_.caps5 h;obtain ⟨B,of,kt,KB,kc,rfl,q,R,U,W,X,r⟩:=FlA.cells h.files hj;have j2:(j:Int)<(C.files.length:Int):=O_
 have j0:(0:Int)<=(j:Int):=O_
 have P:=H_ (g_ w (.cells (E_ (some ⟨B,of,none⟩) C.files.length n s I c2 t J D u K E v L F x M G z N H) 30));have A:=H_ (b_ (aI (w) w) (.cells (E_ (some ⟨B,of,none⟩) C.files.length n s I c2 t J D u K E v L F x M G z N H) 30));have O:=H_ (show d9_ y sz=!(y.sseq == y.seq&&(y.ssize == sz&&y.sblocks == y.blocks)) from rfl);clear h hj R U W X Y Z;go_enter func24,ntmps24
 go_upto_region 3 with (go_at_call 73;(with_reducible refine CM (k _ A.out) ?_);rintro e w1 ⟨rfl,i⟩)
 have m:=lU A i;have p:=lJ P i;have x0:=xV p;obtain ⟨z0,z1,z2,z3,z4,z5,z6,z7,z8,z9,za,zb,zc,zd,ze⟩:=zc (m.block _ q) r;clear k i
 go_upto_region 4 with fail
 generalize hW9:w1.alloc _=V;have l:=nah hW9;have o:=lah hW9 m;clear hW9;have t0:=a_ l 7;have t1:=a_ l 10;have t2:=a_ l 11;have t3:=a_ l 12;have t4:=a_ l 14;simp only[zl] at t0 t1 t2 t3 t4;clear z0 z1 z2 z3 z4 z5 z6 z7 z8 z9 za zb zc zd ze x0;go_wp2
 all_goals
  go_ret;refine ⟨?_,o⟩
  rw [O.out]
  first
   | (rw [show (!(y.sseq == y.seq&&(y.ssize == sz&&y.sblocks == y.blocks)))=true by simp;omega];rfl)
   | (rw [show (!(y.sseq == y.seq&&(y.ssize == sz&&y.sblocks == y.blocks)))=false by simp;omega];rfl)
theorem bt_ (n sz:Int) (h:x_ w S a b c d e f g C) (hn:¬(0<=n/\n<(C.files.length:Int))) :
  C_ 24 #[cI a b c d e f g,I_ n,I_ sz] w (cP false w):=by
 have i:=fun w' (hb:q_ w w')=>gU n (h.step hb);rw [show (decide (0<=n)&&decide (n<(C.files.length:Int)))=false by simp;omega] at i;obtain ⟨l,z,c1,m,A,c2,o,B,t,p,D,u,q,E,v,r,F,x,s,G,y,rfl,rfl,rfl,rfl,rfl,rfl,rfl⟩:=x_.caps h;have k:=H_ (fun X=>b_ (aI (w) w) X);clear h hn;go_enter func24,ntmps24
 go_wp2_with (go_at_call 73;(with_reducible refine CM (i _ (k.out _)) ?_);rintro e w1 ⟨rfl,j⟩)
 go_ret;exact ⟨rfl,d_ (k _) j⟩
theorem bv_ (q s b f:Int) {Bd Bi:Nat} (h0:aW w Bd #[I_ q,I_ s,I_ b] 62) (h1:aW w Bi #[I_ f] 3) :
  C_ 77 #[P_ Bd,P_ Bi] w (iJ (.string (iF q s b f)) w):=by
 have d:=a_ h0 0;have g:=a_ h0 1;have i:=a_ h0 2;have j:=a_ h1 0;simp only[zl] at d g i j;have c:=fun w'=>zZ q s b f w';clear h0 h1;go_enter func77,ntmps77
 go_wp2_with (go_at_call 78;(with_reducible refine CM (c _) ?_);rintro e w1 ⟨rfl,a⟩)
 go_ret;exact ⟨rfl,a⟩
end
end Go.Proofs.YtehfhnbpnaiogaaGreatDoor
