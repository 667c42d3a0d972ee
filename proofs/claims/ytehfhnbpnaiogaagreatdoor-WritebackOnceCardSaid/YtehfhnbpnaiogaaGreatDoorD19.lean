/-
  Lemmas and contracts for the laws of this seat, part 19; several texts joined by a program.
-/
import Derived.Test.YtehfhnbpnaiogaaGreatDoorD18
import Derived.Test.YtehfhnbpnaiogaaGreatDoorD00
namespace Go.Proofs.YtehfhnbpnaiogaaGreatDoor
set_option linter.unusedVariables false
set_option linter.unusedSimpArgs false
set_option maxRecDepth 100000
set_option maxHeartbeats 16000000
open Go.RowKit Go.Proofs.Tryz IntKind
variable {C:Ck} {S:Nat->Prop} {V w:World} {a b c d e f g u:Value} {cs tmps:Array Value} {fn:Func} {i j k:Nat} {p q:Tmp} {vv:Nat->Int} {x:Fr} {y:Fl}
section
theorem jd_ (h:fn.results=#[.cell p 30,.cell q 38]) (tmps:Array Value) {g:Nat}(g3:Nat)
  (hp:tmps.getD p undef = P_ g) (hq:tmps.getD q undef = P_ g3) (hg:w.heap[g]?=some (.cells cs 30 (0,0))) (hg3:w.cell? ⟨g3,0,none⟩=some u) (hs:cs.size=7) :
  (results fn tmps).run prog w = .ok (.tuple #[.agg cs,u]) w:=by
 have a:tmps[p]?.getD undef = P_ g:=by simpa using hp
 have b:tmps[q]?.getD undef = P_ g3:=by simpa using hq
 simp [results,h,a,b,asAddr,run_loadVar_row w g _ 30 cs (0,0) _ hg underlying30 rfl (by rw [hs];exact cD),rJ w hg3]
def S5e (S:Nat->Prop) (n:Nat):Nat->Prop:=fun z=>S z/\z≠n/\z≠n+1/\z≠n+1+1
theorem xE {Pr:Ck->Int->Prop} (h:fn.results=#[.cell p 30,.cell q 38]) {B X gf nf cf gr nr cr:Nat} (err:Int)
  (hp:tmps.getD p undef = P_ (w+1)) (hq:tmps.getD q undef = P_ (w+1+1))
  (HR:∃cs0,V.heap[w.heap.size+1]?=some (.cells cs0 30 (0,0))) (HE:∃u,V.heap[w.heap.size+1+1]?=some (.cells #[u] 38 (0,0)))
  (hB:Bd V (S5e S (w)) B X gf nf cf gr nr cr c d e f g C) (hcs:cs=#[S_ (some ⟨gf,0,none⟩) nf cf,S_ (some ⟨gr,0,none⟩) nr cr,c,d,e,f,g]) (hb:s_ w V) (hP:Pr C err) :
  Leaves prog fn tmps (fP Pr S w) [] .returning ((V.setRow (w+1) cs).setCell ⟨w+1+1,0,none⟩ (I_ err)):=by
 subst hcs;obtain ⟨cs0,HR⟩:=HR;obtain ⟨u,HE⟩:=HE;have a:=(setRow_other V (w+1) (w+1+1) #[S_ (some ⟨gf,0,none⟩) nf cf,S_ (some ⟨gr,0,none⟩) nr cr,c,d,e,f,g] O_).trans HE;have b:(V.setRow (w+1) #[S_ (some ⟨gf,0,none⟩) nf cf,S_ (some ⟨gr,0,none⟩) nr cr,c,d,e,f,g]).heap[w.heap.size+1]?=some (.cells #[S_ (some ⟨gf,0,none⟩) nf cf,S_ (some ⟨gr,0,none⟩) nr cr,c,d,e,f,g] 30 (0,0)):=setRow_heap _ _ _ _ _ _ HR;have i:=(hB.at_.kept (r_.of_setRow V (w+1) #[S_ (some ⟨gf,0,none⟩) nf cf,S_ (some ⟨gr,0,none⟩) nr cr,c,d,e,f,g] (fun h=>h.2.2.1 rfl))).kept (r_.of_setCell _ ⟨w+1+1,0,none⟩ (I_ err) (fun h=>h.2.2.2 rfl));refine ⟨_,jd_ h tmps (w+1+1) hp hq (aQ b _ _ (by show w.heap.size+1≠w.heap.size+1+1;omega)) (b_ (W_ a _) 0) rfl,?_⟩;exact ⟨C,err,_,_,_,_,_,_,_,hP,rfl,i.weak (fun z _ j=>j.1),aT (d_ hb O_ _) _ _ (by show w.heap.size<=w.heap.size+1+1;omega)⟩
theorem hO_ (n:Int) (h:x_ w S a b c d e f g C) (ok:lT C) (hu:fG C i x j y) (her:qO y.ecnt y.eerr) (hv:0<J_ y.c x.page) (hS:∀z,w.heap.size<=z->S z) :
  C_ 16 #[bK a b c d e f g,I_ ((i:Int)+1),I_ n] w (fP (jW C i j x y n) S w):=by
 have b0:=fun w' (N:s_ w w') (hlt:w.heap.size+1+1<w'.heap.size)=>vC C a b c d e f g (S5e S (w)) w' ((h.weak (fun z hz hs=>⟨hs,O_,O_,O_⟩)).step N) ok (fun z hz=>⟨hS z O_,O_,O_,O_⟩);have ah:=fun w' (N:s_ w w')=>pY i x (h.step N) hu.fr ok.ok.frames.2;rw [ofi hu] at ah;obtain ⟨A1,m1,c1,A2,m2,c2,A3,m3,c3,A4,m4,c4,A5,m5,c5,A6,m6,c6,A7,m7,c7,rfl,rfl,rfl,rfl,rfl,rfl,rfl⟩:=x_.caps h;obtain ⟨bb,o,rfl,bd,y0,y1,y2,y3,y4,y5,y6,y7,y8⟩:=FrA.cells h.frames hu.fr;obtain ⟨bf,of,kt,KB,kc,rfl,bc,k1,k2,R,U,b6⟩:=FlA.cells h.files hu.fl;have b7:=bI hu.fr;have ay:=bI hu.fl;have b9:m2=C.frames.length:=by obtain ⟨_,_,e,_⟩:=h.frames.form;injection e
 have b8:m1=C.files.length:=by obtain ⟨_,_,e,_⟩:=h.files.form;injection e
 subst b8 b9;obtain ⟨M,b4,HV,b3⟩:=rW hu ok hv her;clear h ok hu k1 k2 R U hv her y0 y1 y2 y3 y4 y5 y6 y7 y8 b6;have HS:=H_ (show St w [(w.heap.size,.cells (D_ (some ⟨bf,of,none⟩) C.files.length c1 (some ⟨bb,o,none⟩) C.frames.length c2 A3 m3 c3 A4 m4 c4 A5 m5 c5 A6 m6 c6 A7 m7 c7) 30 (0,0)),(w.heap.size+1,bM),(w.heap.size+1+1,.cells #[I_ 0] 38 (0,0))] (((w.alloc (.cells (D_ (some ⟨bf,of,none⟩) C.files.length c1 (some ⟨bb,o,none⟩) C.frames.length c2 A3 m3 c3 A4 m4 c4 A5 m5 c5 A6 m6 c6 A7 m7 c7) 30)).alloc (bM)).alloc (.cells #[I_ 0] 38)) from ((St.nil w).push _ _ rfl).push _ (w+1) A_ |>.push _ (w+1+1) A_)
 go_enter_defers func16,ntmps16
 go_upto_region 2 with fail
 generalize ((w.alloc (.cells (D_ (some ⟨bf,of,none⟩) C.files.length c1 (some ⟨bb,o,none⟩) C.frames.length c2 A3 m3 c3 A4 m4 c4 A5 m5 c5 A6 m6 c6 A7 m7 c7) 30)).alloc (bM)).alloc (.cells #[I_ 0] 38)=V at HS;have al:=HS.bk _ _ dV;obtain ⟨x0,x1,x2,x3,x4,x5,x6⟩:=T_ al
 go_upto_region 3 with (go_at_call 42;refine CM (b0 _ HS.below (n_ (HS.bk _ _ lN))) ?_;rintro e w1 ⟨X,gf,nf,cf,gr,nr,cr,c',d',e',f',g',rfl,hB,au⟩)
 have b5:w.heap.size+3<=V.heap.size:=n_ (HS.bk _ _ lN);have a6:=H_ (HS.step au);have ab:=H_ hB;obtain ⟨B1,an⟩:=bL V.heap.size;rw [<-an] at ab b5;obtain ⟨E3,e3,R,rfl⟩:=hB.zones.cap;obtain ⟨E4,e4,U,rfl⟩:=hB.groups.cap;obtain ⟨E5,e5,k5,rfl⟩:=hB.lists.cap;obtain ⟨E6,e6,k6,rfl⟩:=hB.clocks.cap;obtain ⟨E7,e7,k7,rfl⟩:=hB.ptes.cap;clear x0 x1 x2 x3 x4 x5 x6 al hB au HS an b0;have am:=a6.bk _ _ dV;obtain ⟨x0,x1,x2,x3,x4,x5,x6⟩:=T_ am
 go_upto_region 5 with (go_at_call 43;refine CM (ah _ a6.below) ?_;rintro e w2 ⟨rfl,ac⟩;have aj:=H_ (a6.step ac);have a5:=H_ (ab.step ac))
 clear x0 x1 x2 x3 x4 x5 x6 am ac a6 ab ah;have D:C.frames[i]?=some x:=M.fr;have a8:nr<=100:=by have:=a5.er;have:=b4.ok.frames.2;omega
 have aw:=jZ i x a5.out D a8
 go_upto_region 6 with (go_at_call 48;refine CM aw ?_;rintro e w3 ⟨rfl,ad⟩)
 have Z:=H_ (aj.step ad);have H:=H_ (a5.step ad);clear aj a5 ad aw;have r8:=H.frames.frame_at D 8 _ rfl
 by_cases Q:x.writing=0
 ·have d3:(x.writing == 0)=true:=by simp [Q]
  have HB:=H_ (show jW C i j x y n C 4 by unfold jW;rw [if_pos Q];exact ⟨rfl,rfl⟩);clear Q;have Y:=H.box;obtain ⟨x0,x1,x2,x3,x4,x5,x6⟩:=T_ Y;have F:=Z.bk _ _ lK;have v:=Z.bk _ _ lN;have e0:(w3.setRow (w+1) (D_ (o_ gf) nf cf (o_ gr) nr cr E3 e3 R E4 e4 U E5 e5 k5 E6 e6 k6 E7 e7 k7)).cell? ⟨w+1+1,0,none⟩=some (I_ 0):=(g_ (setRow_other _ (w+1) (w+1+1) _ O_)).trans (b_ v 0);have ez:(w3.setRow (w+1) (D_ (o_ gf) nf cf (o_ gr) nr cr E3 e3 R E4 e4 U E5 e5 k5 E6 e6 k6 E7 e7 k7)).frozen? ⟨w+1+1,0,none⟩=false:=(World.frozen?_of_block (a:=⟨w+1+1,0,none⟩) (setRow_other _ (w+1) (w+1+1) _ O_)).trans (t_ v 0)
  go_wp2_with (refine Q_ rfl (.tmp 6) (.tmp 32) rfl rfl rfl rfl F rfl ?_)
  refine leaves_cons (f:=41) (args:=#[P_ (w+1+1)]) A_ (by simp [go_sem]) ?_;refine (fX).mono ?_;rintro e u' b2 ⟨rfl,rfl,rfl⟩;refine xE rfl 4 rfl rfl ⟨_,F⟩ ⟨_,v⟩ H.out rfl Z.below ?_;exact HB.out
 ·have d3:(x.writing == 0)=false:=by simp [Q]
  have ak:=H_ Q;clear Q;have J:∀(g':Nat) (ob:Obj),(g',ob) ∈ ([(w.heap.size,.cells (D_ (some ⟨bf,of,none⟩) C.files.length c1 (some ⟨bb,o,none⟩) C.frames.length c2 A3 m3 c3 A4 m4 c4 A5 m5 c5 A6 m6 c6 A7 m7 c7) 30 (0,0)),(w.heap.size+1,bM),(w.heap.size+1+1,.cells #[I_ 0] 38 (0,0))]:List (Nat × Obj))->g'<B1:=fun g' ob hm=>by
   simp only[qL,List.not_mem_nil,or_false,Prod.mk.injEq] at hm
   rcases hm with ⟨rfl,_⟩ | ⟨rfl,_⟩ | ⟨rfl,_⟩ <;> omega
  have L:w.heap.size<=B1:=O_
  have ba:j<nf:=by have:=H.ef;omega
  have av:=fun w' (N:s_ w3 w')=>wY i j x (H.step N) D a8 M.ix ba
  go_upto_region 9 with (go_at_call 66;refine CM (av _ B_) ?_;rintro e w4 ⟨rfl,ae⟩)
  have a7:=H_ (Z.step ae);have m:=H_ (H.step ae);clear Z H ae av r8;obtain ⟨p,hp⟩:∃p:Nat,x.page=p:=⟨x.page.toNat,by have:=M.ok.page;omega⟩;have bg:p<8:=by have:=M.ok.page;omega
  have HP:=H_ hp;clear hp
  by_cases he:n=0
  ·subst he
   go_upto_region 10 with fail
   have r1:=m.frames.frame_at D 1 _ rfl;rw [HP.out] at r1;obtain ⟨z7,z8,z9,z6⟩:=LW.fl_at m.files M.fl;have az:=m.files.lt;have G:=m.frames.lt
   go_cut [] from 38 to 49 (fun wx=>St w [(w.heap.size,.cells (D_ (some ⟨bf,of,none⟩) C.files.length c1 (some ⟨bb,o,none⟩) C.frames.length c2 A3 m3 c3 A4 m4 c4 A5 m5 c5 A6 m6 c6 A7 m7 c7) 30 (0,0)),(w.heap.size+1,bM),(w.heap.size+1+1,.cells #[I_ 0] 38 (0,0))] wx/\Bd wx (S5e S (w)) B1 X gf nf cf gr nr cr (S_ E3 e3 R) (S_ E4 e4 U) (S_ E5 e5 k5) (S_ E6 e6 k6) (S_ E7 e7 k7) {C with files:=C.files.set j {y with blocks:=bits .or .i64 y.blocks (wrap64 (2 ^ p))}})
   case first=>
    refine aR (S:=(fun z=>z≠gf)) 87 12 (fun i=>decide (i<=11)) (fun wx=>St w [(w.heap.size,.cells (D_ (some ⟨bf,of,none⟩) C.files.length c1 (some ⟨bb,o,none⟩) C.frames.length c2 A3 m3 c3 A4 m4 c4 A5 m5 c5 A6 m6 c6 A7 m7 c7) 30 (0,0)),(w.heap.size+1,bM),(w.heap.size+1+1,.cells #[I_ 0] 38 (0,0))] wx/\Bd wx (S5e S (w)) B1 X gf nf cf gr nr cr (S_ E3 e3 R) (S_ E4 e4 U) (S_ E5 e5 k5) (S_ E6 e6 k6) (S_ E7 e7 k7) {C with files:=C.files.set j {y with blocks:=bits .or .i64 y.blocks (wrap64 (2 ^ p))}}) [SK.eq (.pointer (some ⟨gf,j*15,none⟩)),SK.eq (.pointer (some ⟨gf,j*15,none⟩)),SK.eq (.pointer (some ⟨gf,j*15+7,none⟩)),SK.eq (I_ y.blocks),SK.eq (.pointer (some ⟨gr,i*9,none⟩)),SK.eq (.pointer (some ⟨gr,i*9,none⟩)),SK.eq (.pointer (some ⟨gr,i*9+1,none⟩)),SK.eq (I_ (p:Int)),SK.eq (I_ (wrap64 (2 ^ p))),SK.eq (I_ (bits .or .i64 y.blocks (wrap64 (2 ^ p)))),SK.eq (.pointer (some ⟨gf,j*15,none⟩)),SK.eq (.pointer (some ⟨gf,j*15+7,none⟩)),SK.any] q_ q_ rfl (fun _=>trivial) ?_
    refine qP fun v0=>qP fun v1=>qP fun v2=>?_;simp only[ly];refine c_ rfl rfl (fun xw t r K B=>?_) (fun v3=>?_)
    ·obtain rfl:v2=_:=r 2 q_;have l:s_ w4 xw:=t;have u0:=(l.cell (p:=⟨gf,_,none⟩) az).trans z7;go_simp;exact B _ _ t K_ rfl
    simp only[ly];refine qP fun v4=>qP fun v5=>qP fun v6=>?_;simp only[ly];refine c_ rfl rfl (fun xw t r K B=>?_) (fun v7=>?_)
    ·obtain rfl:v6=_:=r 6 q_;have l:s_ w4 xw:=t;have u0:=(l.cell (p:=⟨gr,_,none⟩) G).trans r1;go_simp;exact B _ _ t K_ rfl
    simp only[ly];refine c_ rfl rfl (fun xw t r K B=>?_) (fun v8=>?_)
    ·obtain rfl:v7=_:=r 7 q_;go_simp;exact B _ _ t K_ (by first | rfl | (show Value.int _ _=Value.int _ _;simp;done) | (show Value.int _ _=Value.int _ _;simp [IntKind.wrap_i64,wrap64];done) | (show Value.int _ _=Value.int _ _;simp [IntKind.wrap_i64];omega))
    simp only[ly];refine c_ rfl rfl (fun xw t r K B=>?_) (fun v9=>?_)
    ·obtain rfl:v3=_:=r 3 q_;obtain rfl:v8=_:=r 8 q_;go_simp;exact B _ _ t K_ (by first | rfl | (show Value.int _ _=Value.int _ _;simp;done) | (show Value.int _ _=Value.int _ _;simp [IntKind.wrap_i64,wrap64];done) | (show Value.int _ _=Value.int _ _;simp [IntKind.wrap_i64];omega))
    simp only[ly];refine qP fun v10=>qP fun v11=>?_;simp only[ly];refine z_ (fun xw t r K B=>?_) (fun v12=>?_)
    ·obtain rfl:v11=_:=r 11 q_;obtain rfl:v9=_:=r 9 q_;have l:s_ w4 xw:=t;have q:=m.step l;have O:=a7.step l;obtain ⟨⟨u,hu⟩,be⟩:=q.files.slot (i:=j) O_ (p:=7) O_;go_simp;have a2:=q.putFiles (L_ xw gf (j*15+7) [I_ (bits .or .i64 y.blocks (wrap64 (2 ^ p)))]) (q.files.blocks M.fl _) A_;exact B undef _ ⟨O.grown (L_ xw gf (j*15+7) [I_ (bits .or .i64 y.blocks (wrap64 (2 ^ p)))]) (fun k e=>by cases e;exact m.o1) J L,a2⟩ (r_.of_setCell _ _ _ (fun h=>h rfl)) trivial
    simp only[ly];refine G_ ?_;intro wz hD hG;clear hG;go_wp2;go_meet
    case rel=>exact hD
   case rest=>
    obtain ⟨ar,ap⟩:=hcut;have P:=H_ ar;have s:=H_ ap;clear ar ap a7 m r1 z7 z8 z9 z6 az G;have af:=D;obtain ⟨⟨u8,ag⟩,ai⟩:=s.frames.slot (i:=i) (p:=8) (by simp;omega) O_
    go_upto_region 14 with fail
    have E:=H_ (s.putFrames (y_ wc ⟨gr,i*9+8,none⟩ (I_ 0)) (s.frames.writing af 0) A_);have A:=H_ (P.grown (y_ wc ⟨gr,i*9+8,none⟩ (I_ 0)) (fun k e=>by cases e;exact s.o2) J L);generalize wc.setCell ⟨gr,i*9+8,none⟩ (I_ 0)=V8 at E A;clear s P ag ai;have a4:=fun w' (N:s_ V8 w')=>oD i j ⟨x.file,x.page,x.pg,x.tenant,x.holds,x.reading,0⟩ ⟨y.dev,y.slot,y.c,y.size,bits .or .i64 y.blocks (wrap64 (2 ^ p)),y.ecnt,y.eerr,y.sseq,y.ssize,y.sblocks,y.which,y.seq⟩ (E.step N) (lM b7) a8 M.ix (lM ay) ⟨M.ok.page,HV⟩ (fun z hz=>by have:=A.below.size;have:=N.size;have:=n_ (A.bk _ _ lN);exact ⟨hS z O_,O_,O_,O_⟩)
    go_upto_region 15 with (go_at_call 51;refine CM (a4 _ B_) ?_;rintro e w9 ⟨⟨v9,rfl⟩,a0,a3⟩)
    have W:=H_ a0;have I:=H_ (A.grown a3 (fun k e=>by cases e;exact E.o1) J L);clear E A a0 a3 a4;have Y:=W.box;obtain ⟨x0,x1,x2,x3,x4,x5,x6⟩:=T_ Y;have F:=I.bk _ _ lK;have v:=I.bk _ _ lN;have e0:(w9.setRow (w+1) (D_ (o_ gf) nf cf (o_ gr) nr cr E3 e3 R E4 e4 U E5 e5 k5 E6 e6 k6 E7 e7 k7)).cell? ⟨w+1+1,0,none⟩=some (I_ 0):=(g_ (setRow_other _ (w+1) (w+1+1) _ O_)).trans (b_ v 0);have ez:(w9.setRow (w+1) (D_ (o_ gf) nf cf (o_ gr) nr cr E3 e3 R E4 e4 U E5 e5 k5 E6 e6 k6 E7 e7 k7)).frozen? ⟨w+1+1,0,none⟩=false:=(World.frozen?_of_block (a:=⟨w+1+1,0,none⟩) (setRow_other _ (w+1) (w+1+1) _ O_)).trans (t_ v 0)
    go_wp2_with (refine Q_ rfl (.tmp 6) (.tmp 86) rfl rfl rfl rfl F rfl ?_)
    refine leaves_cons (f:=41) (args:=#[P_ (w+1+1)]) A_ (by simp [go_sem]) ?_;refine (fX).mono ?_;rintro e u' b2 ⟨rfl,rfl,rfl⟩;refine xE rfl 0 rfl rfl ⟨_,F⟩ ⟨_,v⟩ W.out rfl I.below ?_;unfold jW;rw [if_neg ak.out,if_pos rfl];refine ⟨?_,rfl⟩;simp only[cP,bP,cj_,List.set_set];rw [HP.out]
    rfl
  ·have e2:(n == 0)=false:=beq_eq_false_iff_ne.2 he;have HE:=H_ he;clear he
   go_upto_region 11 with fail
   have r2:=m.frames.frame_at D 2 _ rfl;have r3:=m.frames.frame_at D 3 _ rfl;have r4:=m.frames.frame_at D 4 _ rfl;have r8:=m.frames.frame_at D 8 _ rfl;have G:=m.frames.lt;have b1:=fun w'=>gn_ x.pg.data x.pg.valid x.pg.dirty x.writing w' M.ok.pg M.ok.writing
   go_cut [] from 50 to 64 (fun wx=>St w [(w.heap.size,.cells (D_ (some ⟨bf,of,none⟩) C.files.length c1 (some ⟨bb,o,none⟩) C.frames.length c2 A3 m3 c3 A4 m4 c4 A5 m5 c5 A6 m6 c6 A7 m7 c7) 30 (0,0)),(w.heap.size+1,bM),(w.heap.size+1+1,.cells #[I_ 0] 38 (0,0))] wx/\Bd wx (S5e S (w)) B1 X gf nf cf gr nr cr (S_ E3 e3 R) (S_ E4 e4 U) (S_ E5 e5 k5) (S_ E6 e6 k6) (S_ E7 e7 k7) {C with frames:=C.frames.set i {x with pg:=aA x.pg x.writing}})
   case first=>
    refine aR (S:=(fun z=>z≠gr)) 87 15 (inL [0,1,2,3,4,5,6,7,8,9,10,11,13,14]) (fun wx=>St w [(w.heap.size,.cells (D_ (some ⟨bf,of,none⟩) C.files.length c1 (some ⟨bb,o,none⟩) C.frames.length c2 A3 m3 c3 A4 m4 c4 A5 m5 c5 A6 m6 c6 A7 m7 c7) 30 (0,0)),(w.heap.size+1,bM),(w.heap.size+1+1,.cells #[I_ 0] 38 (0,0))] wx/\Bd wx (S5e S (w)) B1 X gf nf cf gr nr cr (S_ E3 e3 R) (S_ E4 e4 U) (S_ E5 e5 k5) (S_ E6 e6 k6) (S_ E7 e7 k7) {C with frames:=C.frames.set i {x with pg:=aA x.pg x.writing}}) [SK.eq (.pointer (some ⟨gr,i*9,none⟩)),SK.eq (.pointer (some ⟨gr,i*9,none⟩)),SK.eq (.pointer (some ⟨gr,i*9,none⟩)),SK.eq (.pointer (some ⟨gr,i*9+2,none⟩)),SK.eq (.agg #[.string x.pg.data,I_ x.pg.valid,I_ x.pg.dirty]),SK.eq (.pointer (some ⟨gr,i*9,none⟩)),SK.eq (.pointer (some ⟨gr,i*9,none⟩)),SK.eq (.pointer (some ⟨gr,i*9+8,none⟩)),SK.eq (I_ x.writing),SK.eq (.tuple #[vD (aA x.pg x.writing).data (aA x.pg x.writing).valid (aA x.pg x.writing).dirty,I_ 0]),SK.eq (.tuple #[vD (aA x.pg x.writing).data (aA x.pg x.writing).valid (aA x.pg x.writing).dirty,I_ 0]),SK.eq (vD (aA x.pg x.writing).data (aA x.pg x.writing).valid (aA x.pg x.writing).dirty),SK.eq (I_ 0),SK.eq (.pointer (some ⟨gr,i*9,none⟩)),SK.eq (.pointer (some ⟨gr,i*9+2,none⟩)),SK.any] q_ q_ rfl (fun _=>trivial) ?_
    refine qP fun v0=>qP fun v1=>?_;simp only[ly];refine qP fun v2=>qP fun v3=>?_;simp only[ly];refine c_ rfl rfl (fun xw t r K B=>?_) (fun v4=>?_)
    ·obtain rfl:v3=_:=r 3 q_;have l:s_ w4 xw:=t;have u0:=(l.cell (p:=⟨gr,_,none⟩) G).trans r2;have u1:=(l.cell (p:=⟨gr,_,none⟩) G).trans r3;have u2:=(l.cell (p:=⟨gr,_,none⟩) G).trans r4;go_simp;exact B _ _ t K_ rfl
    simp only[ly];refine qP fun v5=>qP fun v6=>qP fun v7=>?_;simp only[ly];refine c_ rfl rfl (fun xw t r K B=>?_) (fun v8=>?_)
    ·obtain rfl:v7=_:=r 7 q_;have l:s_ w4 xw:=t;have u0:=(l.cell (p:=⟨gr,_,none⟩) G).trans r8;go_simp;exact B _ _ t K_ rfl
    simp only[ly];refine c_ rfl rfl (fun xw t r K B=>?_) (fun v9=>?_)
    ·obtain rfl:v4=_:=r 4 q_;obtain rfl:v8=_:=r 8 q_;have l:s_ w4 xw:=t;go_simp
     go_at_call 67
     refine (b1 xw).mono ?_;rintro e w1 ⟨rfl,N⟩;exact B _ _ (e_ l N) (r_.of_below N) rfl
    simp only[ly];refine c_ rfl rfl (fun xw t r K B=>?_) (fun v10=>?_)
    ·obtain e:=r 9 q_;obtain rfl:v9=_:=e;go_simp;exact B _ _ t K_ rfl
    simp only[ly];refine c_ rfl rfl (fun xw t r K B=>?_) (fun v11=>?_)
    ·obtain e:=r 10 q_;obtain rfl:v10=_:=e;go_simp;exact B _ _ t K_ rfl
    simp only[ly];refine Z_ rfl (fun w=>r_.refl w) (fun xw r K B=>?_) (fun v12=>?_)
    ·obtain e:=r 10 q_;obtain rfl:v10=_:=e;go_simp;exact B _ rfl
    simp only[ly];refine qP fun v13=>qP fun v14=>?_;simp only[ly];refine z_ (fun xw t r K B=>?_) (fun v15=>?_)
    ·obtain rfl:v14=_:=r 14 q_;obtain e:=r 11 q_;obtain rfl:v11=_:=e;have l:s_ w4 xw:=t;have q:=m.step l;have O:=a7.step l;have a9:=q.frames.there (i:=i) (p:=2) (n:=3) O_ O_;refine aS (ops:=#[]) rfl (nK rfl 83 (.tmp 64) (.tmp 61) rfl gr (i*9+2) #[.string (aA x.pg x.writing).data,I_ (aA x.pg x.writing).valid,I_ (aA x.pg x.writing).dirty] rfl rfl a9 cK (eE) ?_);have a2:=q.putFrames (L_ xw gr (i*9+2) [.string (aA x.pg x.writing).data,I_ (aA x.pg x.writing).valid,I_ (aA x.pg x.writing).dirty]) (q.frames.page D (aA x.pg x.writing)) A_;exact B undef _ ⟨O.grown (L_ xw gr (i*9+2) [.string (aA x.pg x.writing).data,I_ (aA x.pg x.writing).valid,I_ (aA x.pg x.writing).dirty]) (fun k e=>by cases e;exact m.o2) J L,a2⟩ (r_.of_setCells _ _ _ _ (fun h=>h rfl)) trivial
    simp only[ly];refine G_ ?_;intro wz hD hG;clear hG;go_wp2;go_meet
    case rel=>exact hD
   case rest=>
    obtain ⟨aq,ao⟩:=hcut;have O:=H_ aq;have q:=H_ ao;clear aq ao a7 m r2 r3 r4 r8 G b1;obtain ⟨z7,z8,z9,z6⟩:=LW.fl_at q.files M.fl;have aa:=fun w'=>cV_ n w' b3 HE
    go_upto_region 13 with (first
     | (go_at_call 68;(with_reducible refine CM (aa _) ?_);rintro e w6 ⟨rfl,a1⟩;have a9:=(q.step a1).files.there (i:=j) (p:=8) (n:=2) O_ O_)
     | (refine nK rfl 60 (.tmp 76) (.tmp 73) rfl gf (j*15+8) #[I_ (dN y.ecnt y.eerr n).1,I_ (dN y.ecnt y.eerr n).2.1] rfl rfl a9 lA (qW) ?_))
    have s:=H_ ((q.step a1).putFiles (L_ w6 gf (j*15+8) _) ((q.step a1).files.errs M.fl (dN y.ecnt y.eerr n).1 (dN y.ecnt y.eerr n).2.1) A_);have P:=H_ ((O.step a1).grown (L_ w6 gf (j*15+8) [I_ (dN y.ecnt y.eerr n).1,I_ (dN y.ecnt y.eerr n).2.1]) (fun k e=>by cases e;exact q.o1) J L);generalize w6.setCells gf (j*15+8) _=V7 at s P;clear q O a9 a1 aa z7 z8 z9 z6;have ax:i<(C.frames.set i {x with pg:=aA x.pg x.writing}).length:=by simp;omega
    have af:(C.frames.set i {x with pg:=aA x.pg x.writing})[i]?=some {x with pg:=aA x.pg x.writing}:=lM O_
    obtain ⟨⟨u8,ag⟩,ai⟩:=s.frames.slot (i:=i) (p:=8) (by simp;omega) O_
    go_upto_region 14 with fail
    have E:=H_ (s.putFrames (y_ V7 ⟨gr,i*9+8,none⟩ (I_ 0)) (s.frames.writing af 0) A_);have A:=H_ (P.grown (y_ V7 ⟨gr,i*9+8,none⟩ (I_ 0)) (fun k e=>by cases e;exact s.o2) J L);generalize V7.setCell ⟨gr,i*9+8,none⟩ (I_ 0)=V8 at E A;clear s P ag ai;have a4:=fun w' (N:s_ V8 w')=>oD i j ⟨x.file,x.page,aA x.pg x.writing,x.tenant,x.holds,x.reading,0⟩ ⟨y.dev,y.slot,y.c,y.size,y.blocks,(dN y.ecnt y.eerr n).1,(dN y.ecnt y.eerr n).2.1,y.sseq,y.ssize,y.sblocks,y.which,y.seq⟩ (E.step N) (lM ax) a8 M.ix (lM ay) ⟨M.ok.page,HV⟩ (fun z hz=>by have:=A.below.size;have:=N.size;have:=n_ (A.bk _ _ lN);exact ⟨hS z O_,O_,O_,O_⟩)
    go_upto_region 15 with (go_at_call 51;refine CM (a4 _ B_) ?_;rintro e w9 ⟨⟨v9,rfl⟩,a0,a3⟩)
    have W:=H_ a0;have I:=H_ (A.grown a3 (fun k e=>by cases e;exact E.o1) J L);clear E A a0 a3 a4;have Y:=W.box;obtain ⟨x0,x1,x2,x3,x4,x5,x6⟩:=T_ Y;have F:=I.bk _ _ lK;have v:=I.bk _ _ lN;have e0:(w9.setRow (w+1) (D_ (o_ gf) nf cf (o_ gr) nr cr E3 e3 R E4 e4 U E5 e5 k5 E6 e6 k6 E7 e7 k7)).cell? ⟨w+1+1,0,none⟩=some (I_ 0):=(g_ (setRow_other _ (w+1) (w+1+1) _ O_)).trans (b_ v 0);have ez:(w9.setRow (w+1) (D_ (o_ gf) nf cf (o_ gr) nr cr E3 e3 R E4 e4 U E5 e5 k5 E6 e6 k6 E7 e7 k7)).frozen? ⟨w+1+1,0,none⟩=false:=(World.frozen?_of_block (a:=⟨w+1+1,0,none⟩) (setRow_other _ (w+1) (w+1+1) _ O_)).trans (t_ v 0)
    go_wp2_with (refine Q_ rfl (.tmp 6) (.tmp 86) rfl rfl rfl rfl F rfl ?_)
    refine leaves_cons (f:=41) (args:=#[P_ (w+1+1)]) A_ (by simp [go_sem]) ?_;refine (fX).mono ?_;rintro e u' b2 ⟨rfl,rfl,rfl⟩;refine xE rfl 0 rfl rfl ⟨_,F⟩ ⟨_,v⟩ W.out rfl I.below ?_;unfold jW;rw [if_neg ak.out,if_neg HE.out];refine ⟨?_,rfl⟩;simp only[cP,bP,List.set_set]
end
section
theorem hN_ (n k:Int) (h:x_ w S a b c d e f g C) (ok:lT C) (hus:∀w',s_ w w'->C_ 43 #[bK a b c d e f g,I_ n] w' (cG false w')) (hS:∀z,w.heap.size<=z->S z) :
  C_ 16 #[bK a b c d e f g,I_ n,I_ k] w (fP (fun C' err=>C'=C/\err=2) S w):=by
 have x:=fun w' (hb:s_ w w') (hlt:w.heap.size+1+1<w'.heap.size)=>vC C a b c d e f g (S5e S (w)) w' ((h.weak (fun z hz hs=>⟨hs,O_,O_,O_⟩)).step hb) ok (fun z hz=>⟨hS z O_,O_,O_,O_⟩);obtain ⟨G,W,c1,H,Y,c2,I,Z,O,J,m4,P,K,m5,Q,L,m6,R,M,m7,U,rfl,rfl,rfl,rfl,rfl,rfl,rfl⟩:=x_.caps h;clear h ok;have p:=H_ (show St w [(w.heap.size,.cells (D_ G W c1 H Y c2 I Z O J m4 P K m5 Q L m6 R M m7 U) 30 (0,0)),(w.heap.size+1,bM),(w.heap.size+1+1,.cells #[I_ 0] 38 (0,0))] (((w.alloc (.cells (D_ G W c1 H Y c2 I Z O J m4 P K m5 Q L m6 R M m7 U) 30)).alloc (bM)).alloc (.cells #[I_ 0] 38)) from ((St.nil w).push _ _ rfl).push _ (w+1) A_ |>.push _ (w+1+1) A_)
 go_enter_defers func16,ntmps16
 go_upto_region 2 with fail
 generalize ((w.alloc (.cells (D_ G W c1 H Y c2 I Z O J m4 P K m5 Q L m6 R M m7 U) 30)).alloc (bM)).alloc (.cells #[I_ 0] 38)=V at p;have t:=p.bk _ _ dV;obtain ⟨x0,y,A,B,D,E,F⟩:=T_ t
 go_upto_region 3 with (go_at_call 42;refine CM (x _ p.below (n_ (p.bk _ _ lN))) ?_;rintro e w1 ⟨X,gf,nf,cf,gr,nr,cr,c',d',e',f',g',rfl,m,v⟩)
 have i:=H_ (p.step v);have q:=H_ m;obtain ⟨E3,e3,k3,rfl⟩:=m.zones.cap;obtain ⟨E4,e4,k4,rfl⟩:=m.groups.cap;obtain ⟨E5,e5,k5,rfl⟩:=m.lists.cap;obtain ⟨E6,e6,k6,rfl⟩:=m.clocks.cap;obtain ⟨E7,e7,k7,rfl⟩:=m.ptes.cap;clear x0 y A B D E F t m v p x;have u:=i.bk _ _ dV;obtain ⟨x0,y,A,B,D,E,F⟩:=T_ u
 go_upto_region 4 with (go_at_call 43;refine CM (hus _ i.below) ?_;rintro e w2 ⟨rfl,o⟩)
 have l:=H_ (i.step o);have r:=H_ (q.step o);clear x0 y A B D E F u o i q hus;have N:=r.box;obtain ⟨x0,y,A,B,D,E,F⟩:=T_ N;have s:=l.bk _ _ lK;have j:=l.bk _ _ lN;have e0:(w2.setRow (w+1) (D_ (o_ gf) nf cf (o_ gr) nr cr E3 e3 k3 E4 e4 k4 E5 e5 k5 E6 e6 k6 E7 e7 k7)).cell? ⟨w+1+1,0,none⟩=some (I_ 0):=(g_ (setRow_other _ (w+1) (w+1+1) _ O_)).trans (b_ j 0);have ez:(w2.setRow (w+1) (D_ (o_ gf) nf cf (o_ gr) nr cr E3 e3 k3 E4 e4 k4 E5 e5 k5 E6 e6 k6 E7 e7 k7)).frozen? ⟨w+1+1,0,none⟩=false:=(World.frozen?_of_block (a:=⟨w+1+1,0,none⟩) (setRow_other _ (w+1) (w+1+1) _ O_)).trans (t_ j 0)
 go_wp2_with (refine Q_ rfl (.tmp 6) (.tmp 20) rfl rfl rfl rfl s rfl ?_)
 refine leaves_cons (f:=41) (args:=#[P_ (w+1+1)]) A_ (by simp [go_sem]) ?_;refine (fX).mono ?_;rintro e u' a0 ⟨rfl,rfl,rfl⟩;exact xE rfl 2 rfl rfl ⟨_,s⟩ ⟨_,j⟩ r.out rfl l.below ⟨rfl,rfl⟩
theorem gY (n:Int) (h:x_ w S a b c d e f g C) :
  C_ 73 #[bK a b c d e f g,I_ n] w (cG (decide (0<=n)&&decide (n<(C.files.length:Int))) w):=by
 obtain ⟨m,l,rfl,H,I⟩:=h.files.form;obtain ⟨o,A,c2,rfl⟩:=h.frames.cap;obtain ⟨p,B,u,q,D,v,r,E,x,s,F,y,t,G,z,rfl,rfl,rfl,rfl,rfl⟩:=x_.caps5 h;clear h H I;have k:=H_ (a_ (aP (w) w) (.cells (D_ m C.files.length l o A c2 p B u q D v r E x s F y t G z) 30))
 by_cases h0:0<=n
 ·have J:decide (0<=n)=true:=dT h0
  by_cases h1:n<(C.files.length:Int)
  ·have i:=H_ h0;have j:=H_ h1;go_enter func73,ntmps73;go_wp2;go_ret;have h0:=i.out;have h1:=j.out;exact ⟨by simp;omega,k.out⟩
  ·have i:=H_ h0;have j:=H_ h1;go_enter func73,ntmps73;go_wp2;go_ret;have h0:=i.out;have h1:=j.out;exact ⟨by simp;omega,k.out⟩
 ·go_enter func73,ntmps73;go_wp2;go_ret;exact ⟨by simp;omega,k.out⟩
end
section
theorem je_ (h:fn.results=#[.cell p 37,.cell q 38]) (tmps:Array Value) {g:Nat}(g3:Nat)
  (hp:tmps.getD p undef = P_ g) (hq:tmps.getD q undef = P_ g3) (hg:w.heap[g]?=some (.cells cs 37 (0,0))) (hg3:w.cell? ⟨g3,0,none⟩=some u) (hs:cs.size=10) :
  (results fn tmps).run prog w = .ok (.tuple #[.agg cs,u]) w:=by
 have a:tmps[p]?.getD undef = P_ g:=by simpa using hp
 have b:tmps[q]?.getD undef = P_ g3:=by simpa using hq
 simp [results,h,a,b,asAddr,run_loadVar_row w g _ 37 cs (0,0) _ hg underlying37 rfl (by rw [hs];exact aW),rJ w hg3]
def tC (P:Value->Int->Prop) (w:World) (en:Ending) (w':World):Prop:=∃rq err,P rq err/\en = .returned (.tuple #[rq,I_ err])/\s_ w w'
def sC (x:Fr) (y:Fl) (rq:Value) (err:Int):Prop:=if x.reading=0 then rq=yK/\err=4 else rq=rqP x y x.reading 1 ⟨#[]⟩/\err=0
theorem aR_ {Pr:Value->Int->Prop} (h:fn.results=#[.cell p 37,.cell q 38]) {rq:Array Value} (err:Int)
  (hp:tmps.getD p undef = P_ (w+1)) (hq:tmps.getD q undef = P_ (w+1+1))
  (HR:∃cs0,V.heap[w.heap.size+1]?=some (.cells cs0 37 (0,0))) (HE:∃u,V.heap[w.heap.size+1+1]?=some (.cells #[u] 38 (0,0)))
  (hrq:rq.size=10) (hb:s_ w V) (hP:Pr (.agg rq) err) :
  Leaves prog fn tmps (tC Pr w) [] .returning ((V.setRow (w+1) rq).setCell ⟨w+1+1,0,none⟩ (I_ err)):=by
 obtain ⟨cs0,HR⟩:=HR;obtain ⟨u,HE⟩:=HE;have a:=(setRow_other V (w+1) (w+1+1) rq O_).trans HE;have b:(V.setRow (w+1) rq).heap[w.heap.size+1]?=some (.cells rq 37 (0,0)):=setRow_heap _ _ _ _ _ _ HR;refine ⟨_,je_ h tmps (w+1+1) hp hq (aQ b _ _ (by show w.heap.size+1≠w.heap.size+1+1;omega)) (b_ (W_ a _) 0) hrq,?_⟩;exact ⟨_,err,hP,rfl,aT (d_ hb O_ _) _ _ (by show w.heap.size<=w.heap.size+1+1;omega)⟩
theorem eK_ (h:x_ w S a b c d e f g C) (hl:C.frames.length<=100) (hu:fG C i x j y) (hsl:0<=y.slot/\y.slot<7) (hdb:qN w) :
  C_ 18 #[bK a b c d e f g,I_ ((i:Int)+1)] w (tC (sC x y) w):=by
 have v:=fun w' (hb:s_ w w')=>pY i x (h.step hb) hu.fr hl;rw [ofi hu] at v;have H:=H_ h;obtain ⟨A1,m1,c1,A2,m2,c2,A3,m3,c3,A4,m4,c4,A5,m5,c5,A6,m6,c6,A7,m7,c7,rfl,rfl,rfl,rfl,rfl,rfl,rfl⟩:=x_.caps h;obtain ⟨bb,o,rfl,a4,L,U,W,X,Y,Z,y6,y7,y8⟩:=FrA.cells h.frames hu.fr;obtain ⟨bf,of,kt,KB,kc,rfl,ac,k1,k2,k3,k4,a5⟩:=FlA.cells h.files hu.fl;have ad:=bI hu.fr;have ae:=bI hu.fl;have a7:m2=C.frames.length:=by obtain ⟨_,_,e,_⟩:=h.frames.form;injection e
 have a6:m1=C.files.length:=by obtain ⟨_,_,e,_⟩:=h.files.form;injection e
 subst a6 a7;have i2:(i:Int)<(C.frames.length:Int):=O_
 have i4:(i:Int)+1<=100:=O_
 obtain ⟨B,a0,a1⟩:=eI hu hdb hsl;rw [hu.ix] at L;clear h hu hdb hsl k1 k2 k3 k4 a5;have A:=H_ (show St w [(w.heap.size,.cells (D_ (some ⟨bf,of,none⟩) C.files.length c1 (some ⟨bb,o,none⟩) C.frames.length c2 A3 m3 c3 A4 m4 c4 A5 m5 c5 A6 m6 c6 A7 m7 c7) 30 (0,0)),(w.heap.size+1,jD),(w.heap.size+1+1,.cells #[I_ 0] 38 (0,0))] (((w.alloc (.cells (D_ (some ⟨bf,of,none⟩) C.files.length c1 (some ⟨bb,o,none⟩) C.frames.length c2 A3 m3 c3 A4 m4 c4 A5 m5 c5 A6 m6 c6 A7 m7 c7) 30)).alloc (jD)).alloc (.cells #[I_ 0] 38)) from ((St.nil w).push _ _ rfl).push _ (w+1) A_ |>.push _ (w+1+1) A_)
 go_enter_defers func18,ntmps18
 go_upto_region 2 with fail
 generalize ((w.alloc (.cells (D_ (some ⟨bf,of,none⟩) C.files.length c1 (some ⟨bb,o,none⟩) C.frames.length c2 A3 m3 c3 A4 m4 c4 A5 m5 c5 A6 m6 c6 A7 m7 c7) 30)).alloc (jD)).alloc (.cells #[I_ 0] 38)=V at A;have E:=A.bk _ _ dV;obtain ⟨x0,M,N,O,P,Q,R⟩:=T_ E
 go_upto_region 4 with (go_at_call 43;refine CM (v _ A.below) ?_;rintro e w2 ⟨rfl,G⟩;have r:=H_ (A.step G))
 clear x0 M N O P Q R E G A v;have F:=r.bk _ _ dV;obtain ⟨x0,M,N,O,P,Q,R⟩:=T_ F;have D:=H_ r.below;have aa:=kt9 (D.block _ a4) L U W X Y Z y6 y7 y8;clear L U W X Y Z y6 y7 y8;obtain ⟨L,U,W,X,Y,Z,y6,y7,y8⟩:=aa
 go_upto_region 5 with fail
 have HF:=H_ (i_ w2 (.cells (jS (j:Int) x) 85));have l:=H_ (r.alloc (.cells (jS (j:Int) x) 85));generalize w2.alloc (.cells (jS (j:Int) x) 85)=V3 at HF l;clear x0 M N O P Q R L U W X Y Z y6 y7 y8 F r D;obtain ⟨f0,f1,f2,f3,f4,f5,f6,f7,f8⟩:=iQ HF.out
 by_cases m:x.reading=0
 ·have d3:(x.reading == 0)=true:=by rw [m];rfl
  have HB:=H_ (show sC x y yK 4 by unfold sC;rw [if_pos m];exact ⟨rfl,rfl⟩);clear m;have n:=l.bk _ _ lK;have k:=l.bk _ _ lN;have e0:(V3.setRow (w+1) jJ).cell? ⟨w+1+1,0,none⟩=some (I_ 0):=(g_ (setRow_other _ (w+1) (w+1+1) _ O_)).trans (b_ k 0);have ez:(V3.setRow (w+1) jJ).frozen? ⟨w+1+1,0,none⟩=false:=(World.frozen?_of_block (a:=⟨w+1+1,0,none⟩) (setRow_other _ (w+1) (w+1+1) _ O_)).trans (t_ k 0)
  go_wp2_with (refine cZ rfl 37 (.tmp 4) (.tmp 21) rfl rfl (w+1) jJ rfl rfl 37 _ n aW rfl (cN) ?_)
  refine leaves_cons (f:=41) (args:=#[P_ (w+1+1)]) A_ (by simp [go_sem]) ?_;refine (fX).mono ?_;rintro e u' z ⟨rfl,rfl,rfl⟩;refine aR_ rfl 4 rfl rfl ⟨_,n⟩ ⟨_,k⟩ rfl l.below ?_;exact HB.out
 ·have d3:(x.reading == 0)=false:=beq_eq_false_iff_ne.2 m;obtain ⟨s,u⟩:=bL x.reading;have K:s=1\/s=2\/s=3:=by have:=B.ok.reading;omega
  obtain ⟨q,p,J,I,a9⟩:∃q p:Nat,(bT s).1=q/\(bT s).2=p/\((s=1/\(q:Int)=0/\(p:Int)=1)\/(s=2/\(q:Int)=1/\(p:Int)=1)\/(s=3/\(q:Int)=0/\(p:Int)=2)):=by
   rcases K with rfl | rfl | rfl
   ·exact ⟨0,1,rfl,rfl,.inl ⟨rfl,rfl,rfl⟩⟩
   ·exact ⟨1,1,rfl,rfl,.inr (.inl ⟨rfl,rfl,rfl⟩)⟩
   ·exact ⟨0,2,rfl,rfl,.inr (.inr ⟨rfl,rfl,rfl⟩)⟩
  have HB:=H_ (show sC x y (.agg (aO 0 x.tenant y.dev 1 (y.slot*18+2+x.page*2+(q:Int)) (p:Int) ⟨#[]⟩ false false 0)) 0 by
   unfold sC;rw [if_neg m];refine ⟨?_,rfl⟩;unfold rqP;rw [<-u,J,I])
  rw [<-u] at f7 d3;clear m J I K u;have a8:=fun w' (hb:s_ w w')=>bW_ i j x y 1 s q p ⟨#[]⟩ (.inr ⟨rfl,rfl⟩) (H.step hb) B.fr B.ix B.fl hl a1 B.ok.page (a0.step hb) a9 (fun z ab=>dV_ z);have a2:=l.bk _ _ dV;obtain ⟨x0,M,N,O,P,Q,R⟩:=T_ a2
  go_wp2_with (first
   | (go_at_call 46;refine CM (a8 _ l.below) ?_;rintro e w5 ⟨rfl,a3⟩;have t:=H_ (l.step a3);have n:=t.bk _ _ lK;have k:=t.bk _ _ lN;have e0:(w5.setRow (w+1) (aO 0 x.tenant y.dev 1 (y.slot*18+2+x.page*2+(q:Int)) (p:Int) ⟨#[]⟩ false false 0)).cell? ⟨w+1+1,0,none⟩=some (I_ 0):=(g_ (setRow_other _ (w+1) (w+1+1) _ O_)).trans (b_ k 0);have ez:(w5.setRow (w+1) (aO 0 x.tenant y.dev 1 (y.slot*18+2+x.page*2+(q:Int)) (p:Int) ⟨#[]⟩ false false 0)).frozen? ⟨w+1+1,0,none⟩=false:=(World.frozen?_of_block (a:=⟨w+1+1,0,none⟩) (setRow_other _ (w+1) (w+1+1) _ O_)).trans (t_ k 0))
   | (refine cZ rfl 37 (.tmp 4) (.tmp 26) rfl rfl (w+1) (aO 0 x.tenant y.dev 1 (y.slot*18+2+x.page*2+(q:Int)) (p:Int) ⟨#[]⟩ false false 0) rfl rfl 37 _ n aW rfl (cN) ?_))
  refine leaves_cons (f:=41) (args:=#[P_ (w+1+1)]) A_ (by simp [go_sem]) ?_;refine (fX).mono ?_;rintro e u' z ⟨rfl,rfl,rfl⟩;refine aR_ rfl 0 rfl rfl ⟨_,n⟩ ⟨_,k⟩ rfl t.below ?_;exact HB.out
end
section
theorem wF (n:Int) (h:x_ w S a b c d e f g C) :
  C_ 125 #[bK a b c d e f g,I_ n] w (cG (decide (0<=n)&&decide (n<(C.files.length:Int))) w):=by
 obtain ⟨m,l,rfl,H,I⟩:=h.files.form;obtain ⟨o,A,c2,rfl⟩:=h.frames.cap;obtain ⟨p,B,u,q,D,v,r,E,x,s,F,y,t,G,z,rfl,rfl,rfl,rfl,rfl⟩:=x_.caps5 h;clear h H I;have k:=H_ (a_ (aP (w) w) (.cells (D_ m C.files.length l o A c2 p B u q D v r E x s F y t G z) 30))
 by_cases h0:0<=n
 ·have J:decide (0<=n)=true:=dT h0
  by_cases h1:n<(C.files.length:Int)
  ·have i:=H_ h0;have j:=H_ h1;go_enter func125,ntmps125;go_wp2;go_ret;have h0:=i.out;have h1:=j.out;exact ⟨by simp;omega,k.out⟩
  ·have i:=H_ h0;have j:=H_ h1;go_enter func125,ntmps125;go_wp2;go_ret;have h0:=i.out;have h1:=j.out;exact ⟨by simp;omega,k.out⟩
 ·go_enter func125,ntmps125;go_wp2;go_ret;exact ⟨by simp;omega,k.out⟩
theorem gk_ (n p:Int) (h:x_ w S a b c d e f g C) (hn:¬(0<=n/\n<(C.files.length:Int))):C_ 57 #[bK a b c d e f g,I_ n,I_ p] w (eL 0 w):=by
 have i:=fun w' (hb:s_ w w')=>wF n (h.step hb);rw [show (decide (0<=n)&&decide (n<(C.files.length:Int)))=false by simp;omega] at i;obtain ⟨l,A,c1,m,B,c2,o,D,u,q,E,v,r,F,x,s,G,y,t,H,z,rfl,rfl,rfl,rfl,rfl,rfl,rfl⟩:=x_.caps h;have k:=H_ (fun X=>a_ (aP (w) w) X);clear h hn;go_enter func57,ntmps57
 go_wp2_with (go_at_call 125;(with_reducible refine CM (i _ (by first | assumption | exact k.out _)) ?_);rintro e w1 ⟨rfl,j⟩)
 go_ret2
 exact ⟨rfl,e_ (k.out _) j⟩
theorem gl_ (i:Nat) (x:Fl) (p:Int) (h:x_ w S a b c d e f g C) (hi:C.files[i]?=some x):C_ 57 #[bK a b c d e f g,I_ i,I_ p] w (eL (J_ x.c p) w):=by
 have O:=bI hi;have s:=fun w' (hb:s_ w w')=>wF i (h.step hb);rw [show (decide (0<=(i:Int))&&decide ((i:Int)<(C.files.length:Int)))=true by simp;omega] at s;obtain ⟨A,cap,rfl,q1,q2⟩:=h.files.form;obtain ⟨bb,o,t,B,N,rfl,y,I,J,K,L,hc⟩:=FlA.cells h.files hi;have n:=fun w' (hb:s_ w w')=>i0_ N p I J K (L.step hb);have D:w.cell? ⟨bb,o+i*15+2,none⟩=some (I_ t):=hc 2 _ rfl;have E:=hc 3 _ rfl;have F:w.cell? ⟨bb,o+i*15+4,none⟩=some (I_ (j_ t x.c).val):=hc 4 _ rfl;have G:w.cell? ⟨bb,o+i*15+5,none⟩=some (I_ (j_ t x.c).marks):=hc 5 _ rfl;have H:=H_ (fun X=>a_ (aP (w) w) X);have i0:(0:Int)<=(i:Int):=O_
 have i1:(i:Int)<(C.files.length:Int):=O_
 generalize (j_ t x.c).kids.length=kn at *;generalize (j_ t x.c).val=kv at *;generalize (j_ t x.c).marks=km at *;obtain ⟨m,r⟩:=bL (J_ x.c p);rw [<-r] at n ⊢;clear hc h hi r I J K L;have M:=H_ (i_ w (.cells #[S_ (some ⟨bb,o,none⟩) C.files.length cap,b,c,d,e,f,g] 30));go_enter func57,ntmps57
 go_upto_region 3 with (go_at_call 125;(with_reducible refine CM (s _ (by first | assumption | exact H.out _)) ?_);rintro e w1 ⟨rfl,q⟩)
 have k:=H_ (e_ (H.out _) q);have v:=fC M q;obtain ⟨x0,R,U,V,W,Y,Z⟩:=T_ v.out;clear R U V W Y Z;have z:=kt4 (k.block _ y) D E F G;clear D E F G;obtain ⟨D,E,F,G⟩:=z;clear q
 by_cases hv:m<=0
 ·have u:=H_ (show uT m = .tuple #[I_ 0,.bool false] from if_pos hv)
  by_cases h0:m=0
  ·subst h0;clear hv
   go_wp2_with (go_at_call 126;(with_reducible refine CM (n _ k.out) ?_);rintro e w2 ⟨rfl,j⟩;have l:=jC k j;clear j)
   go_ret2
   exact ⟨by rw [u.out];rfl,l⟩
  ·have P:m<0:=O_
   have Q:¬0<m:=O_
   clear hv h0
   go_wp2_with (go_at_call 126;(with_reducible refine CM (n _ k.out) ?_);rintro e w2 ⟨rfl,j⟩;have l:=jC k j;clear j)
   all_goals first | omega | skip
   go_ret2
   exact ⟨by rw [u.out,<-dF (show ¬(0<m) by omega)];rfl,l⟩
 ·have u:=H_ (show uT m = .tuple #[I_ m,.bool true] from if_neg hv);have hgt:0<m:=O_
  go_wp2_with (go_at_call 126;(with_reducible refine CM (n _ k.out) ?_);rintro e w2 ⟨rfl,j⟩;have l:=jC k j;clear j)
  all_goals first | omega | skip
  go_ret2
  exact ⟨by rw [u.out];rfl,l⟩
def jH (C:Ck) (v:Int):Bool:=decide (0<v)&&(match C.frames[(v - 1).toNat]? with | some x=>decide (0<=x.file)&&(x.pg.dirty != 0&&x.writing == 0) | none=>false)
def mO (C:Ck) (vv:Nat->Int) (k:Nat):List Int:=((List.range k).filter (fun p=>jH C (vv p))).map (fun p:Nat=>(p:Int))
theorem ff_ (h:jH C (vv k)=true):mO C vv (k+1)=mO C vv k ++ [(k:Int)]:=by simp [mO,List.range_succ,h]
theorem qI (h:jH C (vv k)=false):mO C vv (k+1)=mO C vv k:=by simp [mO,List.range_succ,h]
theorem fe_ (C:Ck) (vv:Nat->Int) (k:Nat):(mO C vv k).length<=k:=by
 unfold mO;rw [mL_];exact eF (List.length_filter_le _ _) A_
theorem wG (n:Int) (h:x_ w S a b c d e f g C) (hl:C.frames.length<=100) (hfind:∀(p:Nat) w',s_ w w'->p<8->C_ 57 #[bK a b c d e f g,I_ n,I_ (p:Int)] w' (eL (vv p) w')) (hS:∀b,w.heap.size<=b->S b) :
  C_ 12 #[bK a b c d e f g,I_ n] w (pC (mO C vv 8) S w):=by
 have H:=H_ h;have J:=fun (v:Int) w' (G:s_ w w') (hn:¬(1<=v/\v<=C.frames.length))=>b0_ v (h.step G) hn;have L:=fun (i:Nat) (x:Fr) w' (G:s_ w w') (hi:C.frames[i]?=some x)=>pY i x (h.step G) hi hl;obtain ⟨A1,m1,c1,rfl⟩:=h.files.cap;obtain ⟨A2,c2,rfl,q1,q2⟩:=h.frames.form;obtain ⟨A3,m3,c3,A4,m4,c4,A5,m5,c5,A6,m6,c6,A7,m7,c7,rfl,rfl,rfl,rfl,rfl⟩:=x_.caps5 h;have a2:=H_ (i_ w (.cells (D_ A1 m1 c1 A2 C.frames.length c2 A3 m3 c3 A4 m4 c4 A5 m5 c5 A6 m6 c6 A7 m7 c7) 30));have a1:=H_ (a_ (aP (w) w) (.cells (D_ A1 m1 c1 A2 C.frames.length c2 A3 m3 c3 A4 m4 c4 A5 m5 c5 A6 m6 c6 A7 m7 c7) 30));clear h q1 q2;go_enter func12,ntmps12
 go_upto_region 3 with fail
 generalize w.alloc (.cells (D_ A1 m1 c1 A2 C.frames.length c2 A3 m3 c3 A4 m4 c4 A5 m5 c5 A6 m6 c6 A7 m7 c7) 30)=V at a2 a1
 go_loopw [5,9] (fun u i wx=>∃k:Nat,i = I_ (k:Int)/\k<=8/\LO Y_ 3 wx (w+1) S u (mO C vv k)/\s_ w wx/\bA wx (w) (D_ A1 m1 c1 A2 C.frames.length c2 A3 m3 c3 A4 m4 c4 A5 m5 c5 A6 m6 c6 A7 m7 c7) 30) (fun _ i _=>100 - (intOf i).toNat)
 case atStart=>exact ⟨0,rfl,O_,LO.nil _ _ _ _ _,a1.out,a2.out⟩
 case round=>
  obtain ⟨k,rfl,hk,ho,G,X⟩:=hrel;obtain ⟨K,t,F⟩:=eI ho G X;clear ho G X;obtain ⟨x0,D,N,O,P,Q,R⟩:=T_ F.out;have l:=n_ F
  by_cases a6:k<8
  ·have k8:(k:Int)<8:=O_
   have k0:(0:Int)<=(k:Int):=O_
   have E:=fun w' (G:s_ w w')=>hfind k w' G a6;obtain ⟨v,hv⟩:=bL (vv k);rw [<-hv] at E
   by_cases h0:v<=0
   ·have U:=H_ (show jH C (vv k)=false by rw [<-hv];unfold jH;rw [dF O_];rfl);rw [show eL v=fun w e w'=>e = .returned (.tuple #[I_ 0,.bool false])/\s_ w w' by funext w e w';unfold eL;rw [show uT v = .tuple #[I_ 0,.bool false] from if_pos h0]] at E;have B:=fun w' (G:s_ w w')=>J 0 w' G O_;clear hv h0 hfind J L
    go_wp2_with (first
     | (go_at_call 57;(with_reducible refine CM (E _ t.out) ?_);rintro e w1 ⟨rfl,j⟩;have r:=jC t j;have z:=H_ (K.step j);have A:=fC F j;have x0:=(g_ (j.block _ l)).trans x0;have D:=(g_ (j.block _ l)).trans D;have N:=(g_ (j.block _ l)).trans N;have O:=(g_ (j.block _ l)).trans O;have P:=(g_ (j.block _ l)).trans P;have Q:=(g_ (j.block _ l)).trans Q;have R:=(g_ (j.block _ l)).trans R)
     | (go_at_call 43;(with_reducible refine CM (B _ r.out) ?_);rintro e w2 ⟨rfl,m⟩;have q:=jC r m;have y:=H_ (z.step m);have s:=fC A m))
    go_roundw
    case rel=>exact ⟨k+1,by go_num,O_,by rw [qI U.out];exact y,q.out,s⟩
    case measure=>exact bV
   ·rw [show eL v=fun w e w'=>e = .returned (.tuple #[I_ v,.bool true])/\s_ w w' by funext w e w';unfold eL;rw [show uT v = .tuple #[I_ v,.bool true] from if_neg h0]] at E
    by_cases h1:v<=C.frames.length
    ·obtain ⟨i,rfl⟩:∃i:Nat,v=(i:Int)+1:=⟨(v - 1).toNat,O_⟩;have a5:i<C.frames.length:=O_
     obtain ⟨x,X⟩:∃x,C.frames[i]?=some x:=⟨_,cY a5⟩;have B:=fun w' (G:s_ w w')=>L i x w' G X;have W:jH C (vv k)=(decide (0<=x.file)&&(x.pg.dirty != 0&&x.writing == 0)):=by
      rw [<-hv];unfold jH;rw [show (((i:Int)+1) - 1).toNat=i by omega,X,dT O_];rfl
     obtain ⟨bb,o,rfl,I,y0,y1,y2,y3,Y,y5,y6,y7,Z⟩:=FrA.cells H.frames X;have i2:(i:Int)<(C.frames.length:Int):=O_
     have i4:(i:Int)+1<=100:=O_
     clear y0 y1 y2 y3 y5 y6 y7 hv h0 h1 hfind J L
     by_cases hf:0<=x.file
     ·rw [dT hf] at B W
      by_cases hd:x.pg.dirty=0
      ·have U:=H_ (show jH C (vv k)=false by rw [W,hd];rfl);rw [hd] at Y;clear W hf hd X
       go_wp2_with (first
        | (go_at_call 57;(with_reducible refine CM (E _ t.out) ?_);rintro e w1 ⟨rfl,j⟩;have r:=jC t j;have z:=H_ (K.step j);have A:=fC F j;have x0:=(g_ (j.block _ l)).trans x0;have D:=(g_ (j.block _ l)).trans D;have N:=(g_ (j.block _ l)).trans N;have O:=(g_ (j.block _ l)).trans O;have P:=(g_ (j.block _ l)).trans P;have Q:=(g_ (j.block _ l)).trans Q;have R:=(g_ (j.block _ l)).trans R)
        | (go_at_call 43;(with_reducible refine CM (B _ r.out) ?_);rintro e w2 ⟨rfl,m⟩;have q:=jC r m;have y:=H_ (z.step m);have s:=fC A m;have D:=b_ s 1;simp only[zl] at D;replace Y:=(g_ (q.block _ I)).trans Y;replace Z:=(g_ (q.block _ I)).trans Z)
        | fail)
       go_roundw
       case rel=>exact ⟨k+1,by go_num,O_,by rw [qI U.out];exact y,q.out,s⟩
       case measure=>exact bV
      ·have a4:(x.pg.dirty != 0)=true:=bne_iff_ne.2 hd
       by_cases M:x.writing=0
       ·have U:=H_ (show jH C (vv k)=true by rw [W,a4,M];rfl);rw [M] at Z;clear W hf hd X M
        go_wp2_with (first
         | (go_at_call 57;(with_reducible refine CM (E _ t.out) ?_);rintro e w1 ⟨rfl,j⟩;have r:=jC t j;have z:=H_ (K.step j);have A:=fC F j;have x0:=(g_ (j.block _ l)).trans x0;have D:=(g_ (j.block _ l)).trans D;have N:=(g_ (j.block _ l)).trans N;have O:=(g_ (j.block _ l)).trans O;have P:=(g_ (j.block _ l)).trans P;have Q:=(g_ (j.block _ l)).trans Q;have R:=(g_ (j.block _ l)).trans R)
         | (go_at_call 43;(with_reducible refine CM (B _ r.out) ?_);rintro e w2 ⟨rfl,m⟩;have q:=jC r m;have y:=H_ (z.step m);have s:=fC A m;have D:=b_ s 1;simp only[zl] at D;replace Y:=(g_ (q.block _ I)).trans Y;replace Z:=(g_ (q.block _ I)).trans Z)
         | (at_builtin;(refine M_ cV rfl (.tmp 43) (.tmp 45) rfl S rfl (y.alloc _) (by have:=n_ s;simp;omega) (by have:=fe_ C vv k;omega) #[I_ (k:Int)] rfl (l_ _ _ _ rfl) (k:Int) rfl ?_);intro v4 w4 a0 a3 a7))
        go_roundw
        case rel=>exact ⟨k+1,by go_num,O_,by rw [ff_ U.out];exact a0,(a_ q.out _).grown a3 (a_ q.out _).size (fun b G=>by have:=(y.own G).1;omega),(a3.block _ (n_ (m_ s.out _)) (fun e=>by have:=(y.own e.symm).1;omega)).trans (m_ s.out _)⟩
        case measure=>exact bV
       ·have U:=H_ (show jH C (vv k)=false by rw [W,beq_eq_false_iff_ne.2 M];simp);have a8:(x.writing == 0)=false:=beq_eq_false_iff_ne.2 M;clear W hf hd X M
        go_wp2_with (first
         | (go_at_call 57;(with_reducible refine CM (E _ t.out) ?_);rintro e w1 ⟨rfl,j⟩;have r:=jC t j;have z:=H_ (K.step j);have A:=fC F j;have x0:=(g_ (j.block _ l)).trans x0;have D:=(g_ (j.block _ l)).trans D;have N:=(g_ (j.block _ l)).trans N;have O:=(g_ (j.block _ l)).trans O;have P:=(g_ (j.block _ l)).trans P;have Q:=(g_ (j.block _ l)).trans Q;have R:=(g_ (j.block _ l)).trans R)
         | (go_at_call 43;(with_reducible refine CM (B _ r.out) ?_);rintro e w2 ⟨rfl,m⟩;have q:=jC r m;have y:=H_ (z.step m);have s:=fC A m;have D:=b_ s 1;simp only[zl] at D;replace Y:=(g_ (q.block _ I)).trans Y;replace Z:=(g_ (q.block _ I)).trans Z)
         | fail)
        go_roundw
        case rel=>exact ⟨k+1,by go_num,O_,by rw [qI U.out];exact y,q.out,s⟩
        case measure=>exact bV
     ·rw [dF hf] at B W;have U:=H_ (show jH C (vv k)=false by rw [W];rfl);clear W hf X
      go_wp2_with (first
       | (go_at_call 57;(with_reducible refine CM (E _ t.out) ?_);rintro e w1 ⟨rfl,j⟩;have r:=jC t j;have z:=H_ (K.step j);have A:=fC F j;have x0:=(g_ (j.block _ l)).trans x0;have D:=(g_ (j.block _ l)).trans D;have N:=(g_ (j.block _ l)).trans N;have O:=(g_ (j.block _ l)).trans O;have P:=(g_ (j.block _ l)).trans P;have Q:=(g_ (j.block _ l)).trans Q;have R:=(g_ (j.block _ l)).trans R)
       | (go_at_call 43;(with_reducible refine CM (B _ r.out) ?_);rintro e w2 ⟨rfl,m⟩;have q:=jC r m;have y:=H_ (z.step m);have s:=fC A m;have D:=b_ s 1;simp only[zl] at D;replace Y:=(g_ (q.block _ I)).trans Y;replace Z:=(g_ (q.block _ I)).trans Z)
       | fail)
      go_roundw
      case rel=>exact ⟨k+1,by go_num,O_,by rw [qI U.out];exact y,q.out,s⟩
      case measure=>exact bV
    ·have U:=H_ (show jH C (vv k)=false by rw [<-hv];unfold jH;rw [eN_ O_];simp);have B:=fun w' (G:s_ w w')=>J v w' G O_;clear hv h0 h1 hfind J L
     go_wp2_with (first
      | (go_at_call 57;(with_reducible refine CM (E _ t.out) ?_);rintro e w1 ⟨rfl,j⟩;have r:=jC t j;have z:=H_ (K.step j);have A:=fC F j;have x0:=(g_ (j.block _ l)).trans x0;have D:=(g_ (j.block _ l)).trans D;have N:=(g_ (j.block _ l)).trans N;have O:=(g_ (j.block _ l)).trans O;have P:=(g_ (j.block _ l)).trans P;have Q:=(g_ (j.block _ l)).trans Q;have R:=(g_ (j.block _ l)).trans R)
      | (go_at_call 43;(with_reducible refine CM (B _ r.out) ?_);rintro e w2 ⟨rfl,m⟩;have q:=jC r m;have y:=H_ (z.step m);have s:=fC A m))
     go_roundw
     case rel=>exact ⟨k+1,by go_num,O_,by rw [qI U.out];exact y,q.out,s⟩
     case measure=>exact bV
  ·obtain rfl:k=8:=O_
   go_wp2;go_ret
   exact ⟨_,rfl,K.la (fun _ _ h=>h) (fun b G=>hS b O_),t.out⟩
end
end Go.Proofs.YtehfhnbpnaiogaaGreatDoor
