/-
  Lemmas and contracts for the laws of this seat, part 21; several texts joined by a program.
-/
import Derived.Test.YtehfhnbpnaiogaaGreatDoorE20
import Derived.Test.YtehfhnbpnaiogaaGreatDoorE00
import Derived.BigRegion
import Derived.Deep.CutBlock
import Derived.Outline
namespace Go.Proofs.YtehfhnbpnaiogaaGreatDoor
set_option linter.unusedVariables false
set_option linter.unusedSimpArgs false
set_option maxRecDepth 100000
set_option maxHeartbeats 16000000
open Go.RowKit Go.Proofs.Tryz IntKind
variable {C:Ck} {L:List Fl} {P:Bool->Bool->World->Prop} {S:Nat->Prop} {d:Nat->Bool} {g j:Nat} {l:List (Nat × Obj)} {w wx:World} {y:Fl}
section
theorem jI:(prog.info? 62).map (·.size)=some 3:=by kernel_rfl
theorem oO {a b c:Int}:(#[Value.int i64 a,I_ b,I_ c]:Array Value).all (·.oneCell')=true:=by simp [Value.oneCell']
theorem LW.seq (h:LW jG w S g L) (hj:L[j]?=some y) (v:Int):LW jG (w.setCell ⟨g,j*15+14,none⟩ (I_ v)) S g (L.set j {y with seq:=v}):=
 LW.setOne (a':={y with seq:=v}) (p:=14) h hj O_ rfl (fun r hr=>by
  obtain ⟨t,A,cap,k1,k2,k3,k4,rfl⟩:=hr;exact ⟨t,A,cap,k1,k2,k3,k4,rfl⟩)
theorem LW.fl_seq (h:LW jG w S g L) (hj:L[j]?=some y):w.cell? ⟨g,j*15+14,none⟩=some (I_ y.seq):=by
 obtain ⟨r,⟨t,A,cap,k1,k2,k3,k4,rfl⟩,hc⟩:=h.at_ hj;exact hc 14 _ rfl
theorem LW.fl_pl (h:LW jG w S g L) (hj:L[j]?=some y):w.cell? ⟨g,j*15,none⟩=some (I_ y.dev)/\w.cell? ⟨g,j*15+1,none⟩=some (I_ y.slot)/\w.cell? ⟨g,j*15+13,none⟩=some (I_ y.which):=by
 obtain ⟨r,⟨t,A,cap,k1,k2,k3,k4,rfl⟩,hc⟩:=h.at_ hj;exact ⟨by have:=hc 0 _ rfl;rwa [Nat.add_zero] at this,hc 1 _ rfl,hc 13 _ rfl⟩
def S6 (S:Nat->Prop) (n:Nat):Nat->Prop:=fun z=>S z/\z≠n/\z≠n+1/\z≠n+1+1/\z≠n+1+1+1/\z≠n+1+1+1+1
def qY (q s b:Int):Value:= .agg #[I_ q,I_ s,I_ b]
def rqC (y:Fl) (d:ByteArray):Value:= .agg (bJ 0 0 y.dev 2 (y.slot*18+(1 - y.which)) 1 d true true 0)
def tG (C:Ck) (j:Nat) (y:Fl) (sz:Int) (C':Ck) (rq ino:Value) (err:Int):Prop:=
 if y.seq=65535 then C'=C/\rq=rq0/\ino=qY 0 0 0/\err=3 else C'={C with files:=C.files.set j {y with seq:=y.seq+1}}/\rq=rqC y (iF (y.seq+1) sz y.blocks j)/\ino=qY (y.seq+1) sz y.blocks/\err=0
def vY (P:Ck->Value->Value->Int->Prop) (S:Nat->Prop) (w:World) (en:Ending) (w':World):Prop:=∃C' rq ino err a b c d e f g,P C' rq ino err/\en = .returned (.tuple #[cI a b c d e f g,rq,ino,I_ err])/\x_ w' S a b c d e f g C'/\q_ w w'
theorem fj_ {fn:Func} {p r s q:Tmp} (h:fn.results=#[.cell p 30,.cell r 37,.cell s 62,.tmp q]) {tmps:Array Value} {g2 g3:Nat} {cs cs2 cL:Array Value} {u:Value}
  (hp:tmps.getD p undef = P_ g) (hr:tmps.getD r undef = P_ g2) (hs:tmps.getD s undef = P_ g3) (hq:tmps.getD q undef=u) (hg:w.heap[g]?=some (.cells cs 30 (0,0))) (hg2:w.heap[g2]?=some (.cells cs2 37 (0,0))) (hg3:w.heap[g3]?=some (.cells cL 62 (0,0))) (h1:cs.size=7) (h2:cs2.size=10) (h3:cL.size=3) :
  (results fn tmps).run prog w = .ok (.tuple #[.agg cs,.agg cs2,.agg cL,u]) w:=by
 have a:tmps[p]?.getD undef = P_ g:=by simpa using hp
 have c:tmps[r]?.getD undef = P_ g2:=by simpa using hr
 have d:tmps[s]?.getD undef = P_ g3:=by simpa using hs
 have b:tmps[q]?.getD undef=u:=by simpa using hq
 simp [results,h,a,c,d,b,asAddr,run_loadVar_row w g _ 30 cs (0,0) _ hg underlying30 rfl (by rw [h1];exact fI),run_loadVar_row w g2 _ 37 cs2 (0,0) _ hg2 underlying37 rfl (by rw [h2];exact bT),run_loadVar_row w g3 _ 62 cL (0,0) _ hg3 underlying62 rfl (by rw [h3];exact jI)]
def G5c (gf j:Nat) (q s b q' s' b' er:Int) (γ:Option Nat):Nat->Value->Prop
 | 0,v=>v = .pointer (some ⟨gf,j*15,none⟩)
 | 1,v=>v = .pointer (some ⟨gf,j*15,none⟩)
 | 2,v=>v = .pointer (some ⟨gf,j*15+14,none⟩)
 | 3,v=>v = I_ q
 | 4,v=>v = I_ s
 | 5,v=>v = .pointer (some ⟨gf,j*15,none⟩)
 | 6,v=>v = .pointer (some ⟨gf,j*15,none⟩)
 | 7,v=>v = .pointer (some ⟨gf,j*15+7,none⟩)
 | 8,v=>v = I_ b
 | 9,v=>v = .agg #[I_ q,I_ s,I_ b]
 | 10,v=>v = .tuple #[.agg #[I_ q',I_ s',I_ b'],I_ er]
 | 11,v=>v = .tuple #[.agg #[I_ q',I_ s',I_ b'],I_ er]
 | 12,v=>v = .agg #[I_ q',I_ s',I_ b']
 | 13,v=>v = I_ er
 | 14,v=>∃z,γ=some z/\v = P_ z
 | 15,_=>True
 | 16,v=>v = I_ er
 | _+17,_=>True
def S8 (n:Nat):Nat->Prop:=fun z=>z≠n+1+1/\z≠n+1+1+1/\z≠n+1+1+1+1
def G9c (X:Nat) (A B D:Value):Nat->Value->Prop
 | 0,v=>v = P_ X
 | 1,v=>v = P_ X
 | 2,v=>v = P_ X
 | 3,v=>v=A
 | 4,v=>v=B
 | 5,v=>v=D
 | 6,_=>True
 | 7,_=>True
 | 8,_=>True
 | 9,v=>v = I_ 0
 | _+10,_=>True
theorem dh_ (j:Nat) (y:Fl) (sz:Int) {a b c d e f g:Value} (h:x_ w S a b c d e f g C) (ok:lS C) (hj:C.files[j]?=some y) (hva:zB y.seq sz y.blocks=true) (hsl:0<=y.slot/\y.slot<7) (hwh:0<=y.which/\y.which<2) (hS:∀z,w.heap.size<=z->S z) :
  C_ 22 #[cI a b c d e f g,I_ (j:Int),I_ sz] w (vY (tG C j y sz) S w):=by
 have bc:=fun w' (M:q_ w w') (hlt:w.heap.size+1+1+1+1<w'.heap.size)=>vT C a b c d e f g (S6 S (w)) w' ((h.weak (fun z hz hs=>⟨hs,O_,O_,O_,O_,O_⟩)).step M) ok (fun z hz=>⟨hS z O_,O_,O_,O_,O_,O_⟩);have bq:=bK hj;have am:=fun w' (M:q_ w w')=>gU j (h.step M);rw [show (decide (0<=(j:Int))&&decide ((j:Int)<(C.files.length:Int)))=true by simp;omega] at am;obtain ⟨E,H,b',er,bb,a6⟩:∃E H b' er,(∀w',C_ 74 #[.agg #[I_ y.seq,I_ sz,I_ y.blocks]] w' (ht_ E H b' er w'))/\((y.seq=65535/\E=0/\H=0/\b'=0/\er=3)\/(y.seq≠65535/\E=y.seq+1/\H=sz/\b'=y.blocks/\er=0)):=by
  by_cases F:y.seq=65535
  ·have hE:nxE y.seq sz y.blocks=3:=by unfold nxE;rw [if_pos hva,if_pos F]
   refine ⟨0,0,0,3,fun w'=>?_,.inl ⟨F,rfl,rfl,rfl,rfl⟩⟩;have:=b9_ y.seq sz y.blocks w';unfold a0_ at this;rw [hE] at this;exact this
  ·have hE:nxE y.seq sz y.blocks=0:=by unfold nxE;rw [if_pos hva,if_neg F]
   refine ⟨_,_,_,0,fun w'=>?_,.inr ⟨F,rfl,rfl,rfl,rfl⟩⟩;have:=b9_ y.seq sz y.blocks w';unfold a0_ at this;rw [hE] at this;exact this
 obtain ⟨v1,v2,v3,v4,v5,v6⟩:=hj_ hva;have s0:¬sz<0:=O_
 have s1:¬128<sz:=O_
 have ca:C.files.length<=100:=ok.ok.files.2;obtain ⟨A1,c1,rfl,q1,q2⟩:=h.files.form;obtain ⟨A2,m2,c2,rfl⟩:=h.frames.cap;obtain ⟨A3,m3,c3,A4,m4,c4,A5,m5,c5,A6,m6,c6,A7,m7,c7,rfl,rfl,rfl,rfl,rfl⟩:=x_.caps5 h;obtain ⟨HJ,aw,ai,ae⟩:=sP hj hsl hwh a6;have j2:(j:Int)<(C.files.length:Int):=O_
 have j0:(0:Int)<=(j:Int):=O_
 clear h ok hj hva hsl hwh a6 q1 q2 v1 v2 v3 v4 v5 v6;have HS:=H_ (show St w [(w.heap.size,.cells (E_ A1 C.files.length c1 A2 m2 c2 A3 m3 c3 A4 m4 c4 A5 m5 c5 A6 m6 c6 A7 m7 c7) 30 (0,0)),(w.heap.size+1,.cells #[I_ (j:Int)] 3 (0,0)),(w.heap.size+1+1,cG),(w.heap.size+1+1+1,lK),(w.heap.size+1+1+1+1,.cells #[I_ 0,I_ 0,I_ 0] 62 (0,0))] (((((w.alloc (.cells (E_ A1 C.files.length c1 A2 m2 c2 A3 m3 c3 A4 m4 c4 A5 m5 c5 A6 m6 c6 A7 m7 c7) 30)).alloc (.cells #[I_ (j:Int)] 3)).alloc (cG)).alloc (lK)).alloc (.cells #[I_ 0,I_ 0,I_ 0] 62)) from (((((St.nil w).push _ _ rfl).push _ (w+1) z_).push _ (w+1+1) z_).push _ (w+1+1+1) z_).push _ (w+1+1+1+1) z_);go_enter func22,ntmps22
 go_upto_region 1 with fail
 generalize ((((w.alloc (.cells (E_ A1 C.files.length c1 A2 m2 c2 A3 m3 c3 A4 m4 c4 A5 m5 c5 A6 m6 c6 A7 m7 c7) 30)).alloc (.cells #[I_ (j:Int)] 3)).alloc (cG)).alloc (lK)).alloc (.cells #[I_ 0,I_ 0,I_ 0] 62)=V at HS;have ax:=HS.bk _ _ cO;have b2:w.heap.size+1+1+1+1<V.heap.size:=p_ (HS.bk _ _ M4_);obtain ⟨x0,x1,x2,x3,x4,x5,x6⟩:=aF ax
 go_upto_region 2 with (go_at_call 42;refine CM (bc _ HS.below b2) ?_;rintro e w1 ⟨X,gf,nf,cf,gr,nr,cr,c',d',e',f',g',rfl,hB,b5⟩)
 have a4:=H_ (HS.step b5);have ad:=H_ hB;obtain ⟨B1,az⟩:=aZ V.heap.size;rw [<-az] at ad b2;obtain ⟨E3,e3,Y,rfl⟩:=hB.zones.cap;obtain ⟨E4,e4,k4,rfl⟩:=hB.groups.cap;obtain ⟨E5,e5,k5,rfl⟩:=hB.lists.cap;obtain ⟨E6,e6,k6,rfl⟩:=hB.clocks.cap;obtain ⟨E7,e7,k7,rfl⟩:=hB.ptes.cap;clear x0 x1 x2 x3 x4 x5 x6 ax hB b5 HS az bc;have ay:=a4.bk _ _ cO;have ar:=a4.bk _ _ jQ;have fj:=xV ar;obtain ⟨x0,x1,x2,x3,x4,x5,x6⟩:=aF ay
 go_upto_region 4 with (go_at_call 73;refine CM (am _ a4.below) ?_;rintro e w2 ⟨rfl,aj⟩;have ag:=H_ (a4.step aj);have a9:=H_ (ad.step aj))
 clear x0 x1 x2 x3 x4 x5 x6 ay aj a4 ad am fj ar;have L:=a9.box;have au:=ag.bk _ _ jQ;have fj:=a_ au 0;have x0:=a_ L 0;simp only[zl] at fj x0;have j3:(j:Int)<(nf:Int):=by have:=a9.ef;omega
 go_cut [11] from 35 to 41 (fun s11 wx=>s11 = .pointer (some ⟨gf,j*15,none⟩)/\St w [(w.heap.size,.cells (E_ A1 C.files.length c1 A2 m2 c2 A3 m3 c3 A4 m4 c4 A5 m5 c5 A6 m6 c6 A7 m7 c7) 30 (0,0)),(w.heap.size+1,.cells #[I_ (j:Int)] 3 (0,0)),(w.heap.size+1+1,cG),(w.heap.size+1+1+1,lK),(w.heap.size+1+1+1+1,.cells #[I_ 0,I_ 0,I_ 0] 62 (0,0))] wx/\Bd wx (S6 S (w)) B1 X gf nf cf gr nr cr (S_ E3 e3 Y) (S_ E4 e4 k4) (S_ E5 e5 k5) (S_ E6 e6 k6) (S_ E7 e7 k7) C)
 case first=>
  go_region
  go_wp2;go_meet
  case rel=>exact ⟨rfl,ag.step B_.drew,a9.step B_.drew⟩
 case rest=>
  obtain ⟨rfl,b1,b0⟩:=hcut;have ah:=H_ b1;have a0:=H_ b0;clear b1 b0 ag a9 L au fj x0;obtain ⟨z7,z8,z9,z6⟩:=LW.fl_at a0.files HJ.out;have ze:=a0.files.fl_seq HJ;have b7:=a0.files.lt
  rename World=>V3
  go_upto_region 5 with fail
  go_cut [12,13] from 43 to 55 (fun s12 s13 wx=>∃z,s12 = P_ z/\s13 = I_ er/\V3.heap.size<=z/\aW wx z #[I_ E,I_ H,I_ b'] 62/\q_ V3 wx)
  case first=>
   refine bU (Γ:=Option Nat) 95 15 (fun i=>decide (i<=12)||decide (i=14)) (fun γ d wx=>CBx V3 14 15 3 62 #[I_ E,I_ H,I_ b'] γ d wx) (fun γ k v _=>G5c gf j y.seq sz y.blocks E H b' er γ k v) none s_ s_ rfl (CBx.start V3 14 15 3 _ _).drew (fun ii oo A n γ v _ hg=>by
    match ii with
    | 0=>obtain rfl:=aP A;cases n
    | 1=>obtain rfl:=aP A;cases n
    | 2=>obtain rfl:=aP A;cases n
    | 3=>obtain rfl:=aP A;cases n
    | 4=>obtain rfl:=aP A;cases n
    | 5=>obtain rfl:=aP A;cases n
    | 6=>obtain rfl:=aP A;cases n
    | 7=>obtain rfl:=aP A;cases n
    | 8=>obtain rfl:=aP A;cases n
    | 9=>obtain rfl:=aP A;cases n
    | 10=>obtain rfl:=aP A;cases n
    | 11=>obtain rfl:=aP A;cases n
    | 12=>obtain rfl:=aP A;cases n
    | 13=>obtain rfl:=aP A;cases n
    | 14=>obtain rfl:=aP A;cases n
    | 15=>trivial
    | 16=>obtain rfl:=aP A;cases n
    | _+17=>trivial) ?_
   refine qE fun v0=>qE fun v1=>qE fun v2=>?_;simp only[ly];refine h_ (fun γ O q W a7 m n K o=>?_) (fun v3=>?_)
   ·obtain rfl:v2=_:=n 2 s_;have z0:=(c_ (m.bl.block _ b7)).trans ze;go_simp;exact o γ _ _ (m.more bX bX B_) (fun _ _ h=>h) rfl
   simp only[ly];refine qE fun v4=>qE fun v5=>?_;simp only[ly];refine qE fun v6=>qE fun v7=>?_;simp only[ly];refine h_ (fun γ O q W a7 m n K o=>?_) (fun v8=>?_)
   ·obtain rfl:v7=_:=n 7 s_;have z0:=(c_ (m.bl.block _ b7)).trans z7;go_simp;exact o γ _ _ (m.more bX bX B_) (fun _ _ h=>h) rfl
   simp only[ly];refine qE fun v9=>?_;simp only[ly];refine h_ (fun γ O q W a7 m n K o=>?_) (fun v10=>?_)
   ·obtain rfl:v9=_:=n 9 s_;go_simp
    go_at_call 74
    refine (bb _).mono ?_;rintro e w4 ⟨rfl,bn⟩;exact o γ _ _ (m.more bX bX bn) (fun _ _ h=>h) rfl
   simp only[ly];refine qE fun v11=>qE fun v12=>qE fun v13=>?_;simp only[ly];refine h_ (fun γ O q W a7 m n K o=>?_) (fun v14=>?_)
   ·have bo:O 15=false:=by
     cases hh:O 15 with
     | false=>rfl
     | true=>have:=a7 hh;cases this
    obtain rfl:=m.no W;go_simp;exact o (some q.heap.size) _ _ (m.box W bo bX _ rfl) (fun k u h=>by
     match k with
     | 14=>obtain ⟨z,h,_⟩:=h;cases h
     | 0=>exact h
     | 1=>exact h
     | 2=>exact h
     | 3=>exact h
     | 4=>exact h
     | 5=>exact h
     | 6=>exact h
     | 7=>exact h
     | 8=>exact h
     | 9=>exact h
     | 10=>exact h
     | 11=>exact h
     | 12=>exact h
     | 13=>exact h
     | 15=>trivial
     | 16=>exact h
     | _+17=>trivial) ⟨_,rfl,rfl⟩
   simp only[ly];refine h_ (fun γ O q W a7 m n K o=>?_) (fun v15=>?_)
   ·obtain ⟨z,rfl,ez⟩:=n 14 s_;obtain rfl:v14=_:=ez;obtain rfl:v12=_:=n 12 s_;obtain ⟨k1,c0,k2,Y,_⟩:=m.at_ z rfl;refine cK rfl 62 (.tmp 12) (.tmp 54) rfl rfl #[I_ E,I_ H,I_ b'] rfl rfl 62 c0 k2 jI (by rw [Y];rfl) (oO) ?_;exact o (some z) undef _ (m.fill bX rfl) (fun _ _ h=>h) trivial
   simp only[ly];refine qE fun v16=>?_;simp only[ly];refine dD ?_;intro γ O q N m hG;obtain ⟨z,rfl,ez⟩:=hG 14 bX;obtain rfl:v14=_:=ez;obtain rfl:v16=_:=hG 16 bX;obtain ⟨k1,c0,k2,_,k4⟩:=m.at_ z rfl;obtain rfl:=k4 (N 15 bX);have ak:=m.bl;clear m hG N;go_wp2;go_meet
   case rel=>exact ⟨z,rfl,rfl,k1,k2,ak⟩
  case rest=>
   obtain ⟨z,rfl,rfl,hz,hi,M⟩:=hcut;have R:=H_ (ah.step M);have I:=H_ (a0.step M);have af:=H_ hi;have br:∀(g':Nat) (ob:Obj),(g',ob) ∈ ([(w.heap.size,.cells (E_ A1 C.files.length c1 A2 m2 c2 A3 m3 c3 A4 m4 c4 A5 m5 c5 A6 m6 c6 A7 m7 c7) 30 (0,0)),(w.heap.size+1,.cells #[I_ (j:Int)] 3 (0,0)),(w.heap.size+1+1,cG),(w.heap.size+1+1+1,lK),(w.heap.size+1+1+1+1,.cells #[I_ 0,I_ 0,I_ 0] 62 (0,0))]:List (Nat × Obj))->g'<B1:=fun g' ob hm=>by
    simp only[qJ,List.not_mem_nil,or_false,Prod.mk.injEq] at hm
    rcases hm with ⟨rfl,_⟩ | ⟨rfl,_⟩ | ⟨rfl,_⟩ | ⟨rfl,_⟩ | ⟨rfl,_⟩ <;> omega
   have bv:w.heap.size<=B1:=O_
   have cb:w.heap.size+1+1+1+1<z:=iS (p_ (ah.bk _ _ M4_)) hz;clear M hi ah a0 z7 z8 z9 z6 ze bb
   rcases ae.out with ⟨F,rfl,rfl,rfl,rfl⟩ | ⟨F,hq',hs',hb',rfl⟩
   ·have HP:=H_ (show tG C j y sz C rq0 (qY 0 0 0) 3 by unfold tG;rw [if_pos F];exact ⟨rfl,rfl,rfl,rfl⟩);clear F ae;have L:=I.box;obtain ⟨x0,x1,x2,x3,x4,x5,x6⟩:=aF L;have HR:=R.bk _ _ jB;have HQ:=R.bk _ _ tI;have HN:=R.bk _ _ M4_
    go_wp2_with (first
     | (refine aJ rfl (.tmp 6) (.tmp 61) rfl rfl rfl rfl HR rfl ?_)
     | (refine cV rfl 37 (.tmp 7) (.tmp 62) rfl rfl (w+1+1+1) lO rfl rfl 37 _ ((setRow_other _ (w+1+1) (w+1+1+1) _ O_).trans HQ) bT rfl (dX) ?_)
     | (refine cV rfl 62 (.tmp 8) (.tmp 63) rfl rfl (w+1+1+1+1) #[I_ 0,I_ 0,I_ 0] rfl rfl 62 _ ((setRow_other _ (w+1+1+1) (w+1+1+1+1) _ O_).trans ((setRow_other _ (w+1+1) (w+1+1+1+1) _ O_).trans HN)) jI rfl (oO) ?_))
    show bodyPost prog f22 _ _ _ _
    have bi:((wc.setRow (w+1+1) (E_ (o_ gf) nf cf (o_ gr) nr cr E3 e3 Y E4 e4 k4 E5 e5 k5 E6 e6 k6 E7 e7 k7)).setRow (w+1+1+1) lO).heap[w.heap.size+1+1+1]?=some (lK):=setRow_heap _ _ _ _ _ _ ((setRow_other wc (w+1+1) (w+1+1+1) (E_ (o_ gf) nf cf (o_ gr) nr cr E3 e3 Y E4 e4 k4 E5 e5 k5 E6 e6 k6 E7 e7 k7) O_).trans HQ);have bh:=(setRow_other (wc.setRow (w+1+1) (E_ (o_ gf) nf cf (o_ gr) nr cr E3 e3 Y E4 e4 k4 E5 e5 k5 E6 e6 k6 E7 e7 k7)) (w+1+1+1) (w+1+1+1+1) lO O_).trans ((setRow_other wc (w+1+1) (w+1+1+1+1) (E_ (o_ gf) nf cf (o_ gr) nr cr E3 e3 Y E4 e4 k4 E5 e5 k5 E6 e6 k6 E7 e7 k7) O_).trans HN);have bj:=(setRow_other (wc.setRow (w+1+1) (E_ (o_ gf) nf cf (o_ gr) nr cr E3 e3 Y E4 e4 k4 E5 e5 k5 E6 e6 k6 E7 e7 k7)) (w+1+1+1) (w+1+1) lO O_).trans (setRow_heap _ _ _ _ _ _ HR);refine bodyPost_ret (fj_ rfl rfl rfl rfl rfl ((setRow_other _ (w+1+1+1+1) (w+1+1) _ O_).trans bj) ((setRow_other _ (w+1+1+1+1) (w+1+1+1) _ O_).trans bi) (setRow_heap _ _ _ _ _ _ bh) rfl rfl rfl) rfl ?_
    refine ⟨C,_,_,_,_,_,_,_,_,_,_,HP.out,rfl,(((I.boxRow (Z:=w.heap.size+1+1) O_ (fun h=>h.2.2.2.1 rfl) (E_ (o_ gf) nf cf (o_ gr) nr cr E3 e3 Y E4 e4 k4 E5 e5 k5 E6 e6 k6 E7 e7 k7)).boxRow (Z:=w.heap.size+1+1+1) O_ (fun h=>h.2.2.2.2.1 rfl) lO).boxRow (Z:=w.heap.size+1+1+1+1) O_ (fun h=>h.2.2.2.2.2 rfl) _).at_.weak (fun z _ hz=>hz.1),j_ (j_ (j_ R.below O_ _) O_ _) O_ _⟩
   ·have HP:=H_ (show tG C j y sz {C with files:=C.files.set j {y with seq:=E}} (rqC y (iF E H b' j)) (qY E H b') 0 by unfold tG;rw [if_neg F,hq',hs',hb'];exact ⟨rfl,rfl,rfl,rfl⟩)
    clear F hq' hs' hb' ae;obtain ⟨⟨u,hu⟩,bp⟩:=I.files.slot (i:=j) O_ (p:=14) O_;have i0:=xV af
    go_upto_region 9 with fail
    have J:=H_ (I.putFiles (v_ wc ⟨gf,j*15+14,none⟩ (I_ E)) (I.files.seq HJ.out E) z_);have U:=H_ (R.grown (v_ wc ⟨gf,j*15+14,none⟩ (I_ E)) (fun k e=>by cases e;exact I.o1) br bv);have a2:=H_ ((jO wc ⟨gf,j*15+14,none⟩ (I_ E) z (by show z≠gf;omega)).trans af.out);generalize wc.setCell ⟨gf,j*15+14,none⟩ (I_ E)=G at J U a2;clear I R af hu bp i0;obtain ⟨dd,al⟩:=aZ (iF E H b' j);obtain ⟨dZ,ac⟩:=aZ (y.slot*18+(1 - y.which));rw [<-al] at HP;have bg:=H_ al;have aa:=H_ ac;clear al ac;have P:=J.files.lt;obtain ⟨p0,p1,p2⟩:=J.files.fl_pl (nU bq);have bu:=fA (x:=1 - y.which) (by have:=ai.out;omega);have an:=fun w'=>uR y.slot (1 - y.which) w' aw.out (by have:=ai.out;omega);rw [<-aa.out] at an;have bd:=fun w' (M:q_ G w')=>uY y.dev y.slot 2 dZ 1 (.inr ⟨z,w+1,rfl,rfl⟩) dd w' (fun c9 ab=>by
     rw [bg.out];exact bv_ E H b' j (i_ a2 (d_ M ab)) (i_ (U.bk _ _ jQ) (d_ M ab)))
    go_cut [14] from 70 to 86 (fun s14 wx=>∃r,s14 = P_ r/\G.heap.size<=r/\aW wx r (bJ 0 0 y.dev 2 dZ 1 dd false false 0) 37/\q_ G wx)
    case first=>
     refine T_ 18 95 [SP.eq (.pointer (some ⟨gf,j*15,none⟩)),SP.eq (.pointer (some ⟨gf,j*15,none⟩)),SP.eq (.pointer (some ⟨gf,j*15,none⟩)),SP.eq (.agg #[I_ y.dev,I_ y.slot]),SP.eq (.pointer (some ⟨gf,j*15,none⟩)),SP.eq (.pointer (some ⟨gf,j*15,none⟩)),SP.eq (.pointer (some ⟨gf,j*15,none⟩)),SP.eq (.pointer (some ⟨gf,j*15+1,none⟩)),SP.eq (I_ y.slot),SP.eq (.pointer (some ⟨gf,j*15,none⟩)),SP.eq (.pointer (some ⟨gf,j*15,none⟩)),SP.eq (.pointer (some ⟨gf,j*15+13,none⟩)),SP.eq (I_ y.which),SP.eq (I_ (1 - y.which)),SP.eq (I_ dZ),SP.eq (.func (.func 77) #[] #[P_ z,P_ (w+1)]),SP.eq (.agg (bJ 0 0 y.dev 2 dZ 1 dd false false 0)),SP.bx (G) (lK)] s_ s_ rfl ?_;simp only[vK];refine qC fun v0=>qC fun v1=>qC fun v2=>?_;simp only[ly];refine e_ (fun q m n K o=>?_) (fun v3=>?_)
     ·obtain rfl:v2=_:=n 2 s_;obtain ⟨t0,t1⟩:=kt2 ((show q_ G q from m).block _ P) p0 p1;go_simp;exact o _ _ m B_ rfl
     simp only[ly];refine qC fun v4=>qC fun v5=>?_;simp only[ly];refine qC fun v6=>qC fun v7=>?_;simp only[ly];refine e_ (fun q m n K o=>?_) (fun v8=>?_)
     ·obtain rfl:v7=_:=n 7 s_;have t1:=(c_ ((show q_ G q from m).block _ P)).trans p1;go_simp;exact o _ _ m B_ rfl
     simp only[ly];refine qC fun v9=>qC fun v10=>qC fun v11=>?_;simp only[ly];refine e_ (fun q m n K o=>?_) (fun v12=>?_)
     ·obtain rfl:v11=_:=n 11 s_;have t1:=(c_ ((show q_ G q from m).block _ P)).trans p2;go_simp;exact o _ _ m B_ rfl
     simp only[ly];refine qC fun v13=>?_;simp only[ly];refine e_ (fun q m n K o=>?_) (fun v14=>?_)
     ·obtain rfl:v8=_:=n 8 s_;obtain rfl:v13=_:=n 13 s_;go_simp
      go_at_call 76
      refine (an _).mono ?_;rintro e w6 ⟨rfl,rfl⟩;exact o _ _ m B_ rfl
     simp only[ly];refine qC fun v15=>?_;simp only[ly];refine e_ (fun q m n K o=>?_) (fun v16=>?_)
     ·obtain rfl:v3=_:=n 3 s_;obtain rfl:v14=_:=n 14 s_;obtain rfl:v15=_:=n 15 s_;go_simp
      go_at_call 75
      refine (bd _ m).mono ?_;rintro e w6 ⟨rfl,b6⟩;exact o _ _ (d_ m b6) b6 rfl
     simp only[ly];refine e_ (fun q m n K o=>?_) (fun v17=>?_)
     ·go_simp;exact o _ _ (b_ m (lK)) (b_ B_ (lK)) ⟨_,rfl,(show q_ G q from m).size,l_ q (lK) _ rfl⟩
     simp only[ly];refine aA ?_;intro q m hG;obtain ⟨r,ez,a8,hr⟩:=hG 17 O_;obtain rfl:v17=_:=ez;obtain rfl:v16=_:=hG 16 O_;have HC:=H_ (show q_ G q from m);clear hG m
     go_wp2_with (refine cV rfl 37 (.tmp 14) (.tmp 86) rfl rfl r (bJ 0 0 y.dev 2 dZ 1 dd false false 0) rfl rfl 37 _ hr bT rfl (dX) ?_)
     go_meet
     case rel=>exact ⟨r,rfl,a8,setRow_heap _ _ _ _ _ _ hr,j_ HC a8 _⟩
    case rest=>
     obtain ⟨r,rfl,a8,hr,M⟩:=hcut;have av:=H_ (U.step M);have a1:=H_ ((J.weak (S':=fun z=>S6 S (w) z/\z<G.heap.size) (fun z h1 h2=>⟨h2,h1⟩)).step M);have aq:=lJ a2 M;have bw:=p_ a2;have bm:=p_ J.box;have b8:=J.frames.lt;have ba:∀(g':Nat) (ob:Obj),(g',ob) ∈ ([(w.heap.size,.cells (E_ A1 C.files.length c1 A2 m2 c2 A3 m3 c3 A4 m4 c4 A5 m5 c5 A6 m6 c6 A7 m7 c7) 30 (0,0)),(w.heap.size+1,.cells #[I_ (j:Int)] 3 (0,0)),(w.heap.size+1+1,cG),(w.heap.size+1+1+1,lK),(w.heap.size+1+1+1+1,.cells #[I_ 0,I_ 0,I_ 0] 62 (0,0))]:List (Nat × Obj))->g'<G.heap.size:=fun g' ob hm=>p_ (U.bk g' ob hm);have be:=U.below.size;clear U J a2 p0 p1 p2 bu an bd M aw ai;have Q:=H_ hr;clear hr;have r7:=a_ Q 7;have r8:=a_ Q 8;have bz:=t_ Q 7;have c8:=t_ Q 8;simp only[zl] at r7 r8
     go_upto_region 11 with fail
     have b3:S8 (w) X:=⟨by have:=a1.o0;omega,by have:=a1.o0;omega,by have:=a1.o0;omega⟩;have a5:=H_ ((av.grown (B:=G.heap.size) (v_ wc ⟨r,7,none⟩ (.bool true)) (fun k e=>by cases e;exact a8) ba be).grown (B:=G.heap.size) (v_ (wc.setCell ⟨r,7,none⟩ (.bool true)) ⟨r,8,none⟩ (.bool true)) (fun k e=>by cases e;exact a8) ba be);have s:=H_ (show ((wc.setCell ⟨r,7,none⟩ (.bool true)).setCell ⟨r,8,none⟩ (.bool true)).heap[r]?=some (.cells (bJ 0 0 y.dev 2 dZ 1 dd true true 0) 37 (0,0)) from R_ (show (wc.setCell ⟨r,7,none⟩ (.bool true)).heap[r]?=some (.cells (bJ 0 0 y.dev 2 dZ 1 dd true false 0) 37 (0,0)) from R_ Q _) _);have ko:∀(k:Nat),k<G.heap.size->((wc.setCell ⟨r,7,none⟩ (.bool true)).setCell ⟨r,8,none⟩ (.bool true)).heap[k]?=wc.heap[k]?:=fun k hk=>(jO _ ⟨r,8,none⟩ (.bool true) k (by show k≠r;omega)).trans (jO wc ⟨r,7,none⟩ (.bool true) k (by show k≠r;omega));have a3:=H_ ((ko z bw).trans aq);have D:=H_ (a1.kept ((r_.of_setCell wc ⟨r,7,none⟩ (.bool true) (fun h=>by have:r<G.heap.size:=h.1.2;omega)).trans (r_.of_setCell _ ⟨r,8,none⟩ (.bool true) (fun h=>by have:r<G.heap.size:=h.1.2;omega))) (ko X bm) (ko gf P) (ko gr b8));generalize (wc.setCell ⟨r,7,none⟩ (.bool true)).setCell ⟨r,8,none⟩ (.bool true)=V7 at a5 s a3 D;clear av Q aq a1 r7 r8 bz c8 ko;have L:=D.box;obtain ⟨x0,x1,x2,x3,x4,x5,x6⟩:=aF L;have b4:=p_ L;have bs:=p_ s;have b9:=p_ a3;have u0:=a_ s 0;have u1:=a_ s 1;have u2:=a_ s 2;have u3:=a_ s 3;have u4:=a_ s 4;have u5:=a_ s 5;have u6:=a_ s 6;have u7:=a_ s 7;have u8:=a_ s 8
     have u9:=a_ s 9;have i0:=a_ a3 0;have i1:=a_ a3 1;have i2:=a_ a3 2;simp only[zl] at u0 u1 u2 u3 u4 u5 u6 u7 u8 u9 i0 i1 i2;have ap:=(STx.start (S:=S8 (w)) (l:=[(6,w+1+1,30,(E_ (o_ gf) nf cf (o_ gr) nr cr E3 e3 Y E4 e4 k4 E5 e5 k5 E6 e6 k6 E7 e7 k7)),(7,w+1+1+1,37,(bJ 0 0 y.dev 2 dZ 1 dd true true 0)),(8,w+1+1+1+1,62,#[I_ E,I_ H,I_ b'])]) a5.below (fun k z' t cs hm=>by
      simp only[qJ,List.not_mem_nil,or_false,Prod.mk.injEq] at hm
      rcases hm with ⟨rfl,rfl,rfl,rfl⟩ | ⟨rfl,rfl,rfl,rfl⟩ | ⟨rfl,rfl,rfl,rfl⟩
      ·exact ⟨_,a5.bk _ _ jB,rfl⟩
      ·exact ⟨_,a5.bk _ _ tI,rfl⟩
      ·exact ⟨_,a5.bk _ _ M4_,rfl⟩)).drew
     refine bU (Γ:=Unit) 95 8 (fun i=>decide (i<=7)) (fun _ d wx=>STx V7 (S8 (w)) [(6,w+1+1,30,(E_ (o_ gf) nf cf (o_ gr) nr cr E3 e3 Y E4 e4 k4 E5 e5 k5 E6 e6 k6 E7 e7 k7)),(7,w+1+1+1,37,(bJ 0 0 y.dev 2 dZ 1 dd true true 0)),(8,w+1+1+1+1,62,#[I_ E,I_ H,I_ b'])] (w) w d wx) (fun _ k v _=>G9c X (.agg (E_ (o_ gf) nf cf (o_ gr) nr cr E3 e3 Y E4 e4 k4 E5 e5 k5 E6 e6 k6 E7 e7 k7)) (.agg (bJ 0 0 y.dev 2 dZ 1 dd true true 0)) (.agg #[I_ E,I_ H,I_ b']) k v) () s_ s_ rfl ap (fun ii oo A n _ v _ hg=>by
      match ii with
      | 0=>obtain rfl:=aP A;cases n
      | 1=>obtain rfl:=aP A;cases n
      | 2=>obtain rfl:=aP A;cases n
      | 3=>obtain rfl:=aP A;cases n
      | 4=>obtain rfl:=aP A;cases n
      | 5=>obtain rfl:=aP A;cases n
      | 6=>trivial
      | 7=>trivial
      | 8=>trivial
      | 9=>obtain rfl:=aP A;cases n
      | _+10=>trivial) ?_
     refine qE fun v0=>qE fun v1=>qE fun v2=>?_;simp only[ly];refine h_ (fun _ O q _ _ m n K o=>?_) (fun v3=>?_)
     ·obtain rfl:v2=_:=n 2 s_;have F:=m.kp.2 X b3 b4;have ao:=kt7 F x0 x1 x2 x3 x4 x5 x6;clear x0 x1 x2 x3 x4 x5 x6;obtain ⟨x0,x1,x2,x3,x4,x5,x6⟩:=ao;go_simp;exact o () _ _ (m.more rfl) (fun _ _ h=>h) rfl
     simp only[ly];refine h_ (fun _ O q _ _ m n K o=>?_) (fun v4=>?_)
     ·have F:=m.kp.2 r ⟨O_,O_,O_⟩ bs;have ao:=jN_ F u0 u1 u2 u3 u4 u5 u6 u7 u8 u9;clear u0 u1 u2 u3 u4 u5 u6 u7 u8 u9;obtain ⟨u0,u1,u2,u3,u4,u5,u6,u7,u8,u9⟩:=ao;go_simp;exact o () _ _ (m.more rfl) (fun _ _ h=>h) rfl
     simp only[ly];refine h_ (fun _ O q _ _ m n K o=>?_) (fun v5=>?_)
     ·have F:=m.kp.2 z ⟨O_,O_,O_⟩ b9;replace i0:=(c_ F).trans i0;replace i1:=(c_ F).trans i1;replace i2:=(c_ F).trans i2;go_simp;exact o () _ _ (m.more rfl) (fun _ _ h=>h) rfl
     simp only[ly];refine h_ (fun _ O q _ _ m n K o=>?_) (fun v6=>?_)
     ·obtain rfl:v3=_:=n 3 s_;obtain ⟨c0,k1,k2,_⟩:=m.rows 6 _ _ _ cO;refine cK rfl 30 (.tmp 6) (.tmp 92) rfl rfl (E_ (o_ gf) nf cf (o_ gr) nr cr E3 e3 Y E4 e4 k4 E5 e5 k5 E6 e6 k6 E7 e7 k7) rfl rfl 30 c0 k1 fI (by rw [k2]) (tR) ?_;exact o () undef _ (m.fill cO O_ (fun h=>h.1 rfl) (by intro x hx;simp only[qJ,List.not_mem_nil,or_false] at hx;rcases hx with rfl | rfl | rfl;exact .inl rfl;exact .inr ⟨Nat.ne_of_beq_eq_false rfl,by show w.heap.size+1+1+1≠w.heap.size+1+1;omega⟩;exact .inr ⟨Nat.ne_of_beq_eq_false rfl,by show w.heap.size+1+1+1+1≠w.heap.size+1+1;omega⟩)) (fun _ _ h=>h) trivial
     simp only[ly];refine h_ (fun _ O q _ _ m n K o=>?_) (fun v7=>?_)
     ·obtain rfl:v4=_:=n 4 s_;obtain ⟨c0,k1,k2,_⟩:=m.rows 7 _ _ _ jQ;refine cK rfl 37 (.tmp 7) (.tmp 93) rfl rfl (bJ 0 0 y.dev 2 dZ 1 dd true true 0) rfl rfl 37 c0 k1 bT (by rw [k2]) (dX) ?_;exact o () undef _ (m.fill jQ O_ (fun h=>h.2.1 rfl) (by intro x hx;simp only[qJ,List.not_mem_nil,or_false] at hx;rcases hx with rfl | rfl | rfl;exact .inr ⟨Nat.ne_of_beq_eq_false rfl,by show w.heap.size+1+1≠w.heap.size+1+1+1;omega⟩;exact .inl rfl;exact .inr ⟨Nat.ne_of_beq_eq_false rfl,by show w.heap.size+1+1+1+1≠w.heap.size+1+1+1;omega⟩)) (fun _ _ h=>h) trivial
     simp only[ly];refine h_ (fun _ O q _ _ m n K o=>?_) (fun v8=>?_)
     ·obtain rfl:v5=_:=n 5 s_;obtain ⟨c0,k1,k2,_⟩:=m.rows 8 _ _ _ jB;refine cK rfl 62 (.tmp 8) (.tmp 94) rfl rfl #[I_ E,I_ H,I_ b'] rfl rfl 62 c0 k1 jI (by rw [k2]) (oO) ?_;exact o () undef _ (m.fill jB O_ (fun h=>h.2.2 rfl) (by intro x hx;simp only[qJ,List.not_mem_nil,or_false] at hx;rcases hx with rfl | rfl | rfl;exact .inr ⟨Nat.ne_of_beq_eq_false rfl,by show w.heap.size+1+1≠w.heap.size+1+1+1+1;omega⟩;exact .inr ⟨Nat.ne_of_beq_eq_false rfl,by show w.heap.size+1+1+1≠w.heap.size+1+1+1+1;omega⟩;exact .inl rfl)) (fun _ _ h=>h) trivial
     simp only[ly];refine qE fun v9=>?_;simp only[ly];refine dD ?_;intro _ O q N m hG;obtain rfl:v9=_:=hG 9 bX;have bf:=H_ (D.kept (m.kp.weak (fun k hk=>⟨hk.1.1.2.2.2.1,hk.1.1.2.2.2.2.1,hk.1.1.2.2.2.2.2⟩)) (m.kp.2 X b3 b4) (m.kp.2 gf ⟨by have:=D.o1;omega,by have:=D.o1;omega,by have:=D.o1;omega⟩ D.files.lt) (m.kp.2 gr ⟨by have:=D.o2;omega,by have:=D.o2;omega,by have:=D.o2;omega⟩ D.frames.lt));obtain ⟨c0,hR,_,hc⟩:=m.rows 6 _ _ _ cO;obtain rfl:=hc (N 6 bX);obtain ⟨c0,hQ,_,hc⟩:=m.rows 7 _ _ _ jQ;obtain rfl:=hc (N 7 bX);obtain ⟨c0,hN,_,hc⟩:=m.rows 8 _ _ _ jB;obtain rfl:=hc (N 8 bX);have ak:=m.bl;clear m hG N hc x0 x1 x2 x3 x4 x5 x6 u0 u1 u2 u3 u4 u5 u6 u7 u8 u9 i0 i1 i2 ap;go_wp2
     show bodyPost prog f22 _ _ _ _
     refine bodyPost_ret (fj_ rfl rfl rfl rfl rfl hR hQ hN rfl rfl rfl) rfl ?_;have hp:=HP.out;unfold rqC at hp;rw [<-aa.out] at hp;exact ⟨_,_,_,_,_,_,_,_,_,_,_,hp,rfl,bf.at_.weak (fun z _ hz=>hz.1.1),ak⟩
end
section
theorem LW.stable (h:LW jG w S g L) (hj:L[j]?=some y) (q s b:Int):LW jG (w.setCells g (j*15+10) [I_ q,I_ s,I_ b]) S g (L.set j {y with sseq:=q,ssize:=s,sblocks:=b}):=
 h.setPart (p:=10) hj (by show 10+3<=15;omega) (fun u a=>by simp at a;rcases a with rfl | rfl | rfl <;> rfl) (fun r c=>by
  obtain ⟨t,A,cap,d,f,i,k,rfl⟩:=c;exact ⟨t,A,cap,d,f,i,k,rfl⟩)
theorem LW.which (h:LW jG w S g L) (hj:L[j]?=some y) (v:Int):LW jG (w.setCell ⟨g,j*15+13,none⟩ (I_ v)) S g (L.set j {y with which:=v}):=
 LW.setOne (a':={y with which:=v}) (p:=13) h hj O_ rfl (fun r hr=>by
  obtain ⟨t,A,cap,k1,k2,k3,k4,rfl⟩:=hr;exact ⟨t,A,cap,k1,k2,k3,k4,rfl⟩)
theorem LW.fl_st (h:LW jG w S g L) (hj:L[j]?=some y):w.cell? ⟨g,j*15+10,none⟩=some (I_ y.sseq)/\w.cell? ⟨g,j*15+11,none⟩=some (I_ y.ssize)/\w.cell? ⟨g,j*15+12,none⟩=some (I_ y.sblocks)/\w.cell? ⟨g,j*15+13,none⟩=some (I_ y.which)/\w.cell? ⟨g,j*15+14,none⟩=some (I_ y.seq):=by
 obtain ⟨r,⟨t,A,cap,k1,k2,k3,k4,rfl⟩,hc⟩:=h.at_ hj;exact ⟨hc 10 _ rfl,hc 11 _ rfl,hc 12 _ rfl,hc 13 _ rfl,hc 14 _ rfl⟩
def cmb (y:Fl) (q s b wh:Int) (d1 d2:Bool):Fl:=⟨y.dev,y.slot,y.c,y.size,y.blocks,y.ecnt,y.eerr,if d1 then q else y.sseq,if d1 then s else y.ssize,if d1 then b else y.sblocks,if d2 then wh else y.which,y.seq⟩
def dV_ (y:Fl) (j:Nat) (q s b:Int):Bool:=lN q s b j != 0||(decide (q<=y.sseq)||decide (y.seq<q))
def qL (C:Ck) (j:Nat) (y:Fl) (q s b k:Int) (C':Ck) (err:Int):Prop:=
 if k≠0 then C'=C/\err=0 else if dV_ y j q s b=true then C'=C/\err=1 else C'={C with files:=C.files.set j (cmb y q s b (1 - y.which) true true)}/\err=0
def km_ (gf j:Nat) (A:Value) (wh:Int):Nat->Value->Prop
 | 0,v=>v = .pointer (some ⟨gf,j*15,none⟩)
 | 1,v=>v = .pointer (some ⟨gf,j*15,none⟩)
 | 2,v=>v=A
 | 3,v=>v = .pointer (some ⟨gf,j*15,none⟩)
 | 4,v=>v = .pointer (some ⟨gf,j*15,none⟩)
 | 5,v=>v = .pointer (some ⟨gf,j*15+13,none⟩)
 | 6,v=>v = I_ wh
 | 7,v=>v = I_ (1 - wh)
 | 8,v=>v = .pointer (some ⟨gf,j*15,none⟩)
 | 9,v=>v = .pointer (some ⟨gf,j*15+10,none⟩)
 | 10,_=>True
 | 11,v=>v = .pointer (some ⟨gf,j*15,none⟩)
 | 12,v=>v = .pointer (some ⟨gf,j*15+13,none⟩)
 | _+13,_=>True
def tE (w:World) (l:List (Nat × Obj)) (P:Bool->Bool->World->Prop) (d:Nat->Bool) (wx:World):Prop:=St w l wx/\P (d 10) (d 13) wx
theorem tE.more {i:Nat} (h:tE w l P d wx) (h1:(10 == i)=false) (h2:(13 == i)=false):tE w l P (Y_ d i) wx:=by
 refine ⟨h.1,?_⟩;rw [F_ h1,F_ h2];exact h.2
theorem tE.a (hs:St w l wx) (h:P true (d 13) wx):tE w l P (Y_ d 10) wx:=by
 refine ⟨hs,?_⟩;rw [cF,F_ (i:=10) (j:=13) rfl];exact h
theorem tE.b (hs:St w l wx) (h:P (d 10) true wx):tE w l P (Y_ d 13) wx:=by
 refine ⟨hs,?_⟩;rw [cF,F_ (i:=13) (j:=10) rfl];exact h
theorem yJ (j:Nat) (y:Fl) (q s b k:Int) {a1 a2 a3 a4 a5 a6 a7:Value} (h:x_ w S a1 a2 a3 a4 a5 a6 a7 C) (ok:lS C) (hj:C.files[j]?=some y) (hwh:0<=y.which/\y.which<2) (hS:∀z,w.heap.size<=z->S z) :
  C_ 26 #[cI a1 a2 a3 a4 a5 a6 a7,I_ (j:Int),qY q s b,I_ k] w (gC (qL C j y q s b k) S w):=by
 have ax:=fun w' (hb:q_ w w') (hlt:w.heap.size+1+1<w'.heap.size)=>vT C a1 a2 a3 a4 a5 a6 a7 (S5e S (w)) w' ((h.weak (fun z hz hs=>⟨hs,O_,O_,O_⟩)).step hb) ok (fun z hz=>⟨hS z O_,O_,O_,O_⟩);have ad:=bK hj;have ae:=fun w' (hb:q_ w w')=>gU j (h.step hb);rw [show (decide (0<=(j:Int))&&decide ((j:Int)<(C.files.length:Int)))=true by simp;omega] at ae;obtain ⟨er,ac⟩:=aZ (lN q s b j);have ab:=fun w'=>zZ q s b j w';rw [<-ac] at ab;have bb:C.files.length<=100:=ok.ok.files.2;obtain ⟨M,c1,rfl,q1,q2⟩:=h.files.form;obtain ⟨N,m2,c2,rfl⟩:=h.frames.cap;obtain ⟨O,m3,c3,P,m4,c4,Q,m5,c5,R,m6,c6,U,m7,c7,rfl,rfl,rfl,rfl,rfl⟩:=x_.caps5 h;obtain ⟨HJ,b3,b1⟩:=eT hj hwh ac;have j2:(j:Int)<(C.files.length:Int):=O_
 have j0:(0:Int)<=(j:Int):=O_
 clear h ok hj hwh ac q1 q2;have HS:=H_ (show St w [(w.heap.size,.cells (E_ M C.files.length c1 N m2 c2 O m3 c3 P m4 c4 Q m5 c5 R m6 c6 U m7 c7) 30 (0,0)),(w.heap.size+1,.cells #[I_ q,I_ s,I_ b] 62 (0,0)),(w.heap.size+1+1,cG)] (((w.alloc (.cells (E_ M C.files.length c1 N m2 c2 O m3 c3 P m4 c4 Q m5 c5 R m6 c6 U m7 c7) 30)).alloc (.cells #[I_ q,I_ s,I_ b] 62)).alloc (cG)) from ((St.nil w).push _ _ rfl).push _ (w+1) z_ |>.push _ (w+1+1) z_);unfold qY;go_enter func26,ntmps26
 go_upto_region 1 with fail
 generalize ((w.alloc (.cells (E_ M C.files.length c1 N m2 c2 O m3 c3 P m4 c4 Q m5 c5 R m6 c6 U m7 c7) 30)).alloc (.cells #[I_ q,I_ s,I_ b] 62)).alloc (cG)=V at HS;have ak:=HS.bk _ _ cO;have ar:w.heap.size+1+1<V.heap.size:=p_ (HS.bk _ _ jB);obtain ⟨x0,x1,x2,x3,x4,x5,x6⟩:=aF ak
 go_upto_region 2 with (go_at_call 42;refine CM (ax _ HS.below ar) ?_;rintro e w1 ⟨X,gf,nf,cf,gr,nr,cr,c',d',e',f',g',rfl,hB,au⟩)
 have J:=H_ (HS.step au);have a0:=H_ hB;obtain ⟨B1,am⟩:=aZ V.heap.size;rw [<-am] at a0 ar;obtain ⟨W,e3,k3,rfl⟩:=hB.zones.cap;obtain ⟨Y,e4,k4,rfl⟩:=hB.groups.cap;obtain ⟨E5,e5,k5,rfl⟩:=hB.lists.cap;obtain ⟨E6,e6,k6,rfl⟩:=hB.clocks.cap;obtain ⟨E7,e7,k7,rfl⟩:=hB.ptes.cap;clear x0 x1 x2 x3 x4 x5 x6 ak hB au HS am ax;have al:=J.bk _ _ cO;obtain ⟨x0,x1,x2,x3,x4,x5,x6⟩:=aF al
 go_upto_region 4 with (go_at_call 73;refine CM (ae _ J.below) ?_;rintro e w2 ⟨rfl,a8⟩;have I:=H_ (J.step a8);have D:=H_ (a0.step a8))
 clear x0 x1 x2 x3 x4 x5 x6 al a8 J a0 ae
 by_cases hk:k=0
 ·subst hk;have r:=D.box;have x0:=xV r;have j3:(j:Int)<(nf:Int):=by have:=D.ef;omega
  have ah:=I.bk _ _ jQ;obtain ⟨i0,i1,i2⟩:=cL ah
  go_upto_region 8 with (go_at_call 78;refine CM (ab _) ?_;rintro e w3 ⟨rfl,a9⟩;have G:=H_ (I.step a9);have E:=H_ (D.step a9))
  clear x0 r i0 i1 i2 ah I D a9 ab;have ai:=G.bk _ _ jQ;obtain ⟨i0,i1,i2⟩:=cL ai;obtain ⟨b7,b8,b9,az,ba⟩:=E.files.fl_st HJ.out;obtain ⟨bd,o⟩:=aZ ((er != 0||(decide (q<=y.sseq)||decide (y.seq<q))));have ag:=H_ (show dV_ y j q s b=bd by rw [o,b1.out];rfl)
  go_cut [63] from 43 to 62 (fun s63 wx=>s63 = .bool bd/\St w [(w.heap.size,.cells (E_ M C.files.length c1 N m2 c2 O m3 c3 P m4 c4 Q m5 c5 R m6 c6 U m7 c7) 30 (0,0)),(w.heap.size+1,.cells #[I_ q,I_ s,I_ b] 62 (0,0)),(w.heap.size+1+1,cG)] wx/\Bd wx (S5e S (w)) B1 X gf nf cf gr nr cr (S_ W e3 k3) (S_ Y e4 k4) (S_ E5 e5 k5) (S_ E6 e6 k6) (S_ E7 e7 k7) C)
  case first=>
   by_cases h1:er=0
   ·by_cases h2:q<=y.sseq
    ·rw [h1,dT h2] at o;subst h1;subst o
     go_region
     go_wp2;go_meet
     case rel=>exact ⟨rfl,G.step B_.drew,E.step B_.drew⟩
    ·by_cases h3:y.seq<q
     ·rw [h1,dF h2,dT h3] at o;subst h1;subst o
      go_region
      go_wp2;go_meet
      case rel=>exact ⟨rfl,G.step B_.drew,E.step B_.drew⟩
     ·rw [h1,dF h2,dF h3] at o;subst h1;subst o
      go_region
      go_wp2;go_meet
      case rel=>exact ⟨rfl,G.step B_.drew,E.step B_.drew⟩
   ·have b4:(er != 0)=true:=bne_iff_ne.2 h1;rw [b4] at o;simp only[Bool.true_or] at o;subst o
    go_region
    go_wp2;go_meet
    case rel=>exact ⟨rfl,G.step B_.drew,E.step B_.drew⟩
  case rest=>
   obtain ⟨rfl,ap,an⟩:=hcut;have L:=H_ ap;have F:=H_ an;clear ap an G E b7 b8 b9 az ba i0 i1 i2 ai o
   cases bd with
   | true=>
    have HP:=H_ (show qL C j y q s b 0 C 1 by unfold qL;rw [if_neg z_,if_pos ag.out];exact ⟨rfl,rfl⟩);have r:=F.box;obtain ⟨x0,x1,x2,x3,x4,x5,x6⟩:=aF r;have t:=L.bk _ _ jB
    go_wp2_with (refine aJ rfl (.tmp 8) (.tmp 67) rfl rfl rfl rfl t rfl ?_)
    show bodyPost prog f26 _ _ _ _
    refine bodyPost_ret (bQ rfl rfl rfl (setRow_heap _ _ _ _ _ _ t)) rfl ?_;refine ⟨_,_,_,_,_,_,_,_,_,?_,rfl,(F.boxRow (Z:=w.heap.size+1+1) O_ (fun h=>h.2.2.2 rfl) (E_ (o_ gf) nf cf (o_ gr) nr cr W e3 k3 Y e4 k4 E5 e5 k5 E6 e6 k6 E7 e7 k7)).at_.weak (fun z _ hz=>hz.1),j_ L.below O_ _⟩;exact HP
   | false=>
    have aw:∀(g':Nat) (ob:Obj),(g',ob) ∈ ([(w.heap.size,.cells (E_ M C.files.length c1 N m2 c2 O m3 c3 P m4 c4 Q m5 c5 R m6 c6 U m7 c7) 30 (0,0)),(w.heap.size+1,.cells #[I_ q,I_ s,I_ b] 62 (0,0)),(w.heap.size+1+1,cG)]:List (Nat × Obj))->g'<B1:=fun g' ob hm=>by
     simp only[qJ,List.not_mem_nil,or_false,Prod.mk.injEq] at hm
     rcases hm with ⟨rfl,_⟩ | ⟨rfl,_⟩ | ⟨rfl,_⟩ <;> omega
    have ay:w.heap.size<=B1:=O_
    have b6:=fA (x:=1 - y.which) (by have:=b3.out;omega)
    rename World=>V4
    go_upto_region 10 with fail
    go_cut [] from 68 to 79 (fun wx=>St w [(w.heap.size,.cells (E_ M C.files.length c1 N m2 c2 O m3 c3 P m4 c4 Q m5 c5 R m6 c6 U m7 c7) 30 (0,0)),(w.heap.size+1,.cells #[I_ q,I_ s,I_ b] 62 (0,0)),(w.heap.size+1+1,cG)] wx/\Bd wx (S5e S (w)) B1 X gf nf cf gr nr cr (S_ W e3 k3) (S_ Y e4 k4) (S_ E5 e5 k5) (S_ E6 e6 k6) (S_ E7 e7 k7) {C with files:=C.files.set j (cmb y q s b (1 - y.which) true true)})
    case first=>
     have b0:tE w [(w.heap.size,.cells (E_ M C.files.length c1 N m2 c2 O m3 c3 P m4 c4 Q m5 c5 R m6 c6 U m7 c7) 30 (0,0)),(w.heap.size+1,.cells #[I_ q,I_ s,I_ b] 62 (0,0)),(w.heap.size+1+1,cG)] (fun d1 d2 wx=>Bd wx (S5e S (w)) B1 X gf nf cf gr nr cr (S_ W e3 k3) (S_ Y e4 k4) (S_ E5 e5 k5) (S_ E6 e6 k6) (S_ E7 e7 k7) {C with files:=C.files.set j (cmb y q s b (1 - y.which) d1 d2)}) (fun _=>false) {V4 with drawn:=V4.drawn+1}:=⟨L.step B_.drew,by
      show Bd V4.drew (S5e S (w)) B1 X gf nf cf gr nr cr (S_ W e3 k3) (S_ Y e4 k4) (S_ E5 e5 k5) (S_ E6 e6 k6) (S_ E7 e7 k7) {C with files:=C.files.set j y}
      rw [vA HJ.out];exact F.step B_.drew⟩
     refine bU (Γ:=Unit) 84 13 (fun i=>decide (i<=12)) (fun _ d wx=>tE w [(w.heap.size,.cells (E_ M C.files.length c1 N m2 c2 O m3 c3 P m4 c4 Q m5 c5 R m6 c6 U m7 c7) 30 (0,0)),(w.heap.size+1,.cells #[I_ q,I_ s,I_ b] 62 (0,0)),(w.heap.size+1+1,cG)] (fun d1 d2 wx=>Bd wx (S5e S (w)) B1 X gf nf cf gr nr cr (S_ W e3 k3) (S_ Y e4 k4) (S_ E5 e5 k5) (S_ E6 e6 k6) (S_ E7 e7 k7) {C with files:=C.files.set j (cmb y q s b (1 - y.which) d1 d2)}) d wx) (fun _ k v _=>km_ gf j (.agg #[I_ q,I_ s,I_ b]) y.which k v) () s_ s_ rfl b0 (fun ii oo H f _ v _ hg=>by
      match ii with
      | 0=>obtain rfl:=aP H;cases f
      | 1=>obtain rfl:=aP H;cases f
      | 2=>obtain rfl:=aP H;cases f
      | 3=>obtain rfl:=aP H;cases f
      | 4=>obtain rfl:=aP H;cases f
      | 5=>obtain rfl:=aP H;cases f
      | 6=>obtain rfl:=aP H;cases f
      | 7=>obtain rfl:=aP H;cases f
      | 8=>obtain rfl:=aP H;cases f
      | 9=>obtain rfl:=aP H;cases f
      | 10=>trivial
      | 11=>obtain rfl:=aP H;cases f
      | 12=>obtain rfl:=aP H;cases f
      | _+13=>trivial) ?_
     refine h_ (fun _ B u m g c f K l=>?_) (fun v0=>?_)
     ·skip
      go_simp;exact l () _ _ (tE.more (i:=0) c rfl rfl) (fun _ _ h=>h) rfl
     simp only[ly];refine h_ (fun _ B u m g c f K l=>?_) (fun v1=>?_)
     ·skip
      go_simp;exact l () _ _ (tE.more (i:=1) c rfl rfl) (fun _ _ h=>h) rfl
     simp only[ly];refine h_ (fun _ B u m g c f K l=>?_) (fun v2=>?_)
     ·have b2:=c.1.bk _ _ jQ;obtain ⟨i0,i1,i2⟩:=cL b2;go_simp;exact l () _ _ (tE.more (i:=2) c rfl rfl) (fun _ _ h=>h) rfl
     simp only[ly];refine h_ (fun _ B u m g c f K l=>?_) (fun v3=>?_)
     ·skip
      go_simp;exact l () _ _ (tE.more (i:=3) c rfl rfl) (fun _ _ h=>h) rfl
     simp only[ly];refine h_ (fun _ B u m g c f K l=>?_) (fun v4=>?_)
     ·obtain rfl:v3=_:=f 3 s_;go_simp;exact l () _ _ (tE.more (i:=4) c rfl rfl) (fun _ _ h=>h) rfl
     simp only[ly];refine h_ (fun _ B u m g c f K l=>?_) (fun v5=>?_)
     ·obtain rfl:v4=_:=f 4 s_;go_simp;exact l () _ _ (tE.more (i:=5) c rfl rfl) (fun _ _ h=>h) rfl
     simp only[ly];refine h_ (fun _ B u m g c f K l=>?_) (fun v6=>?_)
     ·obtain rfl:v5=_:=f 5 s_;have av:B 13=false:=by
       cases hh:B 13 with
       | false=>rfl
       | true=>have:=g hh;cases this
      have az:u.cell? ⟨gf,j*15+13,none⟩=some (I_ y.which):=by
       have:=(c.2.files.fl_st (nU ad)).2.2.2.1;rw [av] at this;exact this
      go_simp;exact l () _ _ (tE.more (i:=6) c rfl rfl) (fun _ _ h=>h) rfl
     simp only[ly];refine h_ (fun _ B u m g c f K l=>?_) (fun v7=>?_)
     ·obtain rfl:v6=_:=f 6 s_;go_simp;exact l () _ _ (tE.more (i:=7) c rfl rfl) (fun _ _ h=>h) rfl
     simp only[ly];refine h_ (fun _ B u m g c f K l=>?_) (fun v8=>?_)
     ·obtain rfl:v0=_:=f 0 s_;go_simp;exact l () _ _ (tE.more (i:=8) c rfl rfl) (fun _ _ h=>h) rfl
     simp only[ly];refine h_ (fun _ B u m g c f K l=>?_) (fun v9=>?_)
     ·obtain rfl:v8=_:=f 8 s_;go_simp;exact l () _ _ (tE.more (i:=9) c rfl rfl) (fun _ _ h=>h) rfl
     simp only[ly];refine h_ (fun _ B u m g c f K l=>?_) (fun v10=>?_)
     ·obtain rfl:v9=_:=f 9 s_;obtain rfl:v2=_:=f 2 s_;have b5:=c.2.files.there (i:=j) (p:=10) (n:=3) (by simp;omega) O_;refine aO (ops:=#[]) rfl (pF rfl 62 (.tmp 77) (.tmp 70) rfl gf (j*15+10) #[I_ q,I_ s,I_ b] rfl rfl b5 jI (oO) ?_);have A:=c.2.putFiles (J_ u gf (j*15+10) [I_ q,I_ s,I_ b]) (c.2.files.stable (nU ad) q s b) z_;refine l () undef _ (tE.a (c.1.grown (J_ u gf (j*15+10) [I_ q,I_ s,I_ b]) (fun k e=>by cases e;exact F.o1) aw ay) ?_) (fun _ _ h=>h) trivial;rw [List.set_set] at A;exact A
     simp only[ly];refine h_ (fun _ B u m g c f K l=>?_) (fun v11=>?_)
     ·obtain rfl:v1=_:=f 1 s_;go_simp;exact l () _ _ (tE.more (i:=11) c rfl rfl) (fun _ _ h=>h) rfl
     simp only[ly];refine h_ (fun _ B u m g c f K l=>?_) (fun v12=>?_)
     ·obtain rfl:v11=_:=f 11 s_;go_simp;exact l () _ _ (tE.more (i:=12) c rfl rfl) (fun _ _ h=>h) rfl
     simp only[ly];refine h_ (fun _ B u m g c f K l=>?_) (fun v13=>?_)
     ·obtain rfl:v12=_:=f 12 s_;obtain rfl:v7=_:=f 7 s_;obtain ⟨⟨u',hu⟩,bc⟩:=c.2.files.slot (i:=j) (by simp;omega) (p:=13) O_;go_simp;have A:=c.2.putFiles (v_ u ⟨gf,j*15+13,none⟩ (I_ (1 - y.which))) (c.2.files.which (nU ad) (1 - y.which)) z_;refine l () undef _ (tE.b (c.1.grown (v_ u ⟨gf,j*15+13,none⟩ (I_ (1 - y.which))) (fun k e=>by cases e;exact F.o1) aw ay) ?_) (fun _ _ h=>h) trivial;rw [List.set_set] at A;exact A
     simp only[ly];refine dD ?_;intro _ B u aa c _;have h1:=c.1;have h2:=c.2;rw [aa 10 bX,aa 13 bX] at h2;clear c aa;go_wp2;go_meet
     case rel=>exact ⟨h1,h2⟩
    case rest=>
     obtain ⟨aq,ao⟩:=hcut;have aj:=H_ aq;have af:=H_ ao;clear aq ao L F b6;have HP:=H_ (show qL C j y q s b 0 {C with files:=C.files.set j (cmb y q s b (1 - y.which) true true)} 0 by unfold qL;rw [if_neg z_,if_neg (by rw [ag.out];simp)];exact ⟨rfl,rfl⟩)
     have r:=af.box;obtain ⟨x0,x1,x2,x3,x4,x5,x6⟩:=aF r;have t:=aj.bk _ _ jB
     go_wp2_with (refine aJ rfl (.tmp 8) (.tmp 83) rfl rfl rfl rfl t rfl ?_)
     show bodyPost prog f26 _ _ _ _
     refine bodyPost_ret (bQ rfl rfl rfl (setRow_heap _ _ _ _ _ _ t)) rfl ?_;refine ⟨_,_,_,_,_,_,_,_,_,?_,rfl,(af.boxRow (Z:=w.heap.size+1+1) O_ (fun h=>h.2.2.2 rfl) (E_ (o_ gf) nf cf (o_ gr) nr cr W e3 k3 Y e4 k4 E5 e5 k5 E6 e6 k6 E7 e7 k7)).at_.weak (fun z _ hz=>hz.1),j_ aj.below O_ _⟩;exact HP
 ·have d3:(k != 0)=true:=bne_iff_ne.2 hk;have HP:=H_ (show qL C j y q s b k C 0 by unfold qL;rw [if_pos hk];exact ⟨rfl,rfl⟩);clear hk;have r:=D.box;obtain ⟨x0,x1,x2,x3,x4,x5,x6⟩:=aF r;have t:=I.bk _ _ jB
  go_wp2_with (refine aJ rfl (.tmp 8) (.tmp 29) rfl rfl rfl rfl t rfl ?_)
  show bodyPost prog f26 _ _ _ _
  refine bodyPost_ret (bQ rfl rfl rfl (setRow_heap _ _ _ _ _ _ t)) rfl ?_;refine ⟨_,_,_,_,_,_,_,_,_,?_,rfl,(D.boxRow (Z:=w.heap.size+1+1) O_ (fun h=>h.2.2.2 rfl) (E_ (o_ gf) nf cf (o_ gr) nr cr W e3 k3 Y e4 k4 E5 e5 k5 E6 e6 k6 E7 e7 k7)).at_.weak (fun z _ hz=>hz.1),j_ I.below O_ _⟩;exact HP
end
section
theorem h1_ (a:Option Addr) (n c:Nat) (h:4<=n) (w:World):(Instr.arrayAt 198 (S_ a n c)).run prog w = .ok (.pointer a) w:=
 run_arrayAt w 198 5 4 a n c underlying198 h
def mN (a b c d:UInt8) (cap:Nat):Array Value:=bytesRow ⟨#[a,b,c,d]⟩ cap
theorem jL (a b c d:UInt8) (cap:Nat):(mN a b c d cap)[0]?=some (.int .u8 a.toNat)/\(mN a b c d cap)[1]?=some (.int .u8 b.toNat)/\(mN a b c d cap)[2]?=some (.int .u8 c.toNat)/\(mN a b c d cap)[3]?=some (.int .u8 d.toNat):=
 ⟨bytesRow_at ⟨#[a,b,c,d]⟩ cap 0 z_,bytesRow_at ⟨#[a,b,c,d]⟩ cap 1 z_,bytesRow_at ⟨#[a,b,c,d]⟩ cap 2 z_,bytesRow_at ⟨#[a,b,c,d]⟩ cap 3 z_⟩
def dU (w:World):Nat:=grownCap w 4 0 5
theorem wD (a b c d:UInt8) (w:World):(convert 9 77 (.string ⟨#[a,b,c,d]⟩)).run prog w = .ok (S_ (some ⟨w,0,none⟩) 4 (dU w)) (w.drew.alloc (.cells (mN a b c d (dU w)) 5 ((mN a b c d (dU w)).size,(mN a b c d (dU w)).size+1))):=
 run_bytes_of_string w 9 77 5 ⟨#[a,b,c,d]⟩ underlying9 underlying77 underlying5
theorem d5_ (w:World) (C:Array Value) (t:TypeId) (fr:Nat × Nat) (n j:Nat) (h:w.heap.size=n):(w.alloc (.cells C t fr)).cell? ⟨n,j,none⟩=C[j]?:=by
 subst h;exact World.cell?_alloc_mark w C t fr j
theorem ii_ (a b c d e g h i:UInt8):(⟨#[a,b,c,d]⟩:ByteArray)=(⟨#[a,b,c,d,e,g,h,i]⟩:ByteArray).extract 0 4:=by rfl
theorem ih_ (a b c d e g h i:UInt8):(⟨#[e,g,h,i]⟩:ByteArray)=(⟨#[a,b,c,d,e,g,h,i]⟩:ByteArray).extract 4 8:=by rfl
theorem eg_ (a b c d e g h i:UInt8) (f:Int) (w:World) (h1:0<=f) (h2:f<8):C_ 148 #[.string (dZ a b c d e g h i),I_ f] w (dM_ (ok8 a b c d e g h i f) (((a.toNat:Nat):Int)*256+b.toNat) c.toNat d.toNat w):=by
 have hd:decide (0<=f/\f<8)=true:=by simp;omega
 unfold dZ;go_enter func148,ntmps148
 go_upto_region 3 with (go_at_call 141;(with_reducible refine CM (sU) ?_);rintro e w2 ⟨rfl,rfl⟩)
 have J:=wD a b c d;have L:=wD e g h i;simp only[show (convert 9 77 (.string ⟨#[a,b,c,d]⟩))=convert 9 77 (.string ((⟨#[a,b,c,d,e,g,h,i]⟩:ByteArray).extract 0 4)) from by rw [<-ii_]] at J;simp only[show (convert 9 77 (.string ⟨#[e,g,h,i]⟩))=convert 9 77 (.string ((⟨#[a,b,c,d,e,g,h,i]⟩:ByteArray).extract 4 8)) from by rw [<-ih_]] at L;have G:=d5_;have ha:=fun a c w=>h1_ a 4 c O_ w;obtain ⟨O,P,Q,R⟩:(∀k,(mN a b c d k)[0]?=some (.int .u8 a.toNat))/\(∀k,(mN a b c d k)[1]?=some (.int .u8 b.toNat))/\(∀k,(mN a b c d k)[2]?=some (.int .u8 c.toNat))/\(∀k,(mN a b c d k)[3]?=some (.int .u8 d.toNat)):=
  ⟨fun k=>(jL a b c d k).1,fun k=>(jL a b c d k).2.1,fun k=>(jL a b c d k).2.2.1,fun k=>(jL a b c d k).2.2.2⟩
 obtain ⟨M,N,S,U⟩:(∀k,(mN e g h i k)[0]?=some (.int .u8 e.toNat))/\(∀k,(mN e g h i k)[1]?=some (.int .u8 g.toNat))/\(∀k,(mN e g h i k)[2]?=some (.int .u8 h.toNat))/\(∀k,(mN e g h i k)[3]?=some (.int .u8 i.toNat)):=
  ⟨fun k=>(jL e g h i k).1,fun k=>(jL e g h i k).2.1,fun k=>(jL e g h i k).2.2.1,fun k=>(jL e g h i k).2.2.2⟩
 generalize mN a b c d=R1 at J O P Q R;generalize mN e g h i=R2 at L M N S U
 go_cut [6,7] (fun s t wx=>∃B C,s = P_ B/\t = P_ C/\aW wx B (nM a b c d) 198/\aW wx C (nM e g h i) 198/\
  aW wx (w) #[I_ 0,I_ 0,I_ 0] 62/\q_ w wx)
 case first=>
  have r:(w.alloc (.cells #[I_ 0,I_ 0,I_ 0] 62)).heap[w.heap.size]?=some (.cells #[I_ 0,I_ 0,I_ 0] 62 (0,0)):=heap_alloc_new _ _;have p:q_ w (w.alloc (.cells #[I_ 0,I_ 0,I_ 0] 62)):=B_.alloc (aQ _) _;have q:w.heap.size<(w.alloc (.cells #[I_ 0,I_ 0,I_ 0] 62)).heap.size:=z_
  generalize w.alloc _=W at r p q;obtain ⟨E,A,F⟩:=eT r p q;clear r p q
  go_region
  all_goals go_wp2
  all_goals go_meet
  all_goals
   have q:=F.out;have p:=A.out;refine ⟨_,_,rfl,rfl,?_,?_,?_,?_⟩
   ·unfold nM
    repeat (with_reducible first | exact bS (by first | assumption | (simp;done) | (simp;omega)) | refine (qW).trans ?_ | refine (cX (by first | assumption | (simp;done) | (simp;omega))).trans ?_)
   ·unfold nM
    repeat (with_reducible first | exact bS (by first | assumption | (simp;done) | (simp;omega)) | refine (qW).trans ?_ | refine (cX (by first | assumption | (simp;done) | (simp;omega))).trans ?_)
   ·repeat (with_reducible first | exact E.out | refine (qW).trans ?_ | refine (cX (by first | assumption | (simp;done) | (simp;omega))).trans ?_)
   ·repeat (with_reducible first | exact p | apply Below.drew | refine b_ ?_ _)
 case rest=>
  clear J L ha G O P Q R M N S U;obtain ⟨B,C,rfl,rfl,j,o,l,x⟩:=hcut;have b0:=(a_ j 0).trans (show (nM a b c d)[0]?=some (.int .u8 a.toNat) from rfl);have b1:=(a_ j 1).trans (show (nM a b c d)[1]?=some (.int .u8 b.toNat) from rfl);have b2:=(a_ j 2).trans (show (nM a b c d)[2]?=some (.int .u8 c.toNat) from rfl);have b3:=(a_ j 3).trans (show (nM a b c d)[3]?=some (.int .u8 d.toNat) from rfl);have a8:=sL a;have b8:=sL b;have c8:=sL c;have d8:=sL d;have ho:=eY_ a b
  go_upto_region 4 with fail
  go_cut [8] (fun s wx=>∃D,s = P_ D/\aW wx D #[I_ ((a.toNat:Int)*256+b.toNat),I_ c.toNat,I_ d.toNat] 62/\aW wx B (nM a b c d) 198/\aW wx C (nM e g h i) 198/\
   aW wx (w) #[I_ 0,I_ 0,I_ 0] 62/\q_ w wx)
  case first=>
   go_wp2;go_meet
   case rel=>exact ⟨_,rfl,heap_alloc_new _ _,(Below.heap_alloc _ _ _ (Array.getElem?_eq_some_iff.1 j).1).trans j,(Below.heap_alloc _ _ _ (Array.getElem?_eq_some_iff.1 o).1).trans o,(Below.heap_alloc _ _ _ (Array.getElem?_eq_some_iff.1 l).1).trans l,b_ x _⟩
  case rest=>
   clear b0 b1 b2 b3 ho j o l x;obtain ⟨D,rfl,n,j,o,l,x⟩:=hcut
   go_upto_region 5 with fail
   go_cut [58] (fun s wx=>s = .bool (!ok8 a b c d e g h i f)/\aW wx D #[I_ ((a.toNat:Int)*256+b.toNat),I_ c.toNat,I_ d.toNat] 62/\
    aW wx (w) #[I_ 0,I_ 0,I_ 0] 62/\q_ w wx)
   case first=>
    have x0:∀z,(ext wc z).cell? ⟨B,0,none⟩=some (.int .u8 a.toNat):=fun z=>(aG wc z B 0 (Array.getElem?_eq_some_iff.1 j).1).trans (a_ j 0);have x1:∀z,(ext wc z).cell? ⟨B,1,none⟩=some (.int .u8 b.toNat):=fun z=>(aG wc z B 1 (Array.getElem?_eq_some_iff.1 j).1).trans (a_ j 1);have x2:∀z,(ext wc z).cell? ⟨B,2,none⟩=some (.int .u8 c.toNat):=fun z=>(aG wc z B 2 (Array.getElem?_eq_some_iff.1 j).1).trans (a_ j 2);have x3:∀z,(ext wc z).cell? ⟨B,3,none⟩=some (.int .u8 d.toNat):=fun z=>(aG wc z B 3 (Array.getElem?_eq_some_iff.1 j).1).trans (a_ j 3);have y0:∀z,(ext wc z).cell? ⟨C,0,none⟩=some (.int .u8 e.toNat):=fun z=>(aG wc z C 0 (Array.getElem?_eq_some_iff.1 o).1).trans (a_ o 0);have y1:∀z,(ext wc z).cell? ⟨C,1,none⟩=some (.int .u8 g.toNat):=fun z=>(aG wc z C 1 (Array.getElem?_eq_some_iff.1 o).1).trans (a_ o 1);have y2:∀z,(ext wc z).cell? ⟨C,2,none⟩=some (.int .u8 h.toNat):=fun z=>(aG wc z C 2 (Array.getElem?_eq_some_iff.1 o).1).trans (a_ o 2);have y3:∀z,(ext wc z).cell? ⟨C,3,none⟩=some (.int .u8 i.toNat):=fun z=>(aG wc z C 3 (Array.getElem?_eq_some_iff.1 o).1).trans (a_ o 3);have z0:∀z,(ext wc z).cell? ⟨D,0,none⟩=some (I_ ((a.toNat:Int)*256+b.toNat)):=fun z=>(aG wc z D 0 (Array.getElem?_eq_some_iff.1 n).1).trans (a_ n 0);have z1:∀z,(ext wc z).cell? ⟨D,1,none⟩=some (I_ c.toNat):=fun z=>(aG wc z D 1 (Array.getElem?_eq_some_iff.1 n).1).trans (a_ n 1);have z2:∀z,(ext wc z).cell? ⟨D,2,none⟩=some (I_ d.toNat):=fun z=>(aG wc z D 2 (Array.getElem?_eq_some_iff.1 n).1).trans (a_ n 2);have H:=ev_ (nW a f) (nW b f) (nW c f) (nW d f) e g h i;have u:ok8 a b c d e g h i f=((nW a f == e&&nW b f == g&&nW c f == h&&nW d f == i)&&zB ((a.toNat:Int)*256+b.toNat) c.toNat d.toNat):=by
     unfold ok8
     congr 1
     rw [Bool.eq_iff_iff];simp [zB];omega
    generalize hm:(nW a f == e&&nW b f == g&&nW c f == h&&nW d f == i)=m at H u;have Z:=H_ u;clear hm u;refine y_ s_ s_ ?_
    cases m
    all_goals iterate 10 (refine wpQuiet_step (fun K y=>?_);go_simp;first | (refine y _ ?_;clear y K) | (apply Exists.intro;refine ⟨fun _=>?_,y _ ?_⟩;(first | (with_reducible exact aB (aJ_ h1 h2)) | (with_reducible exact aB (iR)));clear y K))
    all_goals refine wpQuiet_nil ?_
    all_goals intro w' I
    all_goals obtain ⟨z,rfl⟩:=I
    all_goals go_wp2
    all_goals go_meet
    all_goals exact ⟨by rw [Z.out];simp,(mV _ _ _ (Array.getElem?_eq_some_iff.1 n).1).trans n,(mV _ _ _ (Array.getElem?_eq_some_iff.1 l).1).trans l,d_ x (n_ _ _)⟩
   case rest=>
    clear n j o l x;obtain ⟨rfl,n,l,x⟩:=hcut;have z0:wc.cell? ⟨D,0,none⟩=some (I_ ((a.toNat:Int)*256+b.toNat)):=a_ n 0;have z1:wc.cell? ⟨D,1,none⟩=some (I_ c.toNat):=a_ n 1;have z2:wc.cell? ⟨D,2,none⟩=some (I_ d.toNat):=a_ n 2;have V:wc.cell? ⟨w,0,none⟩=some (I_ 0):=a_ l 0;have X:wc.cell? ⟨w,1,none⟩=some (I_ 0):=a_ l 1;have Y:wc.cell? ⟨w,2,none⟩=some (I_ 0):=a_ l 2;have q0:=t_ l 0;have M:=t_ l 1;have N:=t_ l 2;clear n l
    cases hok:ok8 a b c d e g h i f
    all_goals go_wp2
    ·refine bodyPost_ret (v:= .tuple #[.agg #[I_ 0,I_ 0,I_ 0],.bool false]) (by simp [results,results148,go_sem,V,X,Y]) rfl ⟨by simp [hok],by (repeat (with_reducible first | assumption | exact aI _ _ | refine b_ ?_ _ | apply Below.drew | refine below_drewN ?_ _ | (apply cW;assumption) | (refine rN ?_ (aQ _) _) | (refine rN ?_ (by first | omega | (simp;done) | (go_simp;done)) _)))⟩
    ·refine bodyPost_ret (v:= .tuple #[.agg #[I_ ((a.toNat:Int)*256+b.toNat),I_ c.toNat,I_ d.toNat],.bool true]) (by simp [results,results148,go_sem,V,X,Y]) rfl ⟨by simp [hok],by (repeat (with_reducible first | assumption | exact aI _ _ | refine b_ ?_ _ | apply Below.drew | refine below_drewN ?_ _ | (apply cW;assumption) | (refine rN ?_ (aQ _) _) | (refine rN ?_ (by first | omega | (simp;done) | (go_simp;done)) _)))⟩
end
section
def pk (o1 o2:Bool) (q1 q2:Int):Bool:=o2&&(!o1||decide (q1<q2))
def jf_ (o1 o2:Bool) (q1 s1 b1 q2 s2 b2:Int) (w:World) (e:Ending) (w':World):Prop:=
 e = .returned (.tuple #[.agg #[I_ (if pk o1 o2 q1 q2=true then q2 else q1),I_ (if pk o1 o2 q1 q2=true then s2 else s1),I_ (if pk o1 o2 q1 q2=true then b2 else b1)],I_ (if pk o1 o2 q1 q2=true then 1 else 0),.bool (o1||o2)])/\q_ w w'
theorem ba_ (a b:ByteArray) (f:Int) (w:World) {o1 o2:Bool} {q1 s1 b1 q2 s2 b2:Int} (HZ:o1=false->q1=0/\s1=0/\b1=0)
  (hA:∀w,C_ 148 #[.string a,I_ f] w (dL_ o1 q1 s1 b1 w)) (hB:∀w,C_ 148 #[.string b,I_ f] w (dL_ o2 q2 s2 b2 w)) :
  C_ 86 #[.string a,.string b,I_ f] w (jf_ o1 o2 q1 s1 b1 q2 s2 b2 w):=by
 have p:=H_ HZ;clear HZ;go_enter func86,ntmps86
 go_upto_region 1 with fail
 go_cut [9,10] (fun s9 s10 wx=>∃B,s9 = P_ B/\s10 = .bool o1/\aW wx B #[I_ q1,I_ s1,I_ b1] 62/\
   aW wx (w) #[I_ 0,I_ 0,I_ 0] 62/\q_ w wx)
 case first=>
  go_wp2_with (go_at_call 148;(with_reducible refine CM (hA _) ?_);rintro e w1 ⟨rfl,l⟩)
  go_meet
  case rel=>exact ⟨_,rfl,rfl,bS rfl,(cX (iS z_ l.size)).trans ((l.block _ z_).trans (bS rfl)),b_ (d_ (B_.alloc (aQ _) _) l) _⟩
 case rest=>
  obtain ⟨B,rfl,rfl,d,c,q⟩:=hcut
  go_upto_region 2 with fail
  go_cut [11,12] (fun s11 s12 wx=>∃C,s11 = P_ C/\s12 = .bool o2/\aW wx C #[I_ q2,I_ s2,I_ b2] 62/\aW wx B #[I_ q1,I_ s1,I_ b1] 62/\
    aW wx (w) #[I_ 0,I_ 0,I_ 0] 62/\q_ w wx)
  case first=>
   have F:=(Array.getElem?_eq_some_iff.1 d).1;have G:=(Array.getElem?_eq_some_iff.1 c).1;have x:=H_ d;have y:=H_ c;clear d c
   go_wp2_with (go_at_call 148;(with_reducible refine CM (hB _) ?_);rintro e w1 ⟨rfl,l⟩)
   go_meet
   case rel=>exact ⟨_,rfl,rfl,bS rfl,(cX (iS F l.size)).trans ((l.block _ F).trans x.out),(cX (iS G l.size)).trans ((l.block _ G).trans y),b_ (d_ q l) _⟩
  case rest=>
   clear d c q;obtain ⟨C,rfl,rfl,r,d,c,J⟩:=hcut;have m:=a_ d 0;have n:=a_ d 1;have o:=a_ d 2;have s:=a_ r 0;have t:=a_ r 1;have u:=a_ r 2;have g:=a_ c 0;have i:=a_ c 1;have j:=a_ c 2;have n0:=t_ c 0;have n1:=t_ c 1;have n2:=t_ c 2;simp only[zl] at m n o s t u g i j;clear r d c hA hB
   by_cases E:q1<q2
   ·have k:Hid (pk o1 o2 q1 q2=(o2&&true)):=by
     show _=_
     simp [pk,E]
    have I:True:=trivial
    cases o1 <;> cases o2
    all_goals go_wp2
    ·refine bodyPost_ret (v:= .tuple #[.agg #[I_ q1,I_ s1,I_ b1],I_ 0,.bool false]) (by first | (simp [results,results86,go_sem,g,i,j,m,n,o];done) | (obtain ⟨z,A,D⟩:=p.out (by first | rfl | trivial);simp [results,results86,go_sem,g,i,j,z,A,D];done)) rfl ⟨by rw [k.out];rfl,by (repeat (with_reducible first | assumption | exact aI _ _ | refine b_ ?_ _ | apply Below.drew | refine below_drewN ?_ _ | (apply cW;assumption) | (refine rN ?_ (aQ _) _) | (refine rN ?_ (by first | omega | (simp;done) | (go_simp;done)) _)))⟩
    ·refine bodyPost_ret (v:= .tuple #[.agg #[I_ q2,I_ s2,I_ b2],I_ 1,.bool true]) (by simp [results,results86,go_sem,g,i,j,s,t,u]) rfl ⟨by rw [k.out];rfl,by (repeat (with_reducible first | assumption | exact aI _ _ | refine b_ ?_ _ | apply Below.drew | refine below_drewN ?_ _ | (apply cW;assumption) | (refine rN ?_ (aQ _) _) | (refine rN ?_ (by first | omega | (simp;done) | (go_simp;done)) _)))⟩
    ·refine bodyPost_ret (v:= .tuple #[.agg #[I_ q1,I_ s1,I_ b1],I_ 0,.bool true]) (by simp [results,results86,go_sem,g,i,j,m,n,o]) rfl ⟨by rw [k.out];rfl,by (repeat (with_reducible first | assumption | exact aI _ _ | refine b_ ?_ _ | apply Below.drew | refine below_drewN ?_ _ | (apply cW;assumption) | (refine rN ?_ (aQ _) _) | (refine rN ?_ (by first | omega | (simp;done) | (go_simp;done)) _)))⟩
    ·refine bodyPost_ret (v:= .tuple #[.agg #[I_ q2,I_ s2,I_ b2],I_ 1,.bool true]) (by simp [results,results86,go_sem,g,i,j,s,t,u]) rfl ⟨by rw [k.out];rfl,by (repeat (with_reducible first | assumption | exact aI _ _ | refine b_ ?_ _ | apply Below.drew | refine below_drewN ?_ _ | (apply cW;assumption) | (refine rN ?_ (aQ _) _) | (refine rN ?_ (by first | omega | (simp;done) | (go_simp;done)) _)))⟩
   ·have k:Hid (pk o1 o2 q1 q2=(o2&&!o1)):=by
     show _=_
     simp [pk,E]
    have H:q2<=q1:=O_
    cases o1 <;> cases o2
    all_goals go_wp2
    ·refine bodyPost_ret (v:= .tuple #[.agg #[I_ q1,I_ s1,I_ b1],I_ 0,.bool false]) (by first | (simp [results,results86,go_sem,g,i,j,m,n,o];done) | (obtain ⟨z,A,D⟩:=p.out (by first | rfl | trivial);simp [results,results86,go_sem,g,i,j,z,A,D];done)) rfl ⟨by rw [k.out];rfl,by (repeat (with_reducible first | assumption | exact aI _ _ | refine b_ ?_ _ | apply Below.drew | refine below_drewN ?_ _ | (apply cW;assumption) | (refine rN ?_ (aQ _) _) | (refine rN ?_ (by first | omega | (simp;done) | (go_simp;done)) _)))⟩
    ·refine bodyPost_ret (v:= .tuple #[.agg #[I_ q2,I_ s2,I_ b2],I_ 1,.bool true]) (by simp [results,results86,go_sem,g,i,j,s,t,u]) rfl ⟨by rw [k.out];rfl,by (repeat (with_reducible first | assumption | exact aI _ _ | refine b_ ?_ _ | apply Below.drew | refine below_drewN ?_ _ | (apply cW;assumption) | (refine rN ?_ (aQ _) _) | (refine rN ?_ (by first | omega | (simp;done) | (go_simp;done)) _)))⟩
    ·refine bodyPost_ret (v:= .tuple #[.agg #[I_ q1,I_ s1,I_ b1],I_ 0,.bool true]) (by simp [results,results86,go_sem,g,i,j,m,n,o]) rfl ⟨by rw [k.out];rfl,by (repeat (with_reducible first | assumption | exact aI _ _ | refine b_ ?_ _ | apply Below.drew | refine below_drewN ?_ _ | (apply cW;assumption) | (refine rN ?_ (aQ _) _) | (refine rN ?_ (by first | omega | (simp;done) | (go_simp;done)) _)))⟩
    ·refine bodyPost_ret (v:= .tuple #[.agg #[I_ q1,I_ s1,I_ b1],I_ 0,.bool true]) (by simp [results,results86,go_sem,g,i,j,m,n,o]) rfl ⟨by rw [k.out];rfl,by (repeat (with_reducible first | assumption | exact aI _ _ | refine b_ ?_ _ | apply Below.drew | refine below_drewN ?_ _ | (apply cW;assumption) | (refine rN ?_ (aQ _) _) | (refine rN ?_ (by first | omega | (simp;done) | (go_simp;done)) _)))⟩
end
section
theorem zW (s:ByteArray) (f:Int) (w:World) (hm:s.size<=maxLen):C_ 148 #[.string s,I_ f] w (fW_ s f w):=by
 by_cases h:s.size=8/\0<=f/\f<8
 ·obtain ⟨k,h1,h2⟩:=h;obtain ⟨a,b,c,d,e,g,h,i,rfl⟩:=hO_ s k;exact (eg_ a b c d e g h i f w h1 h2).mono fun j w' H=>g1_ a b c d e g h i f h1 h2 H
 ·exact (bc_ s f w h hm).mono fun j w' H=>fl_ s f h H
theorem ef_ (s:ByteArray) (f:Int) (h:gA s f=false):mD s f=0/\sF s f=0/\xW s f=0:=by simp [mD,sF,xW,h]
abbrev jh_ (a b:ByteArray) (f:Int) (w:World):Ending->World->Prop:=jf_ (gA a f) (gA b f) (mD a f) (sF a f) (xW a f) (mD b f) (sF b f) (xW b f) w
theorem ea_ (a b:ByteArray) (f:Int) (w:World) (ha:a.size<=maxLen) (hb:b.size<=maxLen):C_ 86 #[.string a,.string b,I_ f] w (jh_ a b f w):=
 ba_ a b f w (ef_ a f) (fun w=>zW a f w ha) (fun w=>zW b f w hb)
end
end Go.Proofs.YtehfhnbpnaiogaaGreatDoor
