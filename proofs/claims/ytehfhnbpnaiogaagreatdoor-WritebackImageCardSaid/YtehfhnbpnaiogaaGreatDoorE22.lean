/-
  Lemmas and contracts for the laws of this seat, part 22; several texts joined by a program.
-/
import Derived.Test.YtehfhnbpnaiogaaGreatDoorE21
import Derived.Test.YtehfhnbpnaiogaaGreatDoorE00
import Derived.Outline
namespace Go.Proofs.YtehfhnbpnaiogaaGreatDoor
set_option linter.unusedVariables false
set_option linter.unusedSimpArgs false
set_option maxRecDepth 100000
set_option maxHeartbeats 16000000
open Go.RowKit Go.Proofs.Tryz IntKind
variable {C1 C2:Ck} {H:World->Prop} {P:Bool->Bool->Bool->Bool->Bool->World->Prop} {S:Nat->Prop} {W w w' wx:World} {a1 a2 a3 a4 a5 a6 a7 r1 r2:Value} {e1 e2 k n:Int} {en:Ending} {i j:Nat} {x:Fr} {y:Fl}
section
def S2 (S:Nat->Prop) (n:Nat):Nat->Prop:=fun z=>S z/\z≠n/\z≠n+1
def oE (b s:Int):Nat->Int
 | 0=>b
 | k+1=>if s<=(k:Int)*16 then bits .andNot .i64 (oE b s k) (wrap64 (2 ^ k)) else oE b s k
def eb_ (y:Fl) (q s b wh:Int) (d1 d2 d3 d4 d5:Bool):Fl:=⟨y.dev,y.slot,y.c,if d1 then s else y.size,if d2 then b else y.blocks,y.ecnt,y.eerr,if d3 then q else y.sseq,if d3 then s else y.ssize,if d3 then b else y.sblocks,if d4 then wh else y.which,if d5 then q else y.seq⟩
def wA (t:Nat) (y:Fl):Bool:=decide (0<((fJ (aH 0 (4 ^ t) y.c) 0:Nat):Int))||(y.size != 0||y.blocks != 0)
def tD (C:Ck) (j:Nat) (y:Fl) (u:Bool) (q s b wh:Int) (C':Ck) (err:Int):Prop:=
 if u=true then C'=C/\err=5 else C'={C with files:=C.files.set j (eb_ y q s (oE b s 8) wh true true true true true)}/\err=0
def jg_ (q s b wh:Int) (w:World) (e:Ending) (w':World):Prop:=∃o:Bool,e = .returned (.tuple #[.agg #[I_ q,I_ s,I_ b],I_ wh,.bool o])/\q_ w w'
def jM (H:World->Prop) (P:Bool->Bool->Bool->Bool->Bool->World->Prop) (d:Nat->Bool) (wx:World):Prop:=H wx/\P (d 15) (d 18) (d 21) (d 24) (d 27) wx
theorem jM.more {d:Nat->Bool} {i:Nat} (h:jM H P d wx) (h1:(15 == i)=false) (h2:(18 == i)=false) (h3:(21 == i)=false) (h4:(24 == i)=false) (h5:(27 == i)=false):jM H P (Y_ d i) wx:=by
 refine ⟨h.1,?_⟩;rw [F_ h1,F_ h2,F_ h3,F_ h4,F_ h5];exact h.2
theorem jM.f15 {d:Nat->Bool} (h0:H wx) (h:P true (d 18) (d 21) (d 24) (d 27) wx):jM H P (Y_ d 15) wx:=by
 refine ⟨h0,?_⟩;rw [cF,F_ (i:=15) (j:=18) rfl,F_ (i:=15) (j:=21) rfl,F_ (i:=15) (j:=24) rfl,F_ (i:=15) (j:=27) rfl];exact h
theorem jM.f18 {d:Nat->Bool} (h0:H wx) (h:P (d 15) true (d 21) (d 24) (d 27) wx):jM H P (Y_ d 18) wx:=by
 refine ⟨h0,?_⟩;rw [cF,F_ (i:=18) (j:=15) rfl,F_ (i:=18) (j:=21) rfl,F_ (i:=18) (j:=24) rfl,F_ (i:=18) (j:=27) rfl];exact h
theorem jM.f21 {d:Nat->Bool} (h0:H wx) (h:P (d 15) (d 18) true (d 24) (d 27) wx):jM H P (Y_ d 21) wx:=by
 refine ⟨h0,?_⟩;rw [cF,F_ (i:=21) (j:=15) rfl,F_ (i:=21) (j:=18) rfl,F_ (i:=21) (j:=24) rfl,F_ (i:=21) (j:=27) rfl];exact h
theorem jM.f24 {d:Nat->Bool} (h0:H wx) (h:P (d 15) (d 18) (d 21) true (d 27) wx):jM H P (Y_ d 24) wx:=by
 refine ⟨h0,?_⟩;rw [cF,F_ (i:=24) (j:=15) rfl,F_ (i:=24) (j:=18) rfl,F_ (i:=24) (j:=21) rfl,F_ (i:=24) (j:=27) rfl];exact h
theorem jM.f27 {d:Nat->Bool} (h0:H wx) (h:P (d 15) (d 18) (d 21) (d 24) true wx):jM H P (Y_ d 27) wx:=by
 refine ⟨h0,?_⟩;rw [cF,F_ (i:=27) (j:=15) rfl,F_ (i:=27) (j:=18) rfl,F_ (i:=27) (j:=21) rfl,F_ (i:=27) (j:=24) rfl];exact h
def G14 (gf j z:Nat) (q s b wh:Int):Nat->Value->Prop
 | 0,v=>v = .pointer (some ⟨gf,j*15,none⟩)
 | 1,v=>v = .pointer (some ⟨gf,j*15,none⟩)
 | 2,v=>v = .pointer (some ⟨gf,j*15,none⟩)
 | 3,v=>v = .pointer (some ⟨gf,j*15,none⟩)
 | 4,v=>v = .pointer (some ⟨gf,j*15,none⟩)
 | 5,v=>v = .pointer (some ⟨z,1,none⟩)
 | 6,v=>v = I_ s
 | 7,v=>v = .pointer (some ⟨z,2,none⟩)
 | 8,v=>v = I_ b
 | 9,v=>v = .agg #[I_ q,I_ s,I_ b]
 | 10,v=>v = I_ wh
 | 11,v=>v = P_ z
 | 12,v=>v = I_ q
 | 13,v=>v = .pointer (some ⟨gf,j*15,none⟩)
 | 14,v=>v = .pointer (some ⟨gf,j*15+6,none⟩)
 | 15,_=>True
 | 16,v=>v = .pointer (some ⟨gf,j*15,none⟩)
 | 17,v=>v = .pointer (some ⟨gf,j*15+7,none⟩)
 | 18,_=>True
 | 19,v=>v = .pointer (some ⟨gf,j*15,none⟩)
 | 20,v=>v = .pointer (some ⟨gf,j*15+10,none⟩)
 | 21,_=>True
 | 22,v=>v = .pointer (some ⟨gf,j*15,none⟩)
 | 23,v=>v = .pointer (some ⟨gf,j*15+13,none⟩)
 | 24,_=>True
 | 25,v=>v = .pointer (some ⟨gf,j*15,none⟩)
 | 26,v=>v = .pointer (some ⟨gf,j*15+14,none⟩)
 | 27,_=>True
 | _+28,_=>True
theorem gQ_ {C:Ck} (j:Nat){t:Nat} (y:Fl) (fs sc:ByteArray) (q s b wh:Int) (h:x_ w S a1 a2 a3 a4 a5 a6 a7 C) (ok:lS C) (hj:C.files[j]?=some y) (ht:X_ t y.c) (hch:∀w',C_ 86 #[.string fs,.string sc,I_ (j:Int)] w' (jg_ q s b wh w')) (hs:0<=s/\s<=255) (hS:∀z,w.heap.size<=z->S z) :
  C_ 30 #[cI a1 a2 a3 a4 a5 a6 a7,I_ (j:Int),.string fs,.string sc] w (gC (tD C j y (wA t y) q s b wh) S w):=by
 have b2:=fun w' (hb:q_ w w') (b1:w.heap.size+1<w'.heap.size)=>vT C a1 a2 a3 a4 a5 a6 a7 (S2 S (w)) w' ((h.weak (fun z hz hs=>⟨hs,O_,O_⟩)).step hb) ok (fun z hz=>⟨hS z O_,O_,O_⟩);have O:=bK hj;have ag:=fun w' (hb:q_ w w')=>gU j (h.step hb);rw [show (decide (0<=(j:Int))&&decide ((j:Int)<(C.files.length:Int)))=true by simp;omega] at ag;have b9:C.files.length<=100:=ok.ok.files.2;obtain ⟨A1,c1,rfl,q1,q2⟩:=h.files.form;obtain ⟨A2,m2,c2,rfl⟩:=h.frames.cap;obtain ⟨A3,m3,c3,A4,m4,c4,A5,m5,c5,A6,m6,c6,A7,m7,c7,rfl,rfl,rfl,rfl,rfl⟩:=x_.caps5 h;obtain ⟨HJ,HT,ba⟩:=eT hj ht hs;have j2:(j:Int)<(C.files.length:Int):=O_
 have j0:(0:Int)<=(j:Int):=O_
 clear h ok hj ht hs q1 q2;have HS:=H_ (show St w [(w.heap.size,.cells (E_ A1 C.files.length c1 A2 m2 c2 A3 m3 c3 A4 m4 c4 A5 m5 c5 A6 m6 c6 A7 m7 c7) 30 (0,0)),(w.heap.size+1,cG)] ((w.alloc (.cells (E_ A1 C.files.length c1 A2 m2 c2 A3 m3 c3 A4 m4 c4 A5 m5 c5 A6 m6 c6 A7 m7 c7) 30)).alloc (cG)) from ((St.nil w).push _ _ rfl).push _ (w+1) z_);go_enter func30,ntmps30
 go_upto_region 1 with fail
 generalize (w.alloc _).alloc _=V at HS;have ap:=HS.bk _ _ cO;have ay:w.heap.size+1<V.heap.size:=p_ (HS.bk _ _ jQ);obtain ⟨x0,x1,x2,x3,x4,x5,x6⟩:=aF ap
 go_upto_region 2 with (go_at_call 42;refine CM (b2 _ HS.below ay) ?_;rintro e w1 ⟨X,gf,nf,cf,gr,nr,cr,c',d',e',f',g',rfl,hB,az⟩)
 have a0:=H_ (HS.step az);have aa:=H_ hB;obtain ⟨B1,ar⟩:=aZ V.heap.size;rw [<-ar] at aa ay;obtain ⟨E3,e3,k3,rfl⟩:=hB.zones.cap;obtain ⟨E4,e4,k4,rfl⟩:=hB.groups.cap;obtain ⟨E5,e5,k5,rfl⟩:=hB.lists.cap;obtain ⟨E6,e6,k6,rfl⟩:=hB.clocks.cap;obtain ⟨E7,e7,k7,rfl⟩:=hB.ptes.cap;clear x0 x1 x2 x3 x4 x5 x6 ap hB az HS ar b2;have aq:=a0.bk _ _ cO;obtain ⟨x0,x1,x2,x3,x4,x5,x6⟩:=aF aq
 go_upto_region 4 with (go_at_call 73;refine CM (ag _ a0.below) ?_;rintro e w2 ⟨rfl,ac⟩;have N:=H_ (a0.step ac);have F:=H_ (aa.step ac))
 clear x0 x1 x2 x3 x4 x5 x6 aq ac a0 aa ag;have J:=F.box;have x0:=xV J;have j3:(j:Int)<(nf:Int):=by have:=F.ef;omega
 obtain ⟨t',A,cap,l1,l2,l3,l4,y2,y3,y4,y5⟩:=F.files.fl_tree HJ.out;obtain rfl:t'=t:=Nat.le_antisymm (l2.le HT.out) (HT.le l2);have H:=F.files.lt;have G:=fun w' (hb:q_ w2 w')=>gd_ cap 0 l1 l2 l3 (l4.step hb);obtain ⟨U,z8,z9,R⟩:=LW.fl_at F.files HJ.out;obtain ⟨n,hn⟩:=aZ (fJ (aH 0 (4 ^ t') y.c) 0);rw [<-hn] at G;obtain ⟨bd,D⟩:=aZ ((decide (0<(n:Int))||(y.size != 0||y.blocks != 0)));have ai:=H_ (show wA t' y=bd by rw [D,hn];rfl);generalize (f_ t' y.c).kids.length=kn at *;generalize (f_ t' y.c).val=kv at *;generalize (f_ t' y.c).marks=km at *;clear hn l1 l2 l3 l4
 go_upto_region 5 with fail
 go_cut [52] from 33 to 51 (fun s52 wx=>s52 = .bool bd/\St w [(w.heap.size,.cells (E_ A1 C.files.length c1 A2 m2 c2 A3 m3 c3 A4 m4 c4 A5 m5 c5 A6 m6 c6 A7 m7 c7) 30 (0,0)),(w.heap.size+1,cG)] wx/\Bd wx (S2 S (w)) B1 X gf nf cf gr nr cr (S_ E3 e3 k3) (S_ E4 e4 k4) (S_ E5 e5 k5) (S_ E6 e6 k6) (S_ E7 e7 k7) C)
 case first=>
  by_cases h1:0<(n:Int)
  ·rw [dT h1] at D;simp only[Bool.true_or] at D;subst D
   go_wp2_with (go_at_call 85;(with_reducible refine CM (G _ B_) ?_);rintro e w3 ⟨rfl,r⟩;replace R:=(c_ (r.block _ H)).trans R;replace U:=(c_ (r.block _ H)).trans U)
   go_meet
   case rel=>exact ⟨rfl,N.step r,F.step r⟩
  ·rw [dF h1] at D
   by_cases h2:y.size=0
   ·by_cases h3:y.blocks=0
    ·rw [h2,h3] at D;rw [h2] at R;rw [h3] at U;subst D
     go_wp2_with (go_at_call 85;(with_reducible refine CM (G _ B_) ?_);rintro e w3 ⟨rfl,r⟩;replace R:=(c_ (r.block _ H)).trans R;replace U:=(c_ (r.block _ H)).trans U)
     go_meet
     case rel=>exact ⟨rfl,N.step r,F.step r⟩
    ·have b5:(y.blocks != 0)=true:=bne_iff_ne.2 h3;rw [h2,b5] at D;rw [h2] at R;subst D
     go_wp2_with (go_at_call 85;(with_reducible refine CM (G _ B_) ?_);rintro e w3 ⟨rfl,r⟩;replace R:=(c_ (r.block _ H)).trans R;replace U:=(c_ (r.block _ H)).trans U)
     go_meet
     case rel=>exact ⟨rfl,N.step r,F.step r⟩
   ·have b4:(y.size != 0)=true:=bne_iff_ne.2 h2;rw [b4] at D;simp only[Bool.true_or,Bool.or_true] at D;subst D
    go_wp2_with (go_at_call 85;(with_reducible refine CM (G _ B_) ?_);rintro e w3 ⟨rfl,r⟩;replace R:=(c_ (r.block _ H)).trans R;replace U:=(c_ (r.block _ H)).trans U)
    go_meet
    case rel=>exact ⟨rfl,N.step r,F.step r⟩
 case rest=>
  obtain ⟨rfl,aw,au⟩:=hcut;have a8:=H_ aw;have W:=H_ au;clear aw au N F x0 J y2 y3 y4 y5 U z8 z9 R G D H
  cases bd with
  | true=>
   have HP:=H_ (show tD C j y (wA t' y) q s b wh C 5 by unfold tD;rw [if_pos ai.out];exact ⟨rfl,rfl⟩);have J:=W.box;obtain ⟨x0,x1,x2,x3,x4,x5,x6⟩:=aF J;have M:=a8.bk _ _ jQ
   go_wp2_with (refine aJ rfl (.tmp 8) (.tmp 56) rfl rfl rfl rfl M rfl ?_)
   show bodyPost prog f30 _ _ _ _
   refine bodyPost_ret (bQ rfl rfl rfl (setRow_heap _ _ _ _ _ _ M)) rfl ?_;refine ⟨_,_,_,_,_,_,_,_,_,?_,rfl,(W.boxRow (Z:=w.heap.size+1) O_ (fun h=>h.2.2 rfl) (E_ (o_ gf) nf cf (o_ gr) nr cr E3 e3 k3 E4 e4 k4 E5 e5 k5 E6 e6 k6 E7 e7 k7)).at_.weak (fun z _ hz=>hz.1),j_ a8.below O_ _⟩;exact HP
  | false=>
   have P:∀(g':Nat) (ob:Obj),(g',ob) ∈ ([(w.heap.size,.cells (E_ A1 C.files.length c1 A2 m2 c2 A3 m3 c3 A4 m4 c4 A5 m5 c5 A6 m6 c6 A7 m7 c7) 30 (0,0)),(w.heap.size+1,cG)]:List (Nat × Obj))->g'<B1:=fun g' ob hm=>by
    simp only[qJ,List.not_mem_nil,or_false,Prod.mk.injEq] at hm
    rcases hm with ⟨rfl,_⟩ | ⟨rfl,_⟩ <;> omega
   have Q:w.heap.size<=B1:=O_
   rename World=>V3
   go_upto_region 8 with (go_at_call 86;refine CM (hch _) ?_;rintro e w7 ⟨bc,rfl,ad⟩)
   have am:=H_ (a8.step ad);have ab:=H_ (W.step ad);have b8:=ab.files.lt;have ak:=H_ (g_ w7 (.cells #[I_ q,I_ s,I_ b] 62));have ao:=H_ (b_ (aI (w7) w7) (.cells #[I_ q,I_ s,I_ b] 62));generalize w7.alloc (.cells #[I_ q,I_ s,I_ b] 62)=V8 at ak ao;clear a8 W ad hch
   go_upto_region 9 with fail
   go_loopw [65] (fun i wx=>∃k:Nat,i = I_ (k:Int)/\k<=8/\q_ w7 wx/\aW wx (w7) #[I_ q,I_ s,I_ (oE b s k)] 62) (fun i _=>100 - (intOf i).toNat)
   case atStart=>exact ⟨0,rfl,O_,ao.out,ak.out⟩
   case round=>
    obtain ⟨k,rfl,hk,hb,hi⟩:=hrel;have HW:=H_ hb;have Y:=H_ hi;clear hb hi
    by_cases b1:k<8
    ·have k8:(k:Int)<8:=O_
     have k0:(0:Int)<=(k:Int):=O_
     have i1:=a_ Y 1;have i2:=a_ Y 2;simp only[zl] at i1 i2;have b7:=p_ Y
     by_cases b0:s<=(k:Int)*16
     ·have a9:=H_ (show oE b s (k+1)=bits .andNot .i64 (oE b s k) (wrap64 (2 ^ k)) from if_pos b0);generalize oE b s k=bk at Y i2 a9
      go_upto_region 12 with fail
      refine T_ 6 107 [SP.eq (.pointer (some ⟨w7,2,none⟩)),SP.eq (I_ bk),SP.eq (I_ (k:Int)),SP.eq (I_ (wrap64 (2 ^ k))),SP.eq (I_ (bits .andNot .i64 bk (wrap64 (2 ^ k)))),SP.eq (.pointer (some ⟨w7,2,none⟩))] s_ s_ rfl ?_;simp only[vK];refine e_ (fun x a f K g=>?_) (fun v0=>?_)
      ·skip
       go_simp;exact g _ _ a B_ (by first | rfl | (show Value.int _ _=Value.int _ _;simp;done) | (show Value.int _ _=Value.int _ _;simp [IntKind.wrap_i64,wrap64];done))
      simp only[ly];refine e_ (fun x a f K g=>?_) (fun v1=>?_)
      ·obtain rfl:v0=_:=f 0 s_;have t0:=(c_ (Below.block a _ b7)).trans i2;go_simp;exact g _ _ a B_ (by first | rfl | (show Value.int _ _=Value.int _ _;simp;done) | (show Value.int _ _=Value.int _ _;simp [IntKind.wrap_i64,wrap64];done))
      simp only[ly];refine e_ (fun x a f K g=>?_) (fun v2=>?_)
      ·skip
       go_simp;exact g _ _ a B_ (by first | rfl | (show Value.int _ _=Value.int _ _;simp;done) | (show Value.int _ _=Value.int _ _;simp [IntKind.wrap_i64,wrap64];done))
      simp only[ly];refine e_ (fun x a f K g=>?_) (fun v3=>?_)
      ·obtain rfl:v2=_:=f 2 s_;go_simp;exact g _ _ a B_ (by first | rfl | (show Value.int _ _=Value.int _ _;simp;done) | (show Value.int _ _=Value.int _ _;simp [IntKind.wrap_i64,wrap64];done))
      simp only[ly];refine e_ (fun x a f K g=>?_) (fun v4=>?_)
      ·obtain rfl:v1=_:=f 1 s_;obtain rfl:v3=_:=f 3 s_;go_simp;exact g _ _ a B_ (by first | rfl | (show Value.int _ _=Value.int _ _;simp;done) | (show Value.int _ _=Value.int _ _;simp [IntKind.wrap_i64,wrap64];done))
      simp only[ly];refine e_ (fun x a f K g=>?_) (fun v5=>?_)
      ·skip
       go_simp;exact g _ _ a B_ (by first | rfl | (show Value.int _ _=Value.int _ _;simp;done) | (show Value.int _ _=Value.int _ _;simp [IntKind.wrap_i64,wrap64];done))
      simp only[ly];refine aA ?_;intro u a hG;obtain rfl:v4=_:=hG 4 O_;obtain rfl:v5=_:=hG 5 O_;have HC:=H_ a;have HQ:=i_ Y a;have c2:=a_ HQ 2;have f2:=t_ HQ 2;simp only[zl] at c2;clear hG a;go_wp2;go_roundw
      case rel=>exact ⟨k+1,by go_num,O_,bA (d_ HW.out HC.out) ⟨w7,2,none⟩ _ (aQ _),by rw [a9.out];exact R_ HQ _⟩
      case measure=>exact bH
     ·have a9:=H_ (show oE b s (k+1)=oE b s k from if_neg b0);go_wp2;go_roundw
      case rel=>exact ⟨k+1,by go_num,O_,HW.out,by rw [a9.out];exact Y⟩
      case measure=>exact bH
    ·obtain rfl:k=8:=O_
     obtain ⟨bb,ae⟩:=aZ (oE b s 8);rw [<-ae] at Y;have b3:=H_ ae;have an:=H_ (am.step HW);have I:=H_ (ab.step HW);clear ae HW am ab b1 hk
     go_upto_region 14 with fail
     rename World=>V9
     go_cut [] from 80 to 102 (fun wx=>St w [(w.heap.size,.cells (E_ A1 C.files.length c1 A2 m2 c2 A3 m3 c3 A4 m4 c4 A5 m5 c5 A6 m6 c6 A7 m7 c7) 30 (0,0)),(w.heap.size+1,cG)] wx/\Bd wx (S2 S (w)) B1 X gf nf cf gr nr cr (S_ E3 e3 k3) (S_ E4 e4 k4) (S_ E5 e5 k5) (S_ E6 e6 k6) (S_ E7 e7 k7) {C with files:=C.files.set j (eb_ y q s bb wh true true true true true)})
     case first=>
      have aj:jM (fun wx=>St w [(w.heap.size,.cells (E_ A1 C.files.length c1 A2 m2 c2 A3 m3 c3 A4 m4 c4 A5 m5 c5 A6 m6 c6 A7 m7 c7) 30 (0,0)),(w.heap.size+1,cG)] wx/\aW wx (w7) #[I_ q,I_ s,I_ bb] 62) (fun d1 d2 d3 d4 d5 wx=>Bd wx (S2 S (w)) B1 X gf nf cf gr nr cr (S_ E3 e3 k3) (S_ E4 e4 k4) (S_ E5 e5 k5) (S_ E6 e6 k6) (S_ E7 e7 k7) {C with files:=C.files.set j (eb_ y q s bb wh d1 d2 d3 d4 d5)}) (fun _=>false) {V9 with drawn:=V9.drawn+1}:=⟨⟨an.step B_.drew,Y⟩,by
       show Bd V9.drew (S2 S (w)) B1 X gf nf cf gr nr cr (S_ E3 e3 k3) (S_ E4 e4 k4) (S_ E5 e5 k5) (S_ E6 e6 k6) (S_ E7 e7 k7) {C with files:=C.files.set j y}
       rw [vA HJ.out];exact I.step B_.drew⟩
      refine bU (Γ:=Unit) 107 27 (fun i=>decide (i<=26)) (fun _ d wx=>jM (fun wx=>St w [(w.heap.size,.cells (E_ A1 C.files.length c1 A2 m2 c2 A3 m3 c3 A4 m4 c4 A5 m5 c5 A6 m6 c6 A7 m7 c7) 30 (0,0)),(w.heap.size+1,cG)] wx/\aW wx (w7) #[I_ q,I_ s,I_ bb] 62) (fun d1 d2 d3 d4 d5 wx=>Bd wx (S2 S (w)) B1 X gf nf cf gr nr cr (S_ E3 e3 k3) (S_ E4 e4 k4) (S_ E5 e5 k5) (S_ E6 e6 k6) (S_ E7 e7 k7) {C with files:=C.files.set j (eb_ y q s bb wh d1 d2 d3 d4 d5)}) d wx) (fun _ k v _=>G14 gf j (w7) q s bb wh k v) () s_ s_ rfl aj (fun ii oo E f _ v _ hg=>by
       match ii with
       | 0=>obtain rfl:=aP E;cases f
       | 1=>obtain rfl:=aP E;cases f
       | 2=>obtain rfl:=aP E;cases f
       | 3=>obtain rfl:=aP E;cases f
       | 4=>obtain rfl:=aP E;cases f
       | 5=>obtain rfl:=aP E;cases f
       | 6=>obtain rfl:=aP E;cases f
       | 7=>obtain rfl:=aP E;cases f
       | 8=>obtain rfl:=aP E;cases f
       | 9=>obtain rfl:=aP E;cases f
       | 10=>obtain rfl:=aP E;cases f
       | 11=>obtain rfl:=aP E;cases f
       | 12=>obtain rfl:=aP E;cases f
       | 13=>obtain rfl:=aP E;cases f
       | 14=>obtain rfl:=aP E;cases f
       | 15=>trivial
       | 16=>obtain rfl:=aP E;cases f
       | 17=>obtain rfl:=aP E;cases f
       | 18=>trivial
       | 19=>obtain rfl:=aP E;cases f
       | 20=>obtain rfl:=aP E;cases f
       | 21=>trivial
       | 22=>obtain rfl:=aP E;cases f
       | 23=>obtain rfl:=aP E;cases f
       | 24=>trivial
       | 25=>obtain rfl:=aP E;cases f
       | 26=>obtain rfl:=aP E;cases f
       | 27=>trivial
       | _+28=>trivial) ?_
      refine h_ (fun _ B u l m a f K g=>?_) (fun v0=>?_)
      ·skip
       go_simp;exact g () _ _ (jM.more (i:=0) a rfl rfl rfl rfl rfl) (fun _ _ h=>h) rfl
      simp only[ly];refine h_ (fun _ B u l m a f K g=>?_) (fun v1=>?_)
      ·skip
       go_simp;exact g () _ _ (jM.more (i:=1) a rfl rfl rfl rfl rfl) (fun _ _ h=>h) rfl
      simp only[ly];refine h_ (fun _ B u l m a f K g=>?_) (fun v2=>?_)
      ·skip
       go_simp;exact g () _ _ (jM.more (i:=2) a rfl rfl rfl rfl rfl) (fun _ _ h=>h) rfl
      simp only[ly];refine h_ (fun _ B u l m a f K g=>?_) (fun v3=>?_)
      ·skip
       go_simp;exact g () _ _ (jM.more (i:=3) a rfl rfl rfl rfl rfl) (fun _ _ h=>h) rfl
      simp only[ly];refine h_ (fun _ B u l m a f K g=>?_) (fun v4=>?_)
      ·skip
       go_simp;exact g () _ _ (jM.more (i:=4) a rfl rfl rfl rfl rfl) (fun _ _ h=>h) rfl
      simp only[ly];refine h_ (fun _ B u l m a f K g=>?_) (fun v5=>?_)
      ·skip
       go_simp;exact g () _ _ (jM.more (i:=5) a rfl rfl rfl rfl rfl) (fun _ _ h=>h) rfl
      simp only[ly];refine h_ (fun _ B u l m a f K g=>?_) (fun v6=>?_)
      ·obtain rfl:v5=_:=f 5 s_;obtain ⟨i0,i1,i2⟩:=cL a.1.2;go_simp;exact g () _ _ (jM.more (i:=6) a rfl rfl rfl rfl rfl) (fun _ _ h=>h) rfl
      simp only[ly];refine h_ (fun _ B u l m a f K g=>?_) (fun v7=>?_)
      ·skip
       go_simp;exact g () _ _ (jM.more (i:=7) a rfl rfl rfl rfl rfl) (fun _ _ h=>h) rfl
      simp only[ly];refine h_ (fun _ B u l m a f K g=>?_) (fun v8=>?_)
      ·obtain rfl:v7=_:=f 7 s_;obtain ⟨i0,i1,i2⟩:=cL a.1.2;go_simp;exact g () _ _ (jM.more (i:=8) a rfl rfl rfl rfl rfl) (fun _ _ h=>h) rfl
      simp only[ly];refine h_ (fun _ B u l m a f K g=>?_) (fun v9=>?_)
      ·obtain ⟨i0,i1,i2⟩:=cL a.1.2;go_simp;exact g () _ _ (jM.more (i:=9) a rfl rfl rfl rfl rfl) (fun _ _ h=>h) rfl
      simp only[ly];refine h_ (fun _ B u l m a f K g=>?_) (fun v10=>?_)
      ·skip
       go_simp;exact g () _ _ (jM.more (i:=10) a rfl rfl rfl rfl rfl) (fun _ _ h=>h) rfl
      simp only[ly];refine h_ (fun _ B u l m a f K g=>?_) (fun v11=>?_)
      ·skip
       go_simp;exact g () _ _ (jM.more (i:=11) a rfl rfl rfl rfl rfl) (fun _ _ h=>h) rfl
      simp only[ly];refine h_ (fun _ B u l m a f K g=>?_) (fun v12=>?_)
      ·obtain rfl:v11=_:=f 11 s_;obtain ⟨i0,i1,i2⟩:=cL a.1.2;go_simp;exact g () _ _ (jM.more (i:=12) a rfl rfl rfl rfl rfl) (fun _ _ h=>h) rfl
      simp only[ly];refine h_ (fun _ B u l m a f K g=>?_) (fun v13=>?_)
      ·obtain rfl:v0=_:=f 0 s_;go_simp;exact g () _ _ (jM.more (i:=13) a rfl rfl rfl rfl rfl) (fun _ _ h=>h) rfl
      simp only[ly];refine h_ (fun _ B u l m a f K g=>?_) (fun v14=>?_)
      ·obtain rfl:v13=_:=f 13 s_;go_simp;exact g () _ _ (jM.more (i:=14) a rfl rfl rfl rfl rfl) (fun _ _ h=>h) rfl
      simp only[ly];refine h_ (fun _ B u l m a f K g=>?_) (fun v15=>?_)
      ·obtain rfl:v14=_:=f 14 s_;obtain rfl:v6=_:=f 6 s_;obtain ⟨⟨u',hu⟩,af⟩:=a.2.files.slot (i:=j) (by simp;omega) (p:=6) O_;go_simp;have o:=a.2.putFiles (v_ u ⟨gf,j*15+6,none⟩ (I_ s)) (a.2.files.size (nU O) s) z_;refine g () undef _ (jM.f15 ⟨a.1.1.grown (v_ u ⟨gf,j*15+6,none⟩ (I_ s)) (fun k e=>by cases e;exact I.o1) P Q,(jO u ⟨gf,j*15+6,none⟩ (I_ s) (w7) (by show w7≠gf;omega)).trans a.1.2⟩ ?_) (fun _ _ h=>h) trivial;rw [List.set_set] at o;exact o
      simp only[ly];refine h_ (fun _ B u l m a f K g=>?_) (fun v16=>?_)
      ·obtain rfl:v1=_:=f 1 s_;go_simp;exact g () _ _ (jM.more (i:=16) a rfl rfl rfl rfl rfl) (fun _ _ h=>h) rfl
      simp only[ly];refine h_ (fun _ B u l m a f K g=>?_) (fun v17=>?_)
      ·obtain rfl:v16=_:=f 16 s_;go_simp;exact g () _ _ (jM.more (i:=17) a rfl rfl rfl rfl rfl) (fun _ _ h=>h) rfl
      simp only[ly];refine h_ (fun _ B u l m a f K g=>?_) (fun v18=>?_)
      ·obtain rfl:v17=_:=f 17 s_;obtain rfl:v8=_:=f 8 s_;obtain ⟨⟨u',hu⟩,af⟩:=a.2.files.slot (i:=j) (by simp;omega) (p:=7) O_;go_simp;have o:=a.2.putFiles (v_ u ⟨gf,j*15+7,none⟩ (I_ bb)) (a.2.files.blocks (nU O) bb) z_;refine g () undef _ (jM.f18 ⟨a.1.1.grown (v_ u ⟨gf,j*15+7,none⟩ (I_ bb)) (fun k e=>by cases e;exact I.o1) P Q,(jO u ⟨gf,j*15+7,none⟩ (I_ bb) (w7) (by show w7≠gf;omega)).trans a.1.2⟩ ?_) (fun _ _ h=>h) trivial;rw [List.set_set] at o;exact o
      simp only[ly];refine h_ (fun _ B u l m a f K g=>?_) (fun v19=>?_)
      ·obtain rfl:v2=_:=f 2 s_;go_simp;exact g () _ _ (jM.more (i:=19) a rfl rfl rfl rfl rfl) (fun _ _ h=>h) rfl
      simp only[ly];refine h_ (fun _ B u l m a f K g=>?_) (fun v20=>?_)
      ·obtain rfl:v19=_:=f 19 s_;go_simp;exact g () _ _ (jM.more (i:=20) a rfl rfl rfl rfl rfl) (fun _ _ h=>h) rfl
      simp only[ly];refine h_ (fun _ B u l m a f K g=>?_) (fun v21=>?_)
      ·obtain rfl:v20=_:=f 20 s_;obtain rfl:v9=_:=f 9 s_;have b6:=a.2.files.there (i:=j) (p:=10) (n:=3) (by simp;omega) O_;refine aO (ops:=#[]) rfl (pF rfl 62 (.tmp 98) (.tmp 89) rfl gf (j*15+10) #[I_ q,I_ s,I_ bb] rfl rfl b6 jI (oO) ?_);have o:=a.2.putFiles (J_ u gf (j*15+10) [I_ q,I_ s,I_ bb]) (a.2.files.stable (nU O) q s bb) z_;refine g () undef _ (jM.f21 ⟨a.1.1.grown (J_ u gf (j*15+10) [I_ q,I_ s,I_ bb]) (fun k e=>by cases e;exact I.o1) P Q,(u_ gf _ (j*15+10) u (w7) O_).trans a.1.2⟩ ?_) (fun _ _ h=>h) trivial;rw [List.set_set] at o;exact o
      simp only[ly];refine h_ (fun _ B u l m a f K g=>?_) (fun v22=>?_)
      ·obtain rfl:v3=_:=f 3 s_;go_simp;exact g () _ _ (jM.more (i:=22) a rfl rfl rfl rfl rfl) (fun _ _ h=>h) rfl
      simp only[ly];refine h_ (fun _ B u l m a f K g=>?_) (fun v23=>?_)
      ·obtain rfl:v22=_:=f 22 s_;go_simp;exact g () _ _ (jM.more (i:=23) a rfl rfl rfl rfl rfl) (fun _ _ h=>h) rfl
      simp only[ly];refine h_ (fun _ B u l m a f K g=>?_) (fun v24=>?_)
      ·obtain rfl:v23=_:=f 23 s_;obtain rfl:v10=_:=f 10 s_;obtain ⟨⟨u',hu⟩,af⟩:=a.2.files.slot (i:=j) (by simp;omega) (p:=13) O_;go_simp;have o:=a.2.putFiles (v_ u ⟨gf,j*15+13,none⟩ (I_ wh)) (a.2.files.which (nU O) wh) z_;refine g () undef _ (jM.f24 ⟨a.1.1.grown (v_ u ⟨gf,j*15+13,none⟩ (I_ wh)) (fun k e=>by cases e;exact I.o1) P Q,(jO u ⟨gf,j*15+13,none⟩ (I_ wh) (w7) (by show w7≠gf;omega)).trans a.1.2⟩ ?_) (fun _ _ h=>h) trivial;rw [List.set_set] at o;exact o
      simp only[ly];refine h_ (fun _ B u l m a f K g=>?_) (fun v25=>?_)
      ·obtain rfl:v4=_:=f 4 s_;go_simp;exact g () _ _ (jM.more (i:=25) a rfl rfl rfl rfl rfl) (fun _ _ h=>h) rfl
      simp only[ly];refine h_ (fun _ B u l m a f K g=>?_) (fun v26=>?_)
      ·obtain rfl:v25=_:=f 25 s_;go_simp;exact g () _ _ (jM.more (i:=26) a rfl rfl rfl rfl rfl) (fun _ _ h=>h) rfl
      simp only[ly];refine h_ (fun _ B u l m a f K g=>?_) (fun v27=>?_)
      ·obtain rfl:v26=_:=f 26 s_;obtain rfl:v12=_:=f 12 s_;obtain ⟨⟨u',hu⟩,af⟩:=a.2.files.slot (i:=j) (by simp;omega) (p:=14) O_;go_simp;have o:=a.2.putFiles (v_ u ⟨gf,j*15+14,none⟩ (I_ q)) (a.2.files.seq (nU O) q) z_;refine g () undef _ (jM.f27 ⟨a.1.1.grown (v_ u ⟨gf,j*15+14,none⟩ (I_ q)) (fun k e=>by cases e;exact I.o1) P Q,(jO u ⟨gf,j*15+14,none⟩ (I_ q) (w7) (by show w7≠gf;omega)).trans a.1.2⟩ ?_) (fun _ _ h=>h) trivial;rw [List.set_set] at o;exact o
      simp only[ly];refine dD ?_;intro _ B u L a _;have h1:=a.1.1;have h2:=a.2;rw [L 15 bX,L 18 bX,L 21 bX,L 24 bX,L 27 bX] at h2;clear a L aj;go_wp2;go_meet
      case rel=>exact ⟨h1,h2⟩
     case rest=>
      obtain ⟨ax,av⟩:=hcut;have al:=H_ ax;have ah:=H_ av;clear ax av an I Y;have HP:=H_ (show tD C j y (wA t' y) q s b wh {C with files:=C.files.set j (eb_ y q s bb wh true true true true true)} 0 by unfold tD;rw [if_neg (by rw [ai.out];simp),b3.out];exact ⟨rfl,rfl⟩)
      have J:=ah.box;obtain ⟨x0,x1,x2,x3,x4,x5,x6⟩:=aF J;have M:=al.bk _ _ jQ
      go_wp2_with (refine aJ rfl (.tmp 8) (.tmp 106) rfl rfl rfl rfl M rfl ?_)
      show bodyPost prog f30 _ _ _ _
      refine bodyPost_ret (bQ rfl rfl rfl (setRow_heap _ _ _ _ _ _ M)) rfl ?_;refine ⟨_,_,_,_,_,_,_,_,_,?_,rfl,(ah.boxRow (Z:=w.heap.size+1) O_ (fun h=>h.2.2 rfl) (E_ (o_ gf) nf cf (o_ gr) nr cr E3 e3 k3 E4 e4 k4 E5 e5 k5 E6 e6 k6 E7 e7 k7)).at_.weak (fun z _ hz=>hz.1),j_ al.below O_ _⟩;exact HP
end
section
theorem fb_ {C:Ck} (n:Int) {a b c d e f g:Value} (h:x_ w S a b c d e f g C) (hus:∀w',q_ w w'->C_ 43 #[cI a b c d e f g,I_ n] w' (cP false w')) :
  C_ 18 #[cI a b c d e f g,I_ n] w (tK (fun rq err=>rq=rq0/\err=2) w):=by
 obtain ⟨p,D,c1,q,E,c2,r,F,x,s,G,y,t,H,z,u,I,A,v,J,B,rfl,rfl,rfl,rfl,rfl,rfl,rfl⟩:=x_.caps h;clear h;have l:=H_ (show St w [(w.heap.size,.cells (E_ p D c1 q E c2 r F x s G y t H z u I A v J B) 30 (0,0)),(w.heap.size+1,lK),(w.heap.size+1+1,.cells #[I_ 0] 38 (0,0))] (((w.alloc (.cells (E_ p D c1 q E c2 r F x s G y t H z u I A v J B) 30)).alloc (lK)).alloc (.cells #[I_ 0] 38)) from ((St.nil w).push _ _ rfl).push _ (w+1) z_ |>.push _ (w+1+1) z_)
 go_enter_defers func18,ntmps18
 go_upto_region 2 with fail
 generalize ((w.alloc (.cells (E_ p D c1 q E c2 r F x s G y t H z u I A v J B) 30)).alloc (lK)).alloc (.cells #[I_ 0] 38)=V at l;have m:=l.bk _ _ cO;obtain ⟨x0,L,M,N,O,P,Q⟩:=aF m
 go_upto_region 3 with (go_at_call 43;refine CM (hus _ l.below) ?_;rintro e w2 ⟨rfl,o⟩;have j:=H_ (l.step o))
 clear x0 L M N O P Q m o l hus;have k:=j.bk _ _ jQ;have i:=j.bk _ _ jB;have R:(w2.setRow (w+1) lO).cell? ⟨w+1+1,0,none⟩=some (I_ 0):=(c_ (setRow_other _ (w+1) (w+1+1) _ O_)).trans (a_ i 0);have U:(w2.setRow (w+1) lO).frozen? ⟨w+1+1,0,none⟩=false:=(World.frozen?_of_block (a:=⟨w+1+1,0,none⟩) (setRow_other _ (w+1) (w+1+1) _ O_)).trans (t_ i 0)
 go_wp2_with (refine cV rfl 37 (.tmp 4) (.tmp 11) rfl rfl (w+1) lO rfl rfl 37 _ k bT rfl (dX) ?_)
 refine leaves_cons (f:=41) (args:=#[P_ (w+1+1)]) z_ (by simp [go_sem]) ?_;refine (fO).mono ?_;rintro e W K ⟨rfl,rfl,rfl⟩;refine bg_ rfl 2 rfl rfl ⟨_,k⟩ ⟨_,i⟩ rfl j.below ?_;exact ⟨rfl,rfl⟩
theorem yI {C:Ck} (n:Int) (q s b k:Int) (h:x_ w S a1 a2 a3 a4 a5 a6 a7 C) (ok:lS C) (hn:¬(0<=n/\n<(C.files.length:Int))) (hS:∀z,w.heap.size<=z->S z) :
  C_ 26 #[cI a1 a2 a3 a4 a5 a6 a7,I_ n,qY q s b,I_ k] w (gC (fun C' err=>C'=C/\err=2) S w):=by
 have v:=fun w' (hb:q_ w w') (hlt:w.heap.size+1+1<w'.heap.size)=>vT C a1 a2 a3 a4 a5 a6 a7 (S5e S (w)) w' ((h.weak (fun z U hs=>⟨hs,O_,O_,O_⟩)).step hb) ok (fun z U=>⟨hS z O_,O_,O_,O_⟩);have g:=fun w' (hb:q_ w w')=>gU n (h.step hb);rw [show (decide (0<=n)&&decide (n<(C.files.length:Int)))=false by simp;omega] at g;obtain ⟨F,W,c1,G,Y,c2,H,m3,N,I,m4,O,J,m5,P,K,m6,Q,L,m7,R,rfl,rfl,rfl,rfl,rfl,rfl,rfl⟩:=x_.caps h;clear h ok hn;have i:=H_ (show St w [(w.heap.size,.cells (E_ F W c1 G Y c2 H m3 N I m4 O J m5 P K m6 Q L m7 R) 30 (0,0)),(w.heap.size+1,.cells #[I_ q,I_ s,I_ b] 62 (0,0)),(w.heap.size+1+1,cG)] (((w.alloc (.cells (E_ F W c1 G Y c2 H m3 N I m4 O J m5 P K m6 Q L m7 R) 30)).alloc (.cells #[I_ q,I_ s,I_ b] 62)).alloc (cG)) from ((St.nil w).push _ _ rfl).push _ (w+1) z_ |>.push _ (w+1+1) z_);unfold qY;go_enter func26,ntmps26
 go_upto_region 1 with fail
 generalize ((w.alloc (.cells (E_ F W c1 G Y c2 H m3 N I m4 O J m5 P K m6 Q L m7 R) 30)).alloc (.cells #[I_ q,I_ s,I_ b] 62)).alloc (cG)=V at i;have t:w.heap.size+1+1<V.heap.size:=p_ (i.bk _ _ jB);have o:=i.bk _ _ cO;obtain ⟨x0,x,y,A,B,D,E⟩:=aF o
 go_upto_region 2 with (go_at_call 42;refine CM (v _ i.below t) ?_;rintro e w1 ⟨X,gf,nf,cf,gr,nr,cr,c',d',e',f',g',rfl,d,u⟩)
 have a:=H_ (i.step u);have c:=H_ d;obtain ⟨B1,r⟩:=aZ V.heap.size;rw [<-r] at c t;obtain ⟨E3,e3,k3,rfl⟩:=d.zones.cap;obtain ⟨E4,e4,k4,rfl⟩:=d.groups.cap;obtain ⟨E5,e5,k5,rfl⟩:=d.lists.cap;obtain ⟨E6,e6,k6,rfl⟩:=d.clocks.cap;obtain ⟨E7,e7,k7,rfl⟩:=d.ptes.cap;clear x0 x y A B D E o d u i r v;have p:=a.bk _ _ cO;obtain ⟨x0,x,y,A,B,D,E⟩:=aF p
 go_upto_region 3 with (go_at_call 73;refine CM (g _ a.below) ?_;rintro e w2 ⟨rfl,f⟩;have m:=H_ (a.step f);have j:=H_ (c.step f))
 clear x0 x y A B D E p f a c g;have M:=j.box;obtain ⟨x0,x,y,A,B,D,E⟩:=aF M;have l:=m.bk _ _ jB
 go_wp2_with (refine aJ rfl (.tmp 8) (.tmp 23) rfl rfl rfl rfl l rfl ?_)
 show bodyPost prog f26 _ _ _ _
 refine bodyPost_ret (bQ rfl rfl rfl (setRow_heap _ _ _ _ _ _ l)) rfl ?_;exact ⟨_,_,_,_,_,_,_,_,_,⟨rfl,rfl⟩,rfl,(j.boxRow (Z:=w.heap.size+1+1) O_ (fun h=>h.2.2.2 rfl) (E_ (o_ gf) nf cf (o_ gr) nr cr E3 e3 k3 E4 e4 k4 E5 e5 k5 E6 e6 k6 E7 e7 k7)).at_.weak (fun z _ U=>U.1),j_ m.below O_ _⟩
theorem gO_ {C:Ck} (n:Int) (fs sc:ByteArray) (h:x_ w S a1 a2 a3 a4 a5 a6 a7 C) (ok:lS C) (hn:¬(0<=n/\n<(C.files.length:Int))) (hS:∀z,w.heap.size<=z->S z) :
  C_ 30 #[cI a1 a2 a3 a4 a5 a6 a7,I_ n,.string fs,.string sc] w (gC (fun C' err=>C'=C/\err=2) S w):=by
 have r:=fun w' (hb:q_ w w') (hlt:w.heap.size+1<w'.heap.size)=>vT C a1 a2 a3 a4 a5 a6 a7 (S2 S (w)) w' ((h.weak (fun z B hs=>⟨hs,O_,O_⟩)).step hb) ok (fun z B=>⟨hS z O_,O_,O_⟩);have f:=fun w' (hb:q_ w w')=>gU n (h.step hb);rw [show (decide (0<=n)&&decide (n<(C.files.length:Int)))=false by simp;omega] at f;obtain ⟨D,P,c1,E,Q,c2,F,R,K,G,U,L,H,W,M,I,Y,N,J,m7,O,rfl,rfl,rfl,rfl,rfl,rfl,rfl⟩:=x_.caps h;clear h ok hn;have g:=H_ (show St w [(w.heap.size,.cells (E_ D P c1 E Q c2 F R K G U L H W M I Y N J m7 O) 30 (0,0)),(w.heap.size+1,cG)] ((w.alloc (.cells (E_ D P c1 E Q c2 F R K G U L H W M I Y N J m7 O) 30)).alloc (cG)) from ((St.nil w).push _ _ rfl).push _ (w+1) z_);go_enter func30,ntmps30
 go_upto_region 1 with fail
 generalize (w.alloc _).alloc _=V at g;have p:w.heap.size+1<V.heap.size:=p_ (g.bk _ _ jQ);have l:=g.bk _ _ cO;obtain ⟨x0,s,t,u,v,x,y⟩:=aF l
 go_upto_region 2 with (go_at_call 42;refine CM (r _ g.below p) ?_;rintro e w1 ⟨X,gf,nf,cf,gr,nr,cr,c',d',e',f',g',rfl,c,q⟩)
 have a:=H_ (g.step q);have b:=H_ c;obtain ⟨B1,o⟩:=aZ V.heap.size;rw [<-o] at b p;obtain ⟨E3,e3,k3,rfl⟩:=c.zones.cap;obtain ⟨E4,e4,k4,rfl⟩:=c.groups.cap;obtain ⟨E5,e5,k5,rfl⟩:=c.lists.cap;obtain ⟨E6,e6,k6,rfl⟩:=c.clocks.cap;obtain ⟨E7,e7,k7,rfl⟩:=c.ptes.cap;clear x0 s t u v x y l c q g o r;have m:=a.bk _ _ cO;obtain ⟨x0,s,t,u,v,x,y⟩:=aF m
 go_upto_region 3 with (go_at_call 73;refine CM (f _ a.below) ?_;rintro e w2 ⟨rfl,d⟩;have k:=H_ (a.step d);have i:=H_ (b.step d))
 clear x0 s t u v x y m d a b f;have A:=i.box;obtain ⟨x0,s,t,u,v,x,y⟩:=aF A;have j:=k.bk _ _ jQ
 go_wp2_with (refine aJ rfl (.tmp 8) (.tmp 25) rfl rfl rfl rfl j rfl ?_)
 show bodyPost prog f30 _ _ _ _
 refine bodyPost_ret (bQ rfl rfl rfl (setRow_heap _ _ _ _ _ _ j)) rfl ?_;exact ⟨_,_,_,_,_,_,_,_,_,⟨rfl,rfl⟩,rfl,(i.boxRow (Z:=w.heap.size+1) O_ (fun h=>h.2.2 rfl) (E_ (o_ gf) nf cf (o_ gr) nr cr E3 e3 k3 E4 e4 k4 E5 e5 k5 E6 e6 k6 E7 e7 k7)).at_.weak (fun z _ B=>B.1),j_ k.below O_ _⟩
theorem dg_ {C:Ck} (n sz:Int) {a b c d e f g:Value} (h:x_ w S a b c d e f g C) (ok:lS C) (hn:¬(0<=n/\n<(C.files.length:Int))\/sz<0\/128<sz) (hS:∀z,w.heap.size<=z->S z) :
  C_ 22 #[cI a b c d e f g,I_ n,I_ sz] w (vY (fun C' rq ino err=>C'=C/\rq=rq0/\ino=qY 0 0 0/\err=2) S w):=by
 have R:=fun w' (hb:q_ w w') (hlt:w.heap.size+1+1+1+1<w'.heap.size)=>vT C a b c d e f g (S6 S (w)) w' ((h.weak (fun z hz hs=>⟨hs,O_,O_,O_,O_,O_⟩)).step hb) ok (fun z hz=>⟨hS z O_,O_,O_,O_,O_,O_⟩);have p:=fun w' (hb:q_ w w')=>gU n (h.step hb);obtain ⟨W,o⟩:=aZ ((decide (0<=n)&&decide (n<(C.files.length:Int))));rw [<-o] at p;have U:W=false\/sz<0\/128<sz:=by
  rcases hn with h | h
  ·left
   rw [o];simp;omega
  ·exact .inr h
 obtain ⟨A1,m1,c1,A2,m2,c2,A3,m3,c3,A4,m4,c4,A5,m5,c5,A6,m6,c6,A7,m7,c7,rfl,rfl,rfl,rfl,rfl,rfl,rfl⟩:=x_.caps h;clear h ok hn o;have v:=H_ (show St w [(w.heap.size,.cells (E_ A1 m1 c1 A2 m2 c2 A3 m3 c3 A4 m4 c4 A5 m5 c5 A6 m6 c6 A7 m7 c7) 30 (0,0)),(w.heap.size+1,.cells #[I_ n] 3 (0,0)),(w.heap.size+1+1,cG),(w.heap.size+1+1+1,lK),(w.heap.size+1+1+1+1,.cells #[I_ 0,I_ 0,I_ 0] 62 (0,0))] (((((w.alloc (.cells (E_ A1 m1 c1 A2 m2 c2 A3 m3 c3 A4 m4 c4 A5 m5 c5 A6 m6 c6 A7 m7 c7) 30)).alloc (.cells #[I_ n] 3)).alloc (cG)).alloc (lK)).alloc (.cells #[I_ 0,I_ 0,I_ 0] 62)) from (((((St.nil w).push _ _ rfl).push _ (w+1) z_).push _ (w+1+1) z_).push _ (w+1+1+1) z_).push _ (w+1+1+1+1) z_);go_enter func22,ntmps22
 go_upto_region 1 with fail
 generalize ((((w.alloc (.cells (E_ A1 m1 c1 A2 m2 c2 A3 m3 c3 A4 m4 c4 A5 m5 c5 A6 m6 c6 A7 m7 c7) 30)).alloc (.cells #[I_ n] 3)).alloc (cG)).alloc (lK)).alloc (.cells #[I_ 0,I_ 0,I_ 0] 62)=V at v;have P:w.heap.size+1+1+1+1<V.heap.size:=p_ (v.bk _ _ M4_);have M:=v.bk _ _ cO;obtain ⟨x0,Y,x2,x3,x4,x5,x6⟩:=aF M
 go_upto_region 2 with (go_at_call 42;refine CM (R _ v.below P) ?_;rintro e w1 ⟨X,gf,nf,x,gr,nr,y,c',d',e',f',g',rfl,l,Q⟩)
 have i:=H_ (v.step Q);have k:=H_ l;obtain ⟨B1,O⟩:=aZ V.heap.size;rw [<-O] at k P;obtain ⟨q,A,G,rfl⟩:=l.zones.cap;obtain ⟨r,B,H,rfl⟩:=l.groups.cap;obtain ⟨s,D,I,rfl⟩:=l.lists.cap;obtain ⟨t,E,J,rfl⟩:=l.clocks.cap;obtain ⟨u,F,K,rfl⟩:=l.ptes.cap;clear x0 Y x2 x3 x4 x5 x6 M l Q v O R;have N:=i.bk _ _ cO;obtain ⟨x0,Y,x2,x3,x4,x5,x6⟩:=aF N;have a1:=i.bk _ _ jQ;have fj:=xV a1;have a5:W=false\/(W=true/\sz<0)\/(W=true/\¬sz<0/\128<sz):=by
  cases W with
  | false=>exact .inl rfl
  | true=>
   rcases U with h | h | h
   ·cases h
   ·exact .inr (.inl ⟨rfl,h⟩)
   ·exact .inr (.inr ⟨rfl,O_,h⟩)
 clear U
 rcases a5 with rfl | ⟨rfl,h0⟩ | ⟨rfl,h0,h1⟩
 all_goals
  go_upto_region 3 with (go_at_call 73;refine CM (p _ i.below) ?_;rintro e w2 ⟨rfl,m⟩;have j:=H_ (i.step m);have L:=H_ (k.step m))
  clear x0 Y x2 x3 x4 x5 x6 N m i k p;have a0:=L.box;obtain ⟨x0,Y,x2,x3,x4,x5,x6⟩:=aF a0;have HR:=j.bk _ _ jB;have HQ:=j.bk _ _ tI;have HN:=j.bk _ _ M4_
  go_wp2_with (first
   | (refine aJ rfl (.tmp 6) (.tmp 32) rfl rfl rfl rfl HR rfl ?_)
   | (refine cV rfl 37 (.tmp 7) (.tmp 33) rfl rfl (w+1+1+1) lO rfl rfl 37 _ ((setRow_other _ (w+1+1) (w+1+1+1) _ O_).trans HQ) bT rfl (dX) ?_)
   | (refine cV rfl 62 (.tmp 8) (.tmp 34) rfl rfl (w+1+1+1+1) #[I_ 0,I_ 0,I_ 0] rfl rfl 62 _ ((setRow_other _ (w+1+1+1) (w+1+1+1+1) _ O_).trans ((setRow_other _ (w+1+1) (w+1+1+1+1) _ O_).trans HN)) jI rfl (oO) ?_))
  show bodyPost prog f22 _ _ _ _
  have a3:((w2.setRow (w+1+1) (E_ (o_ gf) nf x (o_ gr) nr y q A G r B H s D I t E J u F K)).setRow (w+1+1+1) lO).heap[w.heap.size+1+1+1]?=some (lK):=setRow_heap _ _ _ _ _ _ ((setRow_other w2 (w+1+1) (w+1+1+1) (E_ (o_ gf) nf x (o_ gr) nr y q A G r B H s D I t E J u F K) O_).trans HQ);have a2:=(setRow_other (w2.setRow (w+1+1) (E_ (o_ gf) nf x (o_ gr) nr y q A G r B H s D I t E J u F K)) (w+1+1+1) (w+1+1+1+1) lO O_).trans ((setRow_other w2 (w+1+1) (w+1+1+1+1) (E_ (o_ gf) nf x (o_ gr) nr y q A G r B H s D I t E J u F K) O_).trans HN);have a4:=(setRow_other (w2.setRow (w+1+1) (E_ (o_ gf) nf x (o_ gr) nr y q A G r B H s D I t E J u F K)) (w+1+1+1) (w+1+1) lO O_).trans (setRow_heap _ _ _ _ _ _ HR);refine bodyPost_ret (fj_ rfl rfl rfl rfl rfl ((setRow_other _ (w+1+1+1+1) (w+1+1) _ O_).trans a4) ((setRow_other _ (w+1+1+1+1) (w+1+1+1) _ O_).trans a3) (setRow_heap _ _ _ _ _ _ a2) rfl rfl rfl) rfl ?_
  exact ⟨C,_,_,_,_,_,_,_,_,_,_,⟨rfl,rfl,rfl,rfl⟩,rfl,(((L.boxRow (Z:=w.heap.size+1+1) O_ (fun h=>h.2.2.2.1 rfl) (E_ (o_ gf) nf x (o_ gr) nr y q A G r B H s D I t E J u F K)).boxRow (Z:=w.heap.size+1+1+1) O_ (fun h=>h.2.2.2.2.1 rfl) lO).boxRow (Z:=w.heap.size+1+1+1+1) O_ (fun h=>h.2.2.2.2.2 rfl) _).at_.weak (fun z _ hz=>hz.1),j_ (j_ (j_ j.below O_ _) O_ _) O_ _⟩
end
section
def CKg (a b:Nat) (H:World->Prop) (P:Bool->Bool->World->Prop) (d:Nat->Bool) (wx:World):Prop:=H wx/\P (d a) (d b) wx
section
variable {a b:Nat} {H:World->Prop} {P:Bool->Bool->World->Prop} {d:Nat->Bool} {wx:World} {i:Nat}
theorem CKg.more (h:CKg a b H P d wx) (h1:(a == i)=false) (h2:(b == i)=false):CKg a b H P (Y_ d i) wx:=by
 refine ⟨h.1,?_⟩;rw [F_ h1,F_ h2];exact h.2
theorem CKg.fa (h0:H wx) (h:P true (d b) wx) (hn:(b == a)=false):CKg a b H P (Y_ d a) wx:=by
 refine ⟨h0,?_⟩;rw [cF,F_ hn];exact h
theorem CKg.fb (h0:H wx) (h:P (d a) true wx) (hn:(a == b)=false):CKg a b H P (Y_ d b) wx:=by
 refine ⟨h0,?_⟩;rw [cF,F_ hn];exact h
end
end
section
theorem g4_ {C:Ck} (n:Int) {a b c d e f g:Value} (h:x_ w S a b c d e f g C) (hn:¬(1<=n/\n<=C.frames.length)):C_ 37 #[cI a b c d e f g,I_ n] w (cP false w):=by
 obtain ⟨A,cap,rfl,i,j⟩:=h.frames.form;clear h
 by_cases h1:1<=n
 ·have h2:decide (n<=(C.frames.length:Int))=false:=dF (fun h=>hn ⟨h1,h⟩);clear hn;go_enter func37,ntmps37;go_wp2;go_ret;exact ⟨rfl,b_ B_ _⟩
 ·have h2:decide (1<=n)=false:=dF h1;clear hn h1;go_enter func37,ntmps37;go_wp2;go_ret;exact ⟨rfl,b_ B_ _⟩
end
section
section
variable {F G Z:Nat} {C:Ck}
theorem cE.ofOk (h:cE F G Z C):lS C where
 ok:=h.ok
 zn:=⟨h.zok.ne,by have:=h.nz;have:=h.few;omega⟩
 pt:=by have:=h.pok.len;omega
 free:=fun z b=>by
  obtain ⟨k,a⟩:=List.getElem?_of_mem b;have:=(h.zok.each k z a).flen (by have:=h.zok.nx k (Nat.le_of_lt (bK a));omega);omega
 lru:=fun l hl=>by
  obtain ⟨k,a⟩:=List.getElem?_of_mem hl;have:=(h.lok k l a).lens;omega
theorem cE.num (h:cE F G Z C) (n:Int):(∃i j x y,n=((i:Nat):Int)+1/\dE C i x j y/\0<D_ y.c x.page)\/((∀i j x y,n=((i:Nat):Int)+1->¬dE C i x j y)/\(¬(1<=n/\n<=(C.frames.length:Int))\/∃i x,n=((i:Nat):Int)+1/\C.frames[i]?=some x/\x.file=-1)):=by
 by_cases g:1<=n/\n<=(C.frames.length:Int)
 ·obtain ⟨i,d⟩:∃i:Nat,n=(i:Int)+1:=⟨(n - 1).toNat,O_⟩;obtain ⟨x,b⟩:∃x,C.frames[i]?=some x:=⟨_,cU O_⟩
  by_cases hf:x.file=-1
  ·refine .inr ⟨fun f j x' y' e a=>?_,.inr ⟨i,x,d,b,hf⟩⟩;obtain rfl:f=i:=O_
   obtain rfl:x'=x:=aP (a.fr.symm.trans b);have:=a.ix;omega
  ·obtain ⟨j,y,a,hv⟩:=h.used b hf;exact .inl ⟨i,j,x,y,d,a,O_⟩
 ·refine .inr ⟨fun f j x' y' e a=>?_,.inl g⟩;have:=bK a.fr;omega
theorem cE.pnot (h:cE F G Z C) {a b c d e f g:Value} (hc:x_ w S a b c d e f g C) (hn:¬(1<=n/\n<=(C.frames.length:Int))\/∃i x,n=((i:Nat):Int)+1/\C.frames[i]?=some x/\x.file=-1) (w':World) (hb:q_ w w'):C_ 43 #[cI a b c d e f g,I_ n] w' (cP false w'):=by
 rcases hn with hn | ⟨i,x,rfl,hx,hf⟩
 ·exact cp_ n (hc.step hb) hn
 ·have:=pT i x (hc.step hb) hx (by have:=h.nr;omega);rw [dF O_] at this;exact this
theorem cE.rnot (h:cE F G Z C) {a b c d e f g:Value} (hc:x_ w S a b c d e f g C) (hn:¬(1<=n/\n<=(C.frames.length:Int))\/∃i x,n=((i:Nat):Int)+1/\C.frames[i]?=some x/\x.file=-1) (w':World) (hb:q_ w w'):C_ 37 #[cI a b c d e f g,I_ n] w' (cP false w'):=by
 rcases hn with hn | ⟨i,x,rfl,hx,hf⟩
 ·exact g4_ n (hc.step hb) hn
 ·have:=yR i x (hc.step hb) hx (by have:=h.nr;omega);rw [show aS_ x=false by unfold aS_;rw [hf];rfl] at this;exact this
end
theorem dE.one {C:Ck} {i' j':Nat} {x':Fr} {y':Fl} (h:dE C i x j y) (h':dE C i' x' j' y') (e:((i:Nat):Int)+1=(i':Int)+1):i'=i/\x'=x/\j'=j/\y'=y:=by
 obtain rfl:i'=i:=O_
 obtain rfl:x'=x:=aP (h'.fr.symm.trans h.fr);obtain rfl:j'=j:=by have:=h.ix;have:=h'.ix;omega
 exact ⟨rfl,rfl,rfl,aP (h'.fl.symm.trans h.fl)⟩
def tC (C:Ck) (n:Int) (C':Ck) (rq:Value) (err:Int):Prop:=
 (∃i j x y,n=((i:Nat):Int)+1/\dE C i x j y/\jR C i j x y C' rq err)\/((∀i j x y,n=((i:Nat):Int)+1->¬dE C i x j y)/\C'=C/\rq=rq0/\err=2)
def zC (C:Ck) (n k:Int) (C':Ck) (err:Int):Prop:=
 (∃i j x y,n=((i:Nat):Int)+1/\dE C i x j y/\nI C i j x y k C' err)\/((∀i j x y,n=((i:Nat):Int)+1->¬dE C i x j y)/\C'=C/\err=2)
def aZ_ (C:Ck) (n:Int) (rq:Value) (err:Int):Prop:=
 (∃i j x y,n=((i:Nat):Int)+1/\dE C i x j y/\rZ x y rq err)\/((∀i j x y,n=((i:Nat):Int)+1->¬dE C i x j y)/\rq=rq0/\err=2)
theorem jR.one {C:Ck} (h1:jR C i j x y C1 r1 e1) (h2:jR C i j x y C2 r2 e2):C2=C1/\r2=r1/\e2=e1:=by
 unfold jR at h1 h2
 split at h1
 ·rename_i h;rw [if_pos h] at h2;obtain ⟨rfl,rfl,rfl⟩:=h1;exact h2
 rename_i h;rw [if_neg h] at h2
 split at h1
 ·rename_i h;rw [if_pos h] at h2;obtain ⟨rfl,rfl,rfl⟩:=h1;exact h2
 ·rename_i h;rw [if_neg h] at h2;obtain ⟨rfl,rfl,rfl⟩:=h1;exact h2
theorem nI.one {C:Ck} (h1:nI C i j x y k C1 e1) (h2:nI C i j x y k C2 e2):C2=C1/\e2=e1:=by
 unfold nI at h1 h2
 split at h1
 ·rename_i h;rw [if_pos h] at h2;obtain ⟨rfl,rfl⟩:=h1;exact h2
 rename_i h;rw [if_neg h] at h2
 split at h1
 ·rename_i h;rw [if_pos h] at h2;obtain ⟨rfl,rfl⟩:=h1;exact h2
 ·rename_i h;rw [if_neg h] at h2;obtain ⟨rfl,rfl⟩:=h1;exact h2
theorem rZ.one (h1:rZ x y r1 e1) (h2:rZ x y r2 e2):r2=r1/\e2=e1:=by
 unfold rZ at h1 h2
 split at h1
 ·rename_i h;rw [if_pos h] at h2;obtain ⟨rfl,rfl⟩:=h1;exact h2
 ·rename_i h;rw [if_neg h] at h2;obtain ⟨rfl,rfl⟩:=h1;exact h2
theorem tC.one {C:Ck} (h1:tC C n C1 r1 e1) (h2:tC C n C2 r2 e2):C2=C1/\r2=r1/\e2=e1:=by
 rcases h1 with ⟨i,j,x,y,rfl,hu,hP⟩ | ⟨hn,rfl,rfl,rfl⟩
 ·rcases h2 with ⟨i',j',x',y',e,hu',hP'⟩ | ⟨hn',_⟩
  ·obtain ⟨rfl,rfl,rfl,rfl⟩:=hu.one hu' e;exact hP.one hP'
  ·exact absurd hu (hn' i j x y rfl)
 ·rcases h2 with ⟨i',j',x',y',e,hu',hP'⟩ | ⟨_,rfl,rfl,rfl⟩
  ·exact absurd hu' (hn i' j' x' y' e)
  ·exact ⟨rfl,rfl,rfl⟩
theorem zC.one {C:Ck} (h1:zC C n k C1 e1) (h2:zC C n k C2 e2):C2=C1/\e2=e1:=by
 rcases h1 with ⟨i,j,x,y,rfl,hu,hP⟩ | ⟨hn,rfl,rfl⟩
 ·rcases h2 with ⟨i',j',x',y',e,hu',hP'⟩ | ⟨hn',_⟩
  ·obtain ⟨rfl,rfl,rfl,rfl⟩:=hu.one hu' e;exact hP.one hP'
  ·exact absurd hu (hn' i j x y rfl)
 ·rcases h2 with ⟨i',j',x',y',e,hu',hP'⟩ | ⟨_,rfl,rfl⟩
  ·exact absurd hu' (hn i' j' x' y' e)
  ·exact ⟨rfl,rfl⟩
theorem aZ_.one {C:Ck} (h1:aZ_ C n r1 e1) (h2:aZ_ C n r2 e2):r2=r1/\e2=e1:=by
 rcases h1 with ⟨i,j,x,y,rfl,hu,hP⟩ | ⟨hn,rfl,rfl⟩
 ·rcases h2 with ⟨i',j',x',y',e,hu',hP'⟩ | ⟨hn',_⟩
  ·obtain ⟨rfl,rfl,rfl,rfl⟩:=hu.one hu' e;exact hP.one hP'
  ·exact absurd hu (hn' i j x y rfl)
 ·rcases h2 with ⟨i',j',x',y',e,hu',hP'⟩ | ⟨_,rfl,rfl⟩
  ·exact absurd hu' (hn i' j' x' y' e)
  ·exact ⟨rfl,rfl⟩
theorem lT.imp {P Q:Ck->Value->Int->Prop} (h:lT P S w en w') (hq:∀C rq e,P C rq e->Q C rq e):lT Q S w en w':=by
 obtain ⟨C',err,a,b,c,d,e,f,g,rq,h1,h2⟩:=h;exact ⟨C',err,a,b,c,d,e,f,g,rq,hq _ _ _ h1,h2⟩
theorem gC.imp {P Q:Ck->Int->Prop} (h:gC P S w en w') (hq:∀C e,P C e->Q C e):gC Q S w en w':=by
 obtain ⟨C',err,a,b,c,d,e,f,g,h1,h2⟩:=h;exact ⟨C',err,a,b,c,d,e,f,g,hq _ _ h1,h2⟩
theorem tK.imp {P Q:Value->Int->Prop} (h:tK P w en w') (hq:∀rq e,P rq e->Q rq e):tK Q w en w':=by
 obtain ⟨rq,err,h1,h2⟩:=h;exact ⟨rq,err,hq _ _ h1,h2⟩
section
variable {F G Z:Nat} (C:Ck) (n:Int) (a b c d e f g:Value) (S:Nat->Prop) (w:World) (h:x_ w S a b c d e f g C) (hI:cE F G Z C) (hS:∀z,w.heap.size<=z->S z)
include h hI hS
theorem aB_ (hdb:qM w):C_ 10 #[cI a b c d e f g,I_ n] w (lT (tC C n) S w):=by
 rcases hI.num n with ⟨i,j,x,y,rfl,hu,hv⟩ | ⟨hno,hn⟩
 ·obtain ⟨s,o,m⟩:=(hI.file j y hu.fl).slot;exact (e7_ s h hI.ofOk hu o m hI.pok hv hdb hS).mono fun _ _ l=>l.imp fun _ _ _ k=> .inl ⟨i,j,x,y,rfl,hu,k⟩
 ·exact (e6_ n h hI.ofOk (hI.pnot h hn) hS).mono fun _ _ l=>l.imp fun _ _ _ k=> .inr ⟨hno,k⟩
theorem e9_ (k:Int):C_ 16 #[cI a b c d e f g,I_ n,I_ k] w (gC (zC C n k) S w):=by
 rcases hI.num n with ⟨i,j,x,y,rfl,hu,hv⟩ | ⟨hno,hn⟩
 ·exact (iH_ k h hI.ofOk hu (hI.file j y hu.fl).err hv hS).mono fun _ _ m=>m.imp fun _ _ l=> .inl ⟨i,j,x,y,rfl,hu,l⟩
 ·exact (iG_ n k h hI.ofOk (hI.pnot h hn) hS).mono fun _ _ m=>m.imp fun _ _ l=> .inr ⟨hno,l⟩
omit hS in
theorem fa_ (hdb:qM w):C_ 18 #[cI a b c d e f g,I_ n] w (tK (aZ_ C n) w):=by
 rcases hI.num n with ⟨i,j,x,y,rfl,hu,hv⟩ | ⟨hno,hn⟩
 ·obtain ⟨s,o,m⟩:=(hI.file j y hu.fl).slot;exact (fc_ h (by have:=hI.nr;omega) hu O_ hdb).mono fun _ _ l=>l.imp fun _ _ k=> .inl ⟨i,j,x,y,rfl,hu,k⟩
 ·exact (fb_ n h (hI.pnot h hn)).mono fun _ _ l=>l.imp fun _ _ k=> .inr ⟨hno,k⟩
end
def dv_ (C:Ck) (f:Int):List Int:=if 0<=f then (match C.files[f.toNat]? with | some y=>nQ C (fun p=>D_ y.c (p:Int)) 8 | none=>[]) else []
theorem dw_ (C:Ck):nQ C (fun _=>0) 8=[]:=by
 unfold nQ;rw [show (fun p:Nat=>kN C 0)=fun _=>false from funext fun _=>by simp [kN]];simp
theorem fB_ {C:Ck} {f:Int} (h:¬(0<=f/\f<(C.files.length:Int))):dv_ C f=[]:=by
 unfold dv_
 split
 ·rw [xX O_]
 ·rfl
theorem cC_ {C:Ck} (h:C.files[j]?=some y):dv_ C (j:Int)=nQ C (fun p=>D_ y.c (p:Int)) 8:=by
 unfold dv_;rw [if_pos O_,show ((j:Int)).toNat=j by simp,h]
section
variable {F G Z:Nat} (C:Ck) (n:Int) (a b c d e f g:Value) (S:Nat->Prop) (w:World) (h:x_ w S a b c d e f g C) (hI:cE F G Z C) (hS:∀z,w.heap.size<=z->S z)
include h hI hS
theorem dj_:C_ 12 #[cI a b c d e f g,I_ n] w (pG (dv_ C n) S w):=by
 have hl:C.frames.length<=100:=by have:=hI.nr;omega
 by_cases k:0<=n/\n<(C.files.length:Int)
 ·obtain ⟨j,rfl⟩:=sG k.1;obtain ⟨y,l⟩:∃y,C.files[j]?=some y:=⟨_,cU O_⟩;rw [cC_ l];exact wW j h hl (fun p w' i _=>gT_ j y p (h.step i) l) hS
 ·rw [fB_ k,<-dw_ C];exact wW n h hl (fun p w' i _=>gR_ n p (h.step i) k) hS
end
end
section
structure Cv where
 a:Value
 b:Value
 c:Value
 d:Value
 e:Value
 f:Value
 g:Value
 C:Ck
def Cv.at_ (v:Cv) (W:World) (S:Nat->Prop):Prop:=x_ W S v.a v.b v.c v.d v.e v.f v.g v.C
abbrev oK (v:Cv):Obj:= .cells #[v.a,v.b,v.c,v.d,v.e,v.f,v.g] 30 (0,0)
theorem Cv.to {v:Cv} {C:Ck} (e:v.C=C) (h:v.at_ W S):x_ W S v.a v.b v.c v.d v.e v.f v.g C:=e ▸ h
theorem iD {ops:Array Oper} {rest:List Oper} {o:Oper} {a:Act} {Q:Exit->Act->World->Prop} {old:Array Value} (hgd:o.guard=none) (x y:Operand) (ho:o.op = .store 30 x y) (hd:o.dst=none) {g:Nat} (v:Cv)
  (hx:a.eval x = P_ g) (hy:a.eval y = .agg #[v.a,v.b,v.c,v.d,v.e,v.f,v.g]) (hg:w.heap[g]?=some (.cells old 30 (0,0))) (hold:old.size=7) (hv:v.at_ W S)
  (h:wpList prog ops Q rest a (w.setRow g #[v.a,v.b,v.c,v.d,v.e,v.f,v.g])):wpList prog ops Q (o :: rest) a w:=by
 obtain ⟨a1,i,c1,j,k,l,m,C⟩:=v;have hc:x_ W S a1 i c1 j k l m C:=hv;obtain ⟨n,z,n1,p,A,n2,q,B,n3,r,D,H,s,E,I,t,F,J,u,G,K,rfl,rfl,rfl,rfl,rfl,rfl,rfl⟩:=x_.caps hc;exact cV hgd 30 x y ho hd g _ hx hy 30 old hg fI hold (tR) h
def LQ (Q:Nat->Prop) (l:List (Nat × Obj)) (z:Nat):Prop:=Q z/\z ∉ l.map (·.1)
structure LZ (I:World->Prop) (N:Nat) (Q:Nat->Prop) (l:List (Nat × Obj)) (cs:List Cv) (W:World):Prop where
 iv:I W
 st:∀W W',I W->q_ W W'->I W'
 rw_:∀W W' g,I W->W.grownBy W' (some g)->N<=g->I W'
 nq:∀z,N<=z->Q z
 nw:N<=W.heap.size
 bk:∀g o,(g,o) ∈ l->W.heap[g]?=some o
 gt:∀g o,(g,o) ∈ l->N<=g
 nd:(l.map (·.1)).Nodup
 ck:∀c ∈ cs,c.at_ W (LQ Q l)
section
variable {I:World->Prop} {N:Nat} {Q:Nat->Prop} {W W':World} {l:List (Nat × Obj)} {cs:List Cv}
theorem LZ.step (h:LZ I N Q l cs W) (hb:q_ W W'):LZ I N Q l cs W':=
 ⟨h.st _ _ h.iv hb,h.st,h.rw_,h.nq,dO h.nw hb.size,fun g o hm=>i_ (h.bk g o hm) hb,h.gt,h.nd,fun c hc=>x_.step (h.ck c hc) hb⟩
theorem LZ.mem (h:LZ I N Q l cs W) {g:Nat} (hg:g ∈ l.map (·.1)):g<W:=by
 obtain ⟨⟨g',o⟩,hm,rfl⟩:=List.mem_map.1 hg;exact p_ (h.bk g' o hm)
theorem LZ.fresh (h:LZ I N Q l cs W) (z:Nat) (hz:W<=z):LQ Q l z:=⟨h.nq z (dO h.nw hz),fun hm=>by have:=h.mem hm;omega⟩
theorem LZ.push (h:LZ I N Q l cs W) (o:Obj) (n:Nat) (hn:W.heap.size=n):LZ I N Q (l ++ [(n,o)]) cs (W.alloc o) where
 iv:=h.st _ _ h.iv (b_ B_ o)
 st:=h.st
 rw_:=h.rw_
 nq:=h.nq
 nw:=dO h.nw (b_ B_ o).size
 bk g o' d:=by
  rcases List.mem_append.1 d with d | d
  ·exact m_ (h.bk g o' d) _
  ·simp only[mS_,Prod.mk.injEq] at d;obtain ⟨rfl,rfl⟩:=d;exact l_ _ _ _ hn
 gt g o' d:=by
  rcases List.mem_append.1 d with d | d
  ·exact h.gt g o' d
  ·simp only[mS_,Prod.mk.injEq] at d;obtain ⟨rfl,rfl⟩:=d;rw [<-hn];exact h.nw
 nd:=by
  rw [List.map_append];refine List.nodup_append.2 ⟨h.nd,List.nodup_cons.2 ⟨z_,List.nodup_nil⟩,fun a i b j e=>?_⟩;have:=h.mem i;simp only[List.map_cons,List.map_nil,mS_] at j;omega
 ck c hc:=by
  refine x_.step (x_.weak (h.ck c hc) (S':=LQ Q (l ++ [(n,o)])) (fun z k f=>⟨f.1,fun d=>?_⟩)) (b_ B_ o);rw [List.map_append] at d
  rcases List.mem_append.1 d with d | d
  ·exact f.2 d
  ·simp only[List.map_cons,List.map_nil,mS_] at d;omega
theorem LZ.put (h:LZ I N Q l cs W) (i:Nat) {g:Nat} {old cs':Array Value} {ty:TypeId} {fr:Nat × Nat} (hi:l[i]?=some (g,.cells old ty fr)):LZ I N Q (l.set i (g,.cells cs' ty fr)) cs (W.setRow g cs'):=by
 have a:(l.set i (g,.cells cs' ty fr)).map (·.1)=l.map (·.1):=by
  rw [List.map_set];refine List.ext_getElem? fun q=>?_;rw [List.getElem?_set]
  split
  ·rename_i e
   subst e;rw [if_pos (by have:=bK hi;simpa using this),gP_,hi]
   rfl
  ·rfl
 have j:=h.gt g _ (fF hi);refine ⟨h.rw_ _ _ _ h.iv (gE _ _ _) j,h.st,h.rw_,h.nq,by have:=h.nw;simpa [World.setRow] using this,fun d o' k=>?_,fun d o' k=>?_,by rw [a];exact h.nd,fun c hc=>?_⟩
 ·obtain ⟨q,b⟩:=List.getElem?_of_mem k;rw [List.getElem?_set] at b
  split at b
  ·split at b
   ·injection b with b
    injection b with h1 h2
    subst h1 h2;exact setRow_heap _ _ _ _ _ _ (h.bk g _ (fF hi))
   ·cases b
  ·rename_i hne
   have f:d≠g:=fun e=>hne (by
    have h1:(l.map (·.1))[q]?=some d:=by rw [gP_,b];rfl
    have h2:(l.map (·.1))[i]?=some g:=by rw [gP_,hi];rfl
    subst e;exact (List.getElem?_inj (bK h2) h.nd).1 (h2.trans h1.symm))
   exact (setRow_other _ _ _ _ f).trans (h.bk d o' (fF b))
 ·have:d ∈ (l.set i (g,.cells cs' ty fr)).map (·.1):=List.mem_map.2 ⟨_,k,rfl⟩;rw [a] at this;obtain ⟨⟨m,o2⟩,h1,rfl⟩:=List.mem_map.1 this;exact h.gt m o2 h1
 ·have:LQ Q (l.set i (g,.cells cs' ty fr))=LQ Q l:=by unfold LQ;rw [a]
  rw [this];exact x_.kept (h.ck c hc) (r_.of_setRow _ _ _ (fun q=>q.2 (List.mem_map.2 ⟨_,fF hi,rfl⟩)))
theorem LZ.own (h:LZ I N Q l [] W) {g:Nat} (hb:W.grownBy W' (some g)) (hg:N<=g) (hn:g ∉ l.map (·.1)):LZ I N Q l [] W':=
 ⟨h.rw_ _ _ _ h.iv hb hg,h.st,h.rw_,h.nq,dO h.nw hb.size,fun g' o hm=>iO hb (fun e=>hn (e ▸ List.mem_map.2 ⟨_,hm,rfl⟩)) (h.bk g' o hm),h.gt,h.nd,fun c hc=>(by cases hc)⟩
theorem LZ.add (h:LZ I N Q l cs W) {v:Cv} (hv:v.at_ W (LQ Q l)):LZ I N Q l (v :: cs) W:=
 ⟨h.iv,h.st,h.rw_,h.nq,h.nw,h.bk,h.gt,h.nd,fun c hc=>by
  rcases List.mem_cons.1 hc with rfl | hc
  ·exact hv
  ·exact h.ck c hc⟩
theorem LZ.sub (h:LZ I N Q l cs W) {cs':List Cv} (hc:∀c ∈ cs',c ∈ cs):LZ I N Q l cs' W:=⟨h.iv,h.st,h.rw_,h.nq,h.nw,h.bk,h.gt,h.nd,fun c hm=>h.ck c (hc c hm)⟩
theorem LZ.putL {n:Nat} {old r:Array Value} {ty:TypeId} {fr:Nat × Nat} (h:LZ I N Q (l ++ [(n,.cells old ty fr)]) cs W):LZ I N Q (l ++ [(n,.cells r ty fr)]) cs (W.setRow n r):=by
 have:=h.put (cs':=r) l.length (g:=n) (old:=old) (ty:=ty) (fr:=fr) z_
 rwa [show (l ++ [(n,Obj.cells old ty fr)]).set l.length (n,.cells r ty fr)=l ++ [(n,.cells r ty fr)] by simp] at this
theorem LZ.last {n:Nat} {o:Obj} (h:LZ I N Q (l ++ [(n,o)]) cs W):W.heap[n]?=some o:=h.bk _ _ (List.mem_append_right _ cO)
theorem LZ.box1 (h:LZ I N Q l cs W) (z1 r1:Array Value) (t1:TypeId):(W.alloc (.cells z1 t1)).heap[W.heap.size]?=some (.cells z1 t1 (0,0))/\LZ I N Q (l ++ [(W.heap.size,.cells r1 t1 (0,0))]) cs ((W.alloc (.cells z1 t1)).setRow (W) r1):=
 ⟨(h.push (.cells z1 t1) _ rfl).last,(h.push (.cells z1 t1) _ rfl).putL⟩
theorem LZ.box2 (h:LZ I N Q l cs W) (z1 r1 z2 r2:Array Value) (t1 t2:TypeId) :
  ((W.alloc (.cells z1 t1)).alloc (.cells z2 t2)).heap[W.heap.size]?=some (.cells z1 t1 (0,0))/\(((W.alloc (.cells z1 t1)).alloc (.cells z2 t2)).setRow (W) r1).heap[W.heap.size+1]?=some (.cells z2 t2 (0,0))/\
  LZ I N Q (l ++ [(W.heap.size,.cells r1 t1 (0,0)),(W.heap.size+1,.cells r2 t2 (0,0))]) cs ((((W.alloc (.cells z1 t1)).alloc (.cells z2 t2)).setRow (W) r1).setRow (W+1) r2):=by
 have h2:=(h.push (.cells z1 t1) _ rfl).push (.cells z2 t2) (W+1) z_;have h3:=h2.put (cs':=r1) l.length (g:=W.heap.size) (old:=z1) (ty:=t1) (fr:=(0,0)) z_;rw [show ((l ++ [(W.heap.size,Obj.cells z1 t1)]) ++ [(W.heap.size+1,Obj.cells z2 t2)]).set l.length (W.heap.size,.cells r1 t1 (0,0))=(l ++ [(W.heap.size,Obj.cells r1 t1)]) ++ [(W.heap.size+1,Obj.cells z2 t2)] by simp] at h3;have a:=h3.putL (r:=r2);rw [List.append_assoc] at a;exact ⟨h2.bk _ _ z_,h3.last,a⟩
theorem LZ.box3 (h:LZ I N Q l cs W) (z1 r1 z2 r2 z3 r3:Array Value) (t1 t2 t3:TypeId) :
  (((W.alloc (.cells z1 t1)).alloc (.cells z2 t2)).alloc (.cells z3 t3)).heap[W.heap.size]?=some (.cells z1 t1 (0,0))/\((((W.alloc (.cells z1 t1)).alloc (.cells z2 t2)).alloc (.cells z3 t3)).setRow (W) r1).heap[W.heap.size+1]?=some (.cells z2 t2 (0,0))/\
  (((((W.alloc (.cells z1 t1)).alloc (.cells z2 t2)).alloc (.cells z3 t3)).setRow (W) r1).setRow (W+1) r2).heap[W.heap.size+1+1]?=some (.cells z3 t3 (0,0))/\
  LZ I N Q (l ++ [(W.heap.size,.cells r1 t1 (0,0)),(W.heap.size+1,.cells r2 t2 (0,0)),(W.heap.size+1+1,.cells r3 t3 (0,0))]) cs ((((((W.alloc (.cells z1 t1)).alloc (.cells z2 t2)).alloc (.cells z3 t3)).setRow (W) r1).setRow (W+1) r2).setRow (W+1+1) r3):=by
 have h2:=((h.push (.cells z1 t1) _ rfl).push (.cells z2 t2) (W+1) z_).push (.cells z3 t3) (W+1+1) z_;have h3:=h2.put (cs':=r1) l.length (g:=W.heap.size) (old:=z1) (ty:=t1) (fr:=(0,0)) z_;rw [show (((l ++ [(W.heap.size,Obj.cells z1 t1)]) ++ [(W.heap.size+1,Obj.cells z2 t2)]) ++ [(W.heap.size+1+1,Obj.cells z3 t3)]).set l.length (W.heap.size,.cells r1 t1 (0,0))=l ++ [(W.heap.size,Obj.cells r1 t1),(W.heap.size+1,Obj.cells z2 t2),(W.heap.size+1+1,Obj.cells z3 t3)] by simp] at h3;have a:=h3.put (cs':=r2) (l.length+1) (g:=W.heap.size+1) (old:=z2) (ty:=t2) (fr:=(0,0)) z_;rw [show (l ++ [(W.heap.size,Obj.cells r1 t1),(W.heap.size+1,Obj.cells z2 t2),(W.heap.size+1+1,Obj.cells z3 t3)]).set (l.length+1) (W.heap.size+1,.cells r2 t2 (0,0))=(l ++ [(W.heap.size,Obj.cells r1 t1),(W.heap.size+1,Obj.cells r2 t2)]) ++ [(W.heap.size+1+1,Obj.cells z3 t3)] by simp] at a;have b:=a.putL (r:=r3);rw [List.append_assoc] at b;exact ⟨h2.bk _ _ z_,h3.bk _ _ z_,a.last,b⟩
end
abbrev LN (w:World):=LZ (fun W=>q_ w W) (w) (fun _=>True)
theorem LN.start (w:World):LN w [] [] w:=
 ⟨aI _ _,fun W f h a=>d_ h a,fun W f g h a i=>h.grown a h.size (fun k d=>by injection d with d;omega),fun _ _=>trivial,aQ _,fun g o b=>(by cases b),fun g o b=>(by cases b),List.nodup_nil,fun c hc=>(by cases hc)⟩
end
end Go.Proofs.YtehfhnbpnaiogaaGreatDoor
