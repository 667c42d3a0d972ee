/-
  Lemmas and contracts for the laws of this seat, part 21; several texts joined by a program.
-/
import Derived.Test.YtehfhnbpnaiogaaGreatDoorD16
import Derived.Test.YtehfhnbpnaiogaaGreatDoorD20
import Derived.Test.YtehfhnbpnaiogaaGreatDoorD00
import Derived.Outline
namespace Go.Proofs.YtehfhnbpnaiogaaGreatDoor
set_option linter.unusedVariables false
set_option linter.unusedSimpArgs false
set_option maxRecDepth 100000
set_option maxHeartbeats 16000000
open Go.RowKit Go.Proofs.Tryz IntKind
variable {C' C1 C2:Ck} {F G Z i j j' p t:Nat} {H:World->Prop} {P:Bool->Bool->Bool->Bool->Bool->World->Prop} {S:Nat->Prop} {W w w' wx:World} {a1 a2 a3 a4 a5 a6 a7 i1 i2 r1 r2 rq:Value} {e1 e2 k n q s sz wh:Int} {en:Ending} {ty:TypeId} {x:Fr} {y y':Fl}
section
theorem zD (s:ByteArray) (f:Int) (w:World) (hm:s.size<=maxLen):C_ 148 #[.string s,I_ f] w (fx_ s f w):=by
 by_cases h:s.size=8/\0<=f/\f<8
 ·obtain ⟨k,h1,h2⟩:=h;obtain ⟨a,b,c,d,e,g,h,i,rfl⟩:=g8_ s k;exact (dR_ a b c d e g h i f w h1 h2).mono fun j w' H=>gs_ a b c d e g h i f h1 h2 H
 ·exact (aM_ s f w h hm).mono fun j w' H=>eV_ s f h H
theorem dQ_ (s:ByteArray) (f:Int) (h:gF s f=false):mA s f=0/\sG s f=0/\xD s f=0:=by simp [mA,sG,xD,h]
abbrev ip_ (a b:ByteArray) (f:Int) (w:World):Ending->World->Prop:=in_ (gF a f) (gF b f) (mA a f) (sG a f) (xD a f) (mA b f) (sG b f) (xD b f) w
theorem dK_ (a b:ByteArray) (f:Int) (w:World) (ha:a.size<=maxLen) (hb:b.size<=maxLen):C_ 86 #[.string a,.string b,I_ f] w (ip_ a b f w):=
 aK_ a b f w (dQ_ a f) (fun w=>zD a f w ha) (fun w=>zD b f w hb)
end
section
def S2 (S:Nat->Prop) (n:Nat):Nat->Prop:=fun z=>S z/\z≠n/\z≠n+1
def nZ (b s:Int):Nat->Int
 | 0=>b
 | k+1=>if s<=(k:Int)*16 then bits .andNot .i64 (nZ b s k) (wrap64 (2 ^ k)) else nZ b s k
def dL_ (y:Fl) (q s b wh:Int) (d1 d2 d3 d4 d5:Bool):Fl:=⟨y.dev,y.slot,y.c,if d1 then s else y.size,if d2 then b else y.blocks,y.ecnt,y.eerr,if d3 then q else y.sseq,if d3 then s else y.ssize,if d3 then b else y.sblocks,if d4 then wh else y.which,if d5 then q else y.seq⟩
def vN (t:Nat) (y:Fl):Bool:=decide (0<((fT (aX 0 (4 ^ t) y.c) 0:Nat):Int))||(y.size != 0||y.blocks != 0)
def sW (C:Ck) (j:Nat) (y:Fl) (u:Bool) (q s b wh:Int) (C':Ck) (err:Int):Prop:=
 if u=true then C'=C/\err=5 else C'={C with files:=C.files.set j (dL_ y q s (nZ b s 8) wh true true true true true)}/\err=0
def io_ (q s b wh:Int) (w:World) (e:Ending) (w':World):Prop:=∃o:Bool,e = .returned (.tuple #[.agg #[I_ q,I_ s,I_ b],I_ wh,.bool o])/\s_ w w'
def jR (H:World->Prop) (P:Bool->Bool->Bool->Bool->Bool->World->Prop) (d:Nat->Bool) (wx:World):Prop:=H wx/\P (d 15) (d 18) (d 21) (d 24) (d 27) wx
theorem jR.more {d:Nat->Bool} {i:Nat} (h:jR H P d wx) (h1:(15 == i)=false) (h2:(18 == i)=false) (h3:(21 == i)=false) (h4:(24 == i)=false) (h5:(27 == i)=false):jR H P (aI d i) wx:=by
 refine ⟨h.1,?_⟩;rw [N_ h1,N_ h2,N_ h3,N_ h4,N_ h5];exact h.2
theorem jR.f15 {d:Nat->Bool} (h0:H wx) (h:P true (d 18) (d 21) (d 24) (d 27) wx):jR H P (aI d 15) wx:=by
 refine ⟨h0,?_⟩;rw [cI,N_ (i:=15) (j:=18) rfl,N_ (i:=15) (j:=21) rfl,N_ (i:=15) (j:=24) rfl,N_ (i:=15) (j:=27) rfl];exact h
theorem jR.f18 {d:Nat->Bool} (h0:H wx) (h:P (d 15) true (d 21) (d 24) (d 27) wx):jR H P (aI d 18) wx:=by
 refine ⟨h0,?_⟩;rw [cI,N_ (i:=18) (j:=15) rfl,N_ (i:=18) (j:=21) rfl,N_ (i:=18) (j:=24) rfl,N_ (i:=18) (j:=27) rfl];exact h
theorem jR.f21 {d:Nat->Bool} (h0:H wx) (h:P (d 15) (d 18) true (d 24) (d 27) wx):jR H P (aI d 21) wx:=by
 refine ⟨h0,?_⟩;rw [cI,N_ (i:=21) (j:=15) rfl,N_ (i:=21) (j:=18) rfl,N_ (i:=21) (j:=24) rfl,N_ (i:=21) (j:=27) rfl];exact h
theorem jR.f24 {d:Nat->Bool} (h0:H wx) (h:P (d 15) (d 18) (d 21) true (d 27) wx):jR H P (aI d 24) wx:=by
 refine ⟨h0,?_⟩;rw [cI,N_ (i:=24) (j:=15) rfl,N_ (i:=24) (j:=18) rfl,N_ (i:=24) (j:=21) rfl,N_ (i:=24) (j:=27) rfl];exact h
theorem jR.f27 {d:Nat->Bool} (h0:H wx) (h:P (d 15) (d 18) (d 21) (d 24) true wx):jR H P (aI d 27) wx:=by
 refine ⟨h0,?_⟩;rw [cI,N_ (i:=27) (j:=15) rfl,N_ (i:=27) (j:=18) rfl,N_ (i:=27) (j:=21) rfl,N_ (i:=27) (j:=24) rfl];exact h
def G14 (gf j z:Nat) (q s b wh:Int):Nat->Value->Prop
 | 0,v=>v = .pointer (some ⟨gf,j*15,none⟩)
 | 1,v=>v = .pointer (some ⟨gf,j*15,none⟩)
 | 2,v=>v = .pointer (some ⟨gf,j*15,none⟩)
 | 3,v=>v = .pointer (some ⟨gf,j*15,none⟩)
 | 4,v=>v = .pointer (some ⟨gf,j*15,none⟩)
 | 5,v=>v = .pointer (some ⟨z,1,none⟩)
 | 6,v=>v = I_ s
 | 7,v=>v = .pointer (some ⟨z,2,none⟩)
 | 8,v=>v = I_ b
 | 9,v=>v = .agg #[I_ q,I_ s,I_ b]
 | 10,v=>v = I_ wh
 | 11,v=>v = P_ z
 | 12,v=>v = I_ q
 | 13,v=>v = .pointer (some ⟨gf,j*15,none⟩)
 | 14,v=>v = .pointer (some ⟨gf,j*15+6,none⟩)
 | 15,_=>True
 | 16,v=>v = .pointer (some ⟨gf,j*15,none⟩)
 | 17,v=>v = .pointer (some ⟨gf,j*15+7,none⟩)
 | 18,_=>True
 | 19,v=>v = .pointer (some ⟨gf,j*15,none⟩)
 | 20,v=>v = .pointer (some ⟨gf,j*15+10,none⟩)
 | 21,_=>True
 | 22,v=>v = .pointer (some ⟨gf,j*15,none⟩)
 | 23,v=>v = .pointer (some ⟨gf,j*15+13,none⟩)
 | 24,_=>True
 | 25,v=>v = .pointer (some ⟨gf,j*15,none⟩)
 | 26,v=>v = .pointer (some ⟨gf,j*15+14,none⟩)
 | 27,_=>True
 | _+28,_=>True
theorem gj_ {C:Ck} (j:Nat)(y:Fl) (fs sc:ByteArray) (q s b wh:Int) (h:x_ w S a1 a2 a3 a4 a5 a6 a7 C) (ok:lT C) (hj:C.files[j]?=some y) (ht:aM t y.c) (hch:∀w',C_ 86 #[.string fs,.string sc,I_ (j:Int)] w' (io_ q s b wh w')) (hs:0<=s/\s<=255) (hS:∀z,w.heap.size<=z->S z) :
  C_ 30 #[bK a1 a2 a3 a4 a5 a6 a7,I_ (j:Int),.string fs,.string sc] w (fP (sW C j y (vN t y) q s b wh) S w):=by
 have b2:=fun w' (hb:s_ w w') (b1:w.heap.size+1<w'.heap.size)=>vC C a1 a2 a3 a4 a5 a6 a7 (S2 S (w)) w' ((h.weak (fun z hz hs=>⟨hs,O_,O_⟩)).step hb) ok (fun z hz=>⟨hS z O_,O_,O_⟩);have O:=bI hj;have ag:=fun w' (hb:s_ w w')=>gY j (h.step hb);rw [show (decide (0<=(j:Int))&&decide ((j:Int)<(C.files.length:Int)))=true by simp;omega] at ag;have b9:C.files.length<=100:=ok.ok.files.2;obtain ⟨A1,c1,rfl,q1,q2⟩:=h.files.form;obtain ⟨A2,m2,c2,rfl⟩:=h.frames.cap;obtain ⟨A3,m3,c3,A4,m4,c4,A5,m5,c5,A6,m6,c6,A7,m7,c7,rfl,rfl,rfl,rfl,rfl⟩:=x_.caps5 h;obtain ⟨HJ,HT,ba⟩:=eI hj ht hs;have j2:(j:Int)<(C.files.length:Int):=O_
 have j0:(0:Int)<=(j:Int):=O_
 clear h ok hj ht hs q1 q2;have HS:=H_ (show St w [(w.heap.size,.cells (D_ A1 C.files.length c1 A2 m2 c2 A3 m3 c3 A4 m4 c4 A5 m5 c5 A6 m6 c6 A7 m7 c7) 30 (0,0)),(w.heap.size+1,bM)] ((w.alloc (.cells (D_ A1 C.files.length c1 A2 m2 c2 A3 m3 c3 A4 m4 c4 A5 m5 c5 A6 m6 c6 A7 m7 c7) 30)).alloc (bM)) from ((St.nil w).push _ _ rfl).push _ (w+1) A_);go_enter func30,ntmps30
 go_upto_region 1 with fail
 generalize (w.alloc _).alloc _=V at HS;have ap:=HS.bk _ _ dV;have ay:w.heap.size+1<V.heap.size:=n_ (HS.bk _ _ lK);obtain ⟨x0,x1,x2,x3,x4,x5,x6⟩:=T_ ap
 go_upto_region 2 with (go_at_call 42;refine CM (b2 _ HS.below ay) ?_;rintro e w1 ⟨X,gf,nf,cf,gr,nr,cr,c',d',e',f',g',rfl,hB,az⟩)
 have a0:=H_ (HS.step az);have aa:=H_ hB;obtain ⟨B1,ar⟩:=bL V.heap.size;rw [<-ar] at aa ay;obtain ⟨E3,e3,k3,rfl⟩:=hB.zones.cap;obtain ⟨E4,e4,k4,rfl⟩:=hB.groups.cap;obtain ⟨E5,e5,k5,rfl⟩:=hB.lists.cap;obtain ⟨E6,e6,k6,rfl⟩:=hB.clocks.cap;obtain ⟨E7,e7,k7,rfl⟩:=hB.ptes.cap;clear x0 x1 x2 x3 x4 x5 x6 ap hB az HS ar b2;have aq:=a0.bk _ _ dV;obtain ⟨x0,x1,x2,x3,x4,x5,x6⟩:=T_ aq
 go_upto_region 4 with (go_at_call 73;refine CM (ag _ a0.below) ?_;rintro e w2 ⟨rfl,ac⟩;have N:=H_ (a0.step ac);have F:=H_ (aa.step ac))
 clear x0 x1 x2 x3 x4 x5 x6 aq ac a0 aa ag;have J:=F.box;have x0:=sF J;have j3:(j:Int)<(nf:Int):=by have:=F.ef;omega
 obtain ⟨t',A,cap,l1,l2,l3,l4,y2,y3,y4,y5⟩:=F.files.fl_tree HJ.out;obtain rfl:t'=t:=Nat.le_antisymm (l2.le HT.out) (HT.le l2);have H:=F.files.lt;have G:=fun w' (hb:s_ w2 w')=>fQ_ cap 0 l1 l2 l3 (l4.step hb);obtain ⟨U,z8,z9,R⟩:=LW.fl_at F.files HJ.out;obtain ⟨n,hn⟩:=bL (fT (aX 0 (4 ^ t') y.c) 0);rw [<-hn] at G;obtain ⟨bd,D⟩:=bL ((decide (0<(n:Int))||(y.size != 0||y.blocks != 0)));have ai:=H_ (show vN t' y=bd by rw [D,hn];rfl);generalize (j_ t' y.c).kids.length=kn at *;generalize (j_ t' y.c).val=kv at *;generalize (j_ t' y.c).marks=km at *;clear hn l1 l2 l3 l4
 go_upto_region 5 with fail
 go_cut [52] from 33 to 51 (fun s52 wx=>s52 = .bool bd/\St w [(w.heap.size,.cells (D_ A1 C.files.length c1 A2 m2 c2 A3 m3 c3 A4 m4 c4 A5 m5 c5 A6 m6 c6 A7 m7 c7) 30 (0,0)),(w.heap.size+1,bM)] wx/\Bd wx (S2 S (w)) B1 X gf nf cf gr nr cr (S_ E3 e3 k3) (S_ E4 e4 k4) (S_ E5 e5 k5) (S_ E6 e6 k6) (S_ E7 e7 k7) C)
 case first=>
  by_cases h1:0<(n:Int)
  ·rw [dT h1] at D;simp only[Bool.true_or] at D;subst D
   go_wp2_with (go_at_call 85;(with_reducible refine CM (G _ B_) ?_);rintro e w3 ⟨rfl,r⟩;replace R:=(g_ (r.block _ H)).trans R;replace U:=(g_ (r.block _ H)).trans U)
   go_meet
   case rel=>exact ⟨rfl,N.step r,F.step r⟩
  ·rw [dF h1] at D
   by_cases h2:y.size=0
   ·by_cases h3:y.blocks=0
    ·rw [h2,h3] at D;rw [h2] at R;rw [h3] at U;subst D
     go_wp2_with (go_at_call 85;(with_reducible refine CM (G _ B_) ?_);rintro e w3 ⟨rfl,r⟩;replace R:=(g_ (r.block _ H)).trans R;replace U:=(g_ (r.block _ H)).trans U)
     go_meet
     case rel=>exact ⟨rfl,N.step r,F.step r⟩
    ·have b5:(y.blocks != 0)=true:=bne_iff_ne.2 h3;rw [h2,b5] at D;rw [h2] at R;subst D
     go_wp2_with (go_at_call 85;(with_reducible refine CM (G _ B_) ?_);rintro e w3 ⟨rfl,r⟩;replace R:=(g_ (r.block _ H)).trans R;replace U:=(g_ (r.block _ H)).trans U)
     go_meet
     case rel=>exact ⟨rfl,N.step r,F.step r⟩
   ·have b4:(y.size != 0)=true:=bne_iff_ne.2 h2;rw [b4] at D;simp only[Bool.true_or,Bool.or_true] at D;subst D
    go_wp2_with (go_at_call 85;(with_reducible refine CM (G _ B_) ?_);rintro e w3 ⟨rfl,r⟩;replace R:=(g_ (r.block _ H)).trans R;replace U:=(g_ (r.block _ H)).trans U)
    go_meet
    case rel=>exact ⟨rfl,N.step r,F.step r⟩
 case rest=>
  obtain ⟨rfl,aw,au⟩:=hcut;have a8:=H_ aw;have W:=H_ au;clear aw au N F x0 J y2 y3 y4 y5 U z8 z9 R G D H
  cases bd with
  | true=>
   have HP:=H_ (show sW C j y (vN t' y) q s b wh C 5 by unfold sW;rw [if_pos ai.out];exact ⟨rfl,rfl⟩);have J:=W.box;obtain ⟨x0,x1,x2,x3,x4,x5,x6⟩:=T_ J;have M:=a8.bk _ _ lK
   go_wp2_with (refine Q_ rfl (.tmp 8) (.tmp 56) rfl rfl rfl rfl M rfl ?_)
   show bodyPost prog f30 _ _ _ _
   refine bodyPost_ret (aG rfl rfl rfl (setRow_heap _ _ _ _ _ _ M)) rfl ?_;refine ⟨_,_,_,_,_,_,_,_,_,?_,rfl,(W.boxRow (Z:=w.heap.size+1) O_ (fun h=>h.2.2 rfl) (D_ (o_ gf) nf cf (o_ gr) nr cr E3 e3 k3 E4 e4 k4 E5 e5 k5 E6 e6 k6 E7 e7 k7)).at_.weak (fun z _ hz=>hz.1),d_ a8.below O_ _⟩;exact HP
  | false=>
   have P:∀(g':Nat) (ob:Obj),(g',ob) ∈ ([(w.heap.size,.cells (D_ A1 C.files.length c1 A2 m2 c2 A3 m3 c3 A4 m4 c4 A5 m5 c5 A6 m6 c6 A7 m7 c7) 30 (0,0)),(w.heap.size+1,bM)]:List (Nat × Obj))->g'<B1:=fun g' ob hm=>by
    simp only[qL,List.not_mem_nil,or_false,Prod.mk.injEq] at hm
    rcases hm with ⟨rfl,_⟩ | ⟨rfl,_⟩ <;> omega
   have Q:w.heap.size<=B1:=O_
   rename World=>V3
   go_upto_region 8 with (go_at_call 86;refine CM (hch _) ?_;rintro e w7 ⟨bc,rfl,ad⟩)
   have am:=H_ (a8.step ad);have ab:=H_ (W.step ad);have b8:=ab.files.lt;have ak:=H_ (i_ w7 (.cells #[I_ q,I_ s,I_ b] 62));have ao:=H_ (a_ (aP (w7) w7) (.cells #[I_ q,I_ s,I_ b] 62));generalize w7.alloc (.cells #[I_ q,I_ s,I_ b] 62)=V8 at ak ao;clear a8 W ad hch
   go_upto_region 9 with fail
   go_loopw [65] (fun i wx=>∃k:Nat,i = I_ (k:Int)/\k<=8/\s_ w7 wx/\bA wx (w7) #[I_ q,I_ s,I_ (nZ b s k)] 62) (fun i _=>100 - (intOf i).toNat)
   case atStart=>exact ⟨0,rfl,O_,ao.out,ak.out⟩
   case round=>
    obtain ⟨k,rfl,hk,hb,hi⟩:=hrel;have HW:=H_ hb;have Y:=H_ hi;clear hb hi
    by_cases b1:k<8
    ·have k8:(k:Int)<8:=O_
     have k0:(0:Int)<=(k:Int):=O_
     have i1:=b_ Y 1;have i2:=b_ Y 2;simp only[zl] at i1 i2;have b7:=n_ Y
     by_cases b0:s<=(k:Int)*16
     ·have a9:=H_ (show nZ b s (k+1)=bits .andNot .i64 (nZ b s k) (wrap64 (2 ^ k)) from if_pos b0);generalize nZ b s k=bk at Y i2 a9
      go_upto_region 12 with fail
      refine aD 6 107 [SP.eq (.pointer (some ⟨w7,2,none⟩)),SP.eq (I_ bk),SP.eq (I_ (k:Int)),SP.eq (I_ (wrap64 (2 ^ k))),SP.eq (I_ (bits .andNot .i64 bk (wrap64 (2 ^ k)))),SP.eq (.pointer (some ⟨w7,2,none⟩))] q_ q_ rfl ?_;simp only[vG];refine f_ (fun x a f K g=>?_) (fun v0=>?_)
      ·skip
       go_simp;exact g _ _ a B_ (by first | rfl | (show Value.int _ _=Value.int _ _;simp;done) | (show Value.int _ _=Value.int _ _;simp [IntKind.wrap_i64,wrap64];done))
      simp only[ly];refine f_ (fun x a f K g=>?_) (fun v1=>?_)
      ·obtain rfl:v0=_:=f 0 q_;have t0:=(g_ (Below.block a _ b7)).trans i2;go_simp;exact g _ _ a B_ (by first | rfl | (show Value.int _ _=Value.int _ _;simp;done) | (show Value.int _ _=Value.int _ _;simp [IntKind.wrap_i64,wrap64];done))
      simp only[ly];refine f_ (fun x a f K g=>?_) (fun v2=>?_)
      ·skip
       go_simp;exact g _ _ a B_ (by first | rfl | (show Value.int _ _=Value.int _ _;simp;done) | (show Value.int _ _=Value.int _ _;simp [IntKind.wrap_i64,wrap64];done))
      simp only[ly];refine f_ (fun x a f K g=>?_) (fun v3=>?_)
      ·obtain rfl:v2=_:=f 2 q_;go_simp;exact g _ _ a B_ (by first | rfl | (show Value.int _ _=Value.int _ _;simp;done) | (show Value.int _ _=Value.int _ _;simp [IntKind.wrap_i64,wrap64];done))
      simp only[ly];refine f_ (fun x a f K g=>?_) (fun v4=>?_)
      ·obtain rfl:v1=_:=f 1 q_;obtain rfl:v3=_:=f 3 q_;go_simp;exact g _ _ a B_ (by first | rfl | (show Value.int _ _=Value.int _ _;simp;done) | (show Value.int _ _=Value.int _ _;simp [IntKind.wrap_i64,wrap64];done))
      simp only[ly];refine f_ (fun x a f K g=>?_) (fun v5=>?_)
      ·skip
       go_simp;exact g _ _ a B_ (by first | rfl | (show Value.int _ _=Value.int _ _;simp;done) | (show Value.int _ _=Value.int _ _;simp [IntKind.wrap_i64,wrap64];done))
      simp only[ly];refine aK ?_;intro u a hG;obtain rfl:v4=_:=hG 4 O_;obtain rfl:v5=_:=hG 5 O_;have HC:=H_ a;have HQ:=h_ Y a;have c2:=b_ HQ 2;have f2:=t_ HQ 2;simp only[zl] at c2;clear hG a;go_wp2;go_roundw
      case rel=>exact ⟨k+1,by go_num,O_,aT (e_ HW.out HC.out) ⟨w7,2,none⟩ _ (bE _),by rw [a9.out];exact W_ HQ _⟩
      case measure=>exact bV
     ·have a9:=H_ (show nZ b s (k+1)=nZ b s k from if_neg b0);go_wp2;go_roundw
      case rel=>exact ⟨k+1,by go_num,O_,HW.out,by rw [a9.out];exact Y⟩
      case measure=>exact bV
    ·obtain rfl:k=8:=O_
     obtain ⟨bb,ae⟩:=bL (nZ b s 8);rw [<-ae] at Y;have b3:=H_ ae;have an:=H_ (am.step HW);have I:=H_ (ab.step HW);clear ae HW am ab b1 hk
     go_upto_region 14 with fail
     rename World=>V9
     go_cut [] from 80 to 102 (fun wx=>St w [(w.heap.size,.cells (D_ A1 C.files.length c1 A2 m2 c2 A3 m3 c3 A4 m4 c4 A5 m5 c5 A6 m6 c6 A7 m7 c7) 30 (0,0)),(w.heap.size+1,bM)] wx/\Bd wx (S2 S (w)) B1 X gf nf cf gr nr cr (S_ E3 e3 k3) (S_ E4 e4 k4) (S_ E5 e5 k5) (S_ E6 e6 k6) (S_ E7 e7 k7) {C with files:=C.files.set j (dL_ y q s bb wh true true true true true)})
     case first=>
      have aj:jR (fun wx=>St w [(w.heap.size,.cells (D_ A1 C.files.length c1 A2 m2 c2 A3 m3 c3 A4 m4 c4 A5 m5 c5 A6 m6 c6 A7 m7 c7) 30 (0,0)),(w.heap.size+1,bM)] wx/\bA wx (w7) #[I_ q,I_ s,I_ bb] 62) (fun d1 d2 d3 d4 d5 wx=>Bd wx (S2 S (w)) B1 X gf nf cf gr nr cr (S_ E3 e3 k3) (S_ E4 e4 k4) (S_ E5 e5 k5) (S_ E6 e6 k6) (S_ E7 e7 k7) {C with files:=C.files.set j (dL_ y q s bb wh d1 d2 d3 d4 d5)}) (fun _=>false) {V9 with drawn:=V9.drawn+1}:=⟨⟨an.step B_.drew,Y⟩,by
       show Bd V9.drew (S2 S (w)) B1 X gf nf cf gr nr cr (S_ E3 e3 k3) (S_ E4 e4 k4) (S_ E5 e5 k5) (S_ E6 e6 k6) (S_ E7 e7 k7) {C with files:=C.files.set j y}
       rw [uO HJ.out];exact I.step B_.drew⟩
      refine bX (Γ:=Unit) 107 27 (fun i=>decide (i<=26)) (fun _ d wx=>jR (fun wx=>St w [(w.heap.size,.cells (D_ A1 C.files.length c1 A2 m2 c2 A3 m3 c3 A4 m4 c4 A5 m5 c5 A6 m6 c6 A7 m7 c7) 30 (0,0)),(w.heap.size+1,bM)] wx/\bA wx (w7) #[I_ q,I_ s,I_ bb] 62) (fun d1 d2 d3 d4 d5 wx=>Bd wx (S2 S (w)) B1 X gf nf cf gr nr cr (S_ E3 e3 k3) (S_ E4 e4 k4) (S_ E5 e5 k5) (S_ E6 e6 k6) (S_ E7 e7 k7) {C with files:=C.files.set j (dL_ y q s bb wh d1 d2 d3 d4 d5)}) d wx) (fun _ k v _=>G14 gf j (w7) q s bb wh k v) () q_ q_ rfl aj (fun ii oo E f _ v _ hg=>by
       match ii with
       | 0=>obtain rfl:=bH E;cases f
       | 1=>obtain rfl:=bH E;cases f
       | 2=>obtain rfl:=bH E;cases f
       | 3=>obtain rfl:=bH E;cases f
       | 4=>obtain rfl:=bH E;cases f
       | 5=>obtain rfl:=bH E;cases f
       | 6=>obtain rfl:=bH E;cases f
       | 7=>obtain rfl:=bH E;cases f
       | 8=>obtain rfl:=bH E;cases f
       | 9=>obtain rfl:=bH E;cases f
       | 10=>obtain rfl:=bH E;cases f
       | 11=>obtain rfl:=bH E;cases f
       | 12=>obtain rfl:=bH E;cases f
       | 13=>obtain rfl:=bH E;cases f
       | 14=>obtain rfl:=bH E;cases f
       | 15=>trivial
       | 16=>obtain rfl:=bH E;cases f
       | 17=>obtain rfl:=bH E;cases f
       | 18=>trivial
       | 19=>obtain rfl:=bH E;cases f
       | 20=>obtain rfl:=bH E;cases f
       | 21=>trivial
       | 22=>obtain rfl:=bH E;cases f
       | 23=>obtain rfl:=bH E;cases f
       | 24=>trivial
       | 25=>obtain rfl:=bH E;cases f
       | 26=>obtain rfl:=bH E;cases f
       | 27=>trivial
       | _+28=>trivial) ?_
      refine k_ (fun _ B u l m a f K g=>?_) (fun v0=>?_)
      ·skip
       go_simp;exact g () _ _ (jR.more (i:=0) a rfl rfl rfl rfl rfl) (fun _ _ h=>h) rfl
      simp only[ly];refine k_ (fun _ B u l m a f K g=>?_) (fun v1=>?_)
      ·skip
       go_simp;exact g () _ _ (jR.more (i:=1) a rfl rfl rfl rfl rfl) (fun _ _ h=>h) rfl
      simp only[ly];refine k_ (fun _ B u l m a f K g=>?_) (fun v2=>?_)
      ·skip
       go_simp;exact g () _ _ (jR.more (i:=2) a rfl rfl rfl rfl rfl) (fun _ _ h=>h) rfl
      simp only[ly];refine k_ (fun _ B u l m a f K g=>?_) (fun v3=>?_)
      ·skip
       go_simp;exact g () _ _ (jR.more (i:=3) a rfl rfl rfl rfl rfl) (fun _ _ h=>h) rfl
      simp only[ly];refine k_ (fun _ B u l m a f K g=>?_) (fun v4=>?_)
      ·skip
       go_simp;exact g () _ _ (jR.more (i:=4) a rfl rfl rfl rfl rfl) (fun _ _ h=>h) rfl
      simp only[ly];refine k_ (fun _ B u l m a f K g=>?_) (fun v5=>?_)
      ·skip
       go_simp;exact g () _ _ (jR.more (i:=5) a rfl rfl rfl rfl rfl) (fun _ _ h=>h) rfl
      simp only[ly];refine k_ (fun _ B u l m a f K g=>?_) (fun v6=>?_)
      ·obtain rfl:v5=_:=f 5 q_;obtain ⟨i0,i1,i2⟩:=cR a.1.2;go_simp;exact g () _ _ (jR.more (i:=6) a rfl rfl rfl rfl rfl) (fun _ _ h=>h) rfl
      simp only[ly];refine k_ (fun _ B u l m a f K g=>?_) (fun v7=>?_)
      ·skip
       go_simp;exact g () _ _ (jR.more (i:=7) a rfl rfl rfl rfl rfl) (fun _ _ h=>h) rfl
      simp only[ly];refine k_ (fun _ B u l m a f K g=>?_) (fun v8=>?_)
      ·obtain rfl:v7=_:=f 7 q_;obtain ⟨i0,i1,i2⟩:=cR a.1.2;go_simp;exact g () _ _ (jR.more (i:=8) a rfl rfl rfl rfl rfl) (fun _ _ h=>h) rfl
      simp only[ly];refine k_ (fun _ B u l m a f K g=>?_) (fun v9=>?_)
      ·obtain ⟨i0,i1,i2⟩:=cR a.1.2;go_simp;exact g () _ _ (jR.more (i:=9) a rfl rfl rfl rfl rfl) (fun _ _ h=>h) rfl
      simp only[ly];refine k_ (fun _ B u l m a f K g=>?_) (fun v10=>?_)
      ·skip
       go_simp;exact g () _ _ (jR.more (i:=10) a rfl rfl rfl rfl rfl) (fun _ _ h=>h) rfl
      simp only[ly];refine k_ (fun _ B u l m a f K g=>?_) (fun v11=>?_)
      ·skip
       go_simp;exact g () _ _ (jR.more (i:=11) a rfl rfl rfl rfl rfl) (fun _ _ h=>h) rfl
      simp only[ly];refine k_ (fun _ B u l m a f K g=>?_) (fun v12=>?_)
      ·obtain rfl:v11=_:=f 11 q_;obtain ⟨i0,i1,i2⟩:=cR a.1.2;go_simp;exact g () _ _ (jR.more (i:=12) a rfl rfl rfl rfl rfl) (fun _ _ h=>h) rfl
      simp only[ly];refine k_ (fun _ B u l m a f K g=>?_) (fun v13=>?_)
      ·obtain rfl:v0=_:=f 0 q_;go_simp;exact g () _ _ (jR.more (i:=13) a rfl rfl rfl rfl rfl) (fun _ _ h=>h) rfl
      simp only[ly];refine k_ (fun _ B u l m a f K g=>?_) (fun v14=>?_)
      ·obtain rfl:v13=_:=f 13 q_;go_simp;exact g () _ _ (jR.more (i:=14) a rfl rfl rfl rfl rfl) (fun _ _ h=>h) rfl
      simp only[ly];refine k_ (fun _ B u l m a f K g=>?_) (fun v15=>?_)
      ·obtain rfl:v14=_:=f 14 q_;obtain rfl:v6=_:=f 6 q_;obtain ⟨⟨u',hu⟩,af⟩:=a.2.files.slot (i:=j) (by simp;omega) (p:=6) O_;go_simp;have o:=a.2.putFiles (y_ u ⟨gf,j*15+6,none⟩ (I_ s)) (a.2.files.size (lM O) s) A_;refine g () undef _ (jR.f15 ⟨a.1.1.grown (y_ u ⟨gf,j*15+6,none⟩ (I_ s)) (fun k e=>by cases e;exact I.o1) P Q,(iH u ⟨gf,j*15+6,none⟩ (I_ s) (w7) (by show w7≠gf;omega)).trans a.1.2⟩ ?_) (fun _ _ h=>h) trivial;rw [List.set_set] at o;exact o
      simp only[ly];refine k_ (fun _ B u l m a f K g=>?_) (fun v16=>?_)
      ·obtain rfl:v1=_:=f 1 q_;go_simp;exact g () _ _ (jR.more (i:=16) a rfl rfl rfl rfl rfl) (fun _ _ h=>h) rfl
      simp only[ly];refine k_ (fun _ B u l m a f K g=>?_) (fun v17=>?_)
      ·obtain rfl:v16=_:=f 16 q_;go_simp;exact g () _ _ (jR.more (i:=17) a rfl rfl rfl rfl rfl) (fun _ _ h=>h) rfl
      simp only[ly];refine k_ (fun _ B u l m a f K g=>?_) (fun v18=>?_)
      ·obtain rfl:v17=_:=f 17 q_;obtain rfl:v8=_:=f 8 q_;obtain ⟨⟨u',hu⟩,af⟩:=a.2.files.slot (i:=j) (by simp;omega) (p:=7) O_;go_simp;have o:=a.2.putFiles (y_ u ⟨gf,j*15+7,none⟩ (I_ bb)) (a.2.files.blocks (lM O) bb) A_;refine g () undef _ (jR.f18 ⟨a.1.1.grown (y_ u ⟨gf,j*15+7,none⟩ (I_ bb)) (fun k e=>by cases e;exact I.o1) P Q,(iH u ⟨gf,j*15+7,none⟩ (I_ bb) (w7) (by show w7≠gf;omega)).trans a.1.2⟩ ?_) (fun _ _ h=>h) trivial;rw [List.set_set] at o;exact o
      simp only[ly];refine k_ (fun _ B u l m a f K g=>?_) (fun v19=>?_)
      ·obtain rfl:v2=_:=f 2 q_;go_simp;exact g () _ _ (jR.more (i:=19) a rfl rfl rfl rfl rfl) (fun _ _ h=>h) rfl
      simp only[ly];refine k_ (fun _ B u l m a f K g=>?_) (fun v20=>?_)
      ·obtain rfl:v19=_:=f 19 q_;go_simp;exact g () _ _ (jR.more (i:=20) a rfl rfl rfl rfl rfl) (fun _ _ h=>h) rfl
      simp only[ly];refine k_ (fun _ B u l m a f K g=>?_) (fun v21=>?_)
      ·obtain rfl:v20=_:=f 20 q_;obtain rfl:v9=_:=f 9 q_;have b6:=a.2.files.there (i:=j) (p:=10) (n:=3) (by simp;omega) O_;refine aS (ops:=#[]) rfl (nK rfl 62 (.tmp 98) (.tmp 89) rfl gf (j*15+10) #[I_ q,I_ s,I_ bb] rfl rfl b6 jM (oJ) ?_);have o:=a.2.putFiles (L_ u gf (j*15+10) [I_ q,I_ s,I_ bb]) (a.2.files.stable (lM O) q s bb) A_;refine g () undef _ (jR.f21 ⟨a.1.1.grown (L_ u gf (j*15+10) [I_ q,I_ s,I_ bb]) (fun k e=>by cases e;exact I.o1) P Q,(v_ gf _ (j*15+10) u (w7) O_).trans a.1.2⟩ ?_) (fun _ _ h=>h) trivial;rw [List.set_set] at o;exact o
      simp only[ly];refine k_ (fun _ B u l m a f K g=>?_) (fun v22=>?_)
      ·obtain rfl:v3=_:=f 3 q_;go_simp;exact g () _ _ (jR.more (i:=22) a rfl rfl rfl rfl rfl) (fun _ _ h=>h) rfl
      simp only[ly];refine k_ (fun _ B u l m a f K g=>?_) (fun v23=>?_)
      ·obtain rfl:v22=_:=f 22 q_;go_simp;exact g () _ _ (jR.more (i:=23) a rfl rfl rfl rfl rfl) (fun _ _ h=>h) rfl
      simp only[ly];refine k_ (fun _ B u l m a f K g=>?_) (fun v24=>?_)
      ·obtain rfl:v23=_:=f 23 q_;obtain rfl:v10=_:=f 10 q_;obtain ⟨⟨u',hu⟩,af⟩:=a.2.files.slot (i:=j) (by simp;omega) (p:=13) O_;go_simp;have o:=a.2.putFiles (y_ u ⟨gf,j*15+13,none⟩ (I_ wh)) (a.2.files.which (lM O) wh) A_;refine g () undef _ (jR.f24 ⟨a.1.1.grown (y_ u ⟨gf,j*15+13,none⟩ (I_ wh)) (fun k e=>by cases e;exact I.o1) P Q,(iH u ⟨gf,j*15+13,none⟩ (I_ wh) (w7) (by show w7≠gf;omega)).trans a.1.2⟩ ?_) (fun _ _ h=>h) trivial;rw [List.set_set] at o;exact o
      simp only[ly];refine k_ (fun _ B u l m a f K g=>?_) (fun v25=>?_)
      ·obtain rfl:v4=_:=f 4 q_;go_simp;exact g () _ _ (jR.more (i:=25) a rfl rfl rfl rfl rfl) (fun _ _ h=>h) rfl
      simp only[ly];refine k_ (fun _ B u l m a f K g=>?_) (fun v26=>?_)
      ·obtain rfl:v25=_:=f 25 q_;go_simp;exact g () _ _ (jR.more (i:=26) a rfl rfl rfl rfl rfl) (fun _ _ h=>h) rfl
      simp only[ly];refine k_ (fun _ B u l m a f K g=>?_) (fun v27=>?_)
      ·obtain rfl:v26=_:=f 26 q_;obtain rfl:v12=_:=f 12 q_;obtain ⟨⟨u',hu⟩,af⟩:=a.2.files.slot (i:=j) (by simp;omega) (p:=14) O_;go_simp;have o:=a.2.putFiles (y_ u ⟨gf,j*15+14,none⟩ (I_ q)) (a.2.files.seq (lM O) q) A_;refine g () undef _ (jR.f27 ⟨a.1.1.grown (y_ u ⟨gf,j*15+14,none⟩ (I_ q)) (fun k e=>by cases e;exact I.o1) P Q,(iH u ⟨gf,j*15+14,none⟩ (I_ q) (w7) (by show w7≠gf;omega)).trans a.1.2⟩ ?_) (fun _ _ h=>h) trivial;rw [List.set_set] at o;exact o
      simp only[ly];refine dI ?_;intro _ B u L a _;have h1:=a.1.1;have h2:=a.2;rw [L 15 cE,L 18 cE,L 21 cE,L 24 cE,L 27 cE] at h2;clear a L aj;go_wp2;go_meet
      case rel=>exact ⟨h1,h2⟩
     case rest=>
      obtain ⟨ax,av⟩:=hcut;have al:=H_ ax;have ah:=H_ av;clear ax av an I Y;have HP:=H_ (show sW C j y (vN t' y) q s b wh {C with files:=C.files.set j (dL_ y q s bb wh true true true true true)} 0 by unfold sW;rw [if_neg (by rw [ai.out];simp),b3.out];exact ⟨rfl,rfl⟩)
      have J:=ah.box;obtain ⟨x0,x1,x2,x3,x4,x5,x6⟩:=T_ J;have M:=al.bk _ _ lK
      go_wp2_with (refine Q_ rfl (.tmp 8) (.tmp 106) rfl rfl rfl rfl M rfl ?_)
      show bodyPost prog f30 _ _ _ _
      refine bodyPost_ret (aG rfl rfl rfl (setRow_heap _ _ _ _ _ _ M)) rfl ?_;refine ⟨_,_,_,_,_,_,_,_,_,?_,rfl,(ah.boxRow (Z:=w.heap.size+1) O_ (fun h=>h.2.2 rfl) (D_ (o_ gf) nf cf (o_ gr) nr cr E3 e3 k3 E4 e4 k4 E5 e5 k5 E6 e6 k6 E7 e7 k7)).at_.weak (fun z _ hz=>hz.1),d_ al.below O_ _⟩;exact HP
end
section
theorem eJ_ {C:Ck} (n:Int) {a b c d e f g:Value} (h:x_ w S a b c d e f g C) (hus:∀w',s_ w w'->C_ 43 #[bK a b c d e f g,I_ n] w' (cG false w')) :
  C_ 18 #[bK a b c d e f g,I_ n] w (tC (fun rq err=>rq=yK/\err=2) w):=by
 obtain ⟨p,D,c1,q,E,c2,r,F,x,s,G,y,t,H,z,u,I,A,v,J,B,rfl,rfl,rfl,rfl,rfl,rfl,rfl⟩:=x_.caps h;clear h;have l:=H_ (show St w [(w.heap.size,.cells (D_ p D c1 q E c2 r F x s G y t H z u I A v J B) 30 (0,0)),(w.heap.size+1,jD),(w.heap.size+1+1,.cells #[I_ 0] 38 (0,0))] (((w.alloc (.cells (D_ p D c1 q E c2 r F x s G y t H z u I A v J B) 30)).alloc (jD)).alloc (.cells #[I_ 0] 38)) from ((St.nil w).push _ _ rfl).push _ (w+1) A_ |>.push _ (w+1+1) A_)
 go_enter_defers func18,ntmps18
 go_upto_region 2 with fail
 generalize ((w.alloc (.cells (D_ p D c1 q E c2 r F x s G y t H z u I A v J B) 30)).alloc (jD)).alloc (.cells #[I_ 0] 38)=V at l;have m:=l.bk _ _ dV;obtain ⟨x0,L,M,N,O,P,Q⟩:=T_ m
 go_upto_region 3 with (go_at_call 43;refine CM (hus _ l.below) ?_;rintro e w2 ⟨rfl,o⟩;have j:=H_ (l.step o))
 clear x0 L M N O P Q m o l hus;have k:=j.bk _ _ lK;have i:=j.bk _ _ lN;have R:(w2.setRow (w+1) jJ).cell? ⟨w+1+1,0,none⟩=some (I_ 0):=(g_ (setRow_other _ (w+1) (w+1+1) _ O_)).trans (b_ i 0);have U:(w2.setRow (w+1) jJ).frozen? ⟨w+1+1,0,none⟩=false:=(World.frozen?_of_block (a:=⟨w+1+1,0,none⟩) (setRow_other _ (w+1) (w+1+1) _ O_)).trans (t_ i 0)
 go_wp2_with (refine cZ rfl 37 (.tmp 4) (.tmp 11) rfl rfl (w+1) jJ rfl rfl 37 _ k aW rfl (cN) ?_)
 refine leaves_cons (f:=41) (args:=#[P_ (w+1+1)]) A_ (by simp [go_sem]) ?_;refine (fX).mono ?_;rintro e W K ⟨rfl,rfl,rfl⟩;refine aR_ rfl 2 rfl rfl ⟨_,k⟩ ⟨_,i⟩ rfl j.below ?_;exact ⟨rfl,rfl⟩
theorem xT {C:Ck} (n:Int) (q s b k:Int) (h:x_ w S a1 a2 a3 a4 a5 a6 a7 C) (ok:lT C) (hn:¬(0<=n/\n<(C.files.length:Int))) (hS:∀z,w.heap.size<=z->S z) :
  C_ 26 #[bK a1 a2 a3 a4 a5 a6 a7,I_ n,qZ q s b,I_ k] w (fP (fun C' err=>C'=C/\err=2) S w):=by
 have v:=fun w' (hb:s_ w w') (hlt:w.heap.size+1+1<w'.heap.size)=>vC C a1 a2 a3 a4 a5 a6 a7 (S5e S (w)) w' ((h.weak (fun z U hs=>⟨hs,O_,O_,O_⟩)).step hb) ok (fun z U=>⟨hS z O_,O_,O_,O_⟩);have g:=fun w' (hb:s_ w w')=>gY n (h.step hb);rw [show (decide (0<=n)&&decide (n<(C.files.length:Int)))=false by simp;omega] at g;obtain ⟨F,W,c1,G,Y,c2,H,m3,N,I,m4,O,J,m5,P,K,m6,Q,L,m7,R,rfl,rfl,rfl,rfl,rfl,rfl,rfl⟩:=x_.caps h;clear h ok hn;have i:=H_ (show St w [(w.heap.size,.cells (D_ F W c1 G Y c2 H m3 N I m4 O J m5 P K m6 Q L m7 R) 30 (0,0)),(w.heap.size+1,.cells #[I_ q,I_ s,I_ b] 62 (0,0)),(w.heap.size+1+1,bM)] (((w.alloc (.cells (D_ F W c1 G Y c2 H m3 N I m4 O J m5 P K m6 Q L m7 R) 30)).alloc (.cells #[I_ q,I_ s,I_ b] 62)).alloc (bM)) from ((St.nil w).push _ _ rfl).push _ (w+1) A_ |>.push _ (w+1+1) A_);unfold qZ;go_enter func26,ntmps26
 go_upto_region 1 with fail
 generalize ((w.alloc (.cells (D_ F W c1 G Y c2 H m3 N I m4 O J m5 P K m6 Q L m7 R) 30)).alloc (.cells #[I_ q,I_ s,I_ b] 62)).alloc (bM)=V at i;have t:w.heap.size+1+1<V.heap.size:=n_ (i.bk _ _ lN);have o:=i.bk _ _ dV;obtain ⟨x0,x,y,A,B,D,E⟩:=T_ o
 go_upto_region 2 with (go_at_call 42;refine CM (v _ i.below t) ?_;rintro e w1 ⟨X,gf,nf,cf,gr,nr,cr,c',d',e',f',g',rfl,d,u⟩)
 have a:=H_ (i.step u);have c:=H_ d;obtain ⟨B1,r⟩:=bL V.heap.size;rw [<-r] at c t;obtain ⟨E3,e3,k3,rfl⟩:=d.zones.cap;obtain ⟨E4,e4,k4,rfl⟩:=d.groups.cap;obtain ⟨E5,e5,k5,rfl⟩:=d.lists.cap;obtain ⟨E6,e6,k6,rfl⟩:=d.clocks.cap;obtain ⟨E7,e7,k7,rfl⟩:=d.ptes.cap;clear x0 x y A B D E o d u i r v;have p:=a.bk _ _ dV;obtain ⟨x0,x,y,A,B,D,E⟩:=T_ p
 go_upto_region 3 with (go_at_call 73;refine CM (g _ a.below) ?_;rintro e w2 ⟨rfl,f⟩;have m:=H_ (a.step f);have j:=H_ (c.step f))
 clear x0 x y A B D E p f a c g;have M:=j.box;obtain ⟨x0,x,y,A,B,D,E⟩:=T_ M;have l:=m.bk _ _ lN
 go_wp2_with (refine Q_ rfl (.tmp 8) (.tmp 23) rfl rfl rfl rfl l rfl ?_)
 show bodyPost prog f26 _ _ _ _
 refine bodyPost_ret (aG rfl rfl rfl (setRow_heap _ _ _ _ _ _ l)) rfl ?_;exact ⟨_,_,_,_,_,_,_,_,_,⟨rfl,rfl⟩,rfl,(j.boxRow (Z:=w.heap.size+1+1) O_ (fun h=>h.2.2.2 rfl) (D_ (o_ gf) nf cf (o_ gr) nr cr E3 e3 k3 E4 e4 k4 E5 e5 k5 E6 e6 k6 E7 e7 k7)).at_.weak (fun z _ U=>U.1),d_ m.below O_ _⟩
theorem gi_ {C:Ck} (n:Int) (fs sc:ByteArray) (h:x_ w S a1 a2 a3 a4 a5 a6 a7 C) (ok:lT C) (hn:¬(0<=n/\n<(C.files.length:Int))) (hS:∀z,w.heap.size<=z->S z) :
  C_ 30 #[bK a1 a2 a3 a4 a5 a6 a7,I_ n,.string fs,.string sc] w (fP (fun C' err=>C'=C/\err=2) S w):=by
 have r:=fun w' (hb:s_ w w') (hlt:w.heap.size+1<w'.heap.size)=>vC C a1 a2 a3 a4 a5 a6 a7 (S2 S (w)) w' ((h.weak (fun z B hs=>⟨hs,O_,O_⟩)).step hb) ok (fun z B=>⟨hS z O_,O_,O_⟩);have f:=fun w' (hb:s_ w w')=>gY n (h.step hb);rw [show (decide (0<=n)&&decide (n<(C.files.length:Int)))=false by simp;omega] at f;obtain ⟨D,P,c1,E,Q,c2,F,R,K,G,U,L,H,W,M,I,Y,N,J,m7,O,rfl,rfl,rfl,rfl,rfl,rfl,rfl⟩:=x_.caps h;clear h ok hn;have g:=H_ (show St w [(w.heap.size,.cells (D_ D P c1 E Q c2 F R K G U L H W M I Y N J m7 O) 30 (0,0)),(w.heap.size+1,bM)] ((w.alloc (.cells (D_ D P c1 E Q c2 F R K G U L H W M I Y N J m7 O) 30)).alloc (bM)) from ((St.nil w).push _ _ rfl).push _ (w+1) A_);go_enter func30,ntmps30
 go_upto_region 1 with fail
 generalize (w.alloc _).alloc _=V at g;have p:w.heap.size+1<V.heap.size:=n_ (g.bk _ _ lK);have l:=g.bk _ _ dV;obtain ⟨x0,s,t,u,v,x,y⟩:=T_ l
 go_upto_region 2 with (go_at_call 42;refine CM (r _ g.below p) ?_;rintro e w1 ⟨X,gf,nf,cf,gr,nr,cr,c',d',e',f',g',rfl,c,q⟩)
 have a:=H_ (g.step q);have b:=H_ c;obtain ⟨B1,o⟩:=bL V.heap.size;rw [<-o] at b p;obtain ⟨E3,e3,k3,rfl⟩:=c.zones.cap;obtain ⟨E4,e4,k4,rfl⟩:=c.groups.cap;obtain ⟨E5,e5,k5,rfl⟩:=c.lists.cap;obtain ⟨E6,e6,k6,rfl⟩:=c.clocks.cap;obtain ⟨E7,e7,k7,rfl⟩:=c.ptes.cap;clear x0 s t u v x y l c q g o r;have m:=a.bk _ _ dV;obtain ⟨x0,s,t,u,v,x,y⟩:=T_ m
 go_upto_region 3 with (go_at_call 73;refine CM (f _ a.below) ?_;rintro e w2 ⟨rfl,d⟩;have k:=H_ (a.step d);have i:=H_ (b.step d))
 clear x0 s t u v x y m d a b f;have A:=i.box;obtain ⟨x0,s,t,u,v,x,y⟩:=T_ A;have j:=k.bk _ _ lK
 go_wp2_with (refine Q_ rfl (.tmp 8) (.tmp 25) rfl rfl rfl rfl j rfl ?_)
 show bodyPost prog f30 _ _ _ _
 refine bodyPost_ret (aG rfl rfl rfl (setRow_heap _ _ _ _ _ _ j)) rfl ?_;exact ⟨_,_,_,_,_,_,_,_,_,⟨rfl,rfl⟩,rfl,(i.boxRow (Z:=w.heap.size+1) O_ (fun h=>h.2.2 rfl) (D_ (o_ gf) nf cf (o_ gr) nr cr E3 e3 k3 E4 e4 k4 E5 e5 k5 E6 e6 k6 E7 e7 k7)).at_.weak (fun z _ B=>B.1),d_ k.below O_ _⟩
theorem cT_ {C:Ck} (n sz:Int) {a b c d e f g:Value} (h:x_ w S a b c d e f g C) (ok:lT C) (hn:¬(0<=n/\n<(C.files.length:Int))\/sz<0\/128<sz) (hS:∀z,w.heap.size<=z->S z) :
  C_ 22 #[bK a b c d e f g,I_ n,I_ sz] w (vJ (fun C' rq ino err=>C'=C/\rq=yK/\ino=qZ 0 0 0/\err=2) S w):=by
 have R:=fun w' (hb:s_ w w') (hlt:w.heap.size+1+1+1+1<w'.heap.size)=>vC C a b c d e f g (S6 S (w)) w' ((h.weak (fun z hz hs=>⟨hs,O_,O_,O_,O_,O_⟩)).step hb) ok (fun z hz=>⟨hS z O_,O_,O_,O_,O_,O_⟩);have p:=fun w' (hb:s_ w w')=>gY n (h.step hb);obtain ⟨W,o⟩:=bL ((decide (0<=n)&&decide (n<(C.files.length:Int))));rw [<-o] at p;have U:W=false\/sz<0\/128<sz:=by
  rcases hn with h | h
  ·left
   rw [o];simp;omega
  ·exact .inr h
 obtain ⟨A1,m1,c1,A2,m2,c2,A3,m3,c3,A4,m4,c4,A5,m5,c5,A6,m6,c6,A7,m7,c7,rfl,rfl,rfl,rfl,rfl,rfl,rfl⟩:=x_.caps h;clear h ok hn o;have v:=H_ (show St w [(w.heap.size,.cells (D_ A1 m1 c1 A2 m2 c2 A3 m3 c3 A4 m4 c4 A5 m5 c5 A6 m6 c6 A7 m7 c7) 30 (0,0)),(w.heap.size+1,.cells #[I_ n] 3 (0,0)),(w.heap.size+1+1,bM),(w.heap.size+1+1+1,jD),(w.heap.size+1+1+1+1,.cells #[I_ 0,I_ 0,I_ 0] 62 (0,0))] (((((w.alloc (.cells (D_ A1 m1 c1 A2 m2 c2 A3 m3 c3 A4 m4 c4 A5 m5 c5 A6 m6 c6 A7 m7 c7) 30)).alloc (.cells #[I_ n] 3)).alloc (bM)).alloc (jD)).alloc (.cells #[I_ 0,I_ 0,I_ 0] 62)) from (((((St.nil w).push _ _ rfl).push _ (w+1) A_).push _ (w+1+1) A_).push _ (w+1+1+1) A_).push _ (w+1+1+1+1) A_);go_enter func22,ntmps22
 go_upto_region 1 with fail
 generalize ((((w.alloc (.cells (D_ A1 m1 c1 A2 m2 c2 A3 m3 c3 A4 m4 c4 A5 m5 c5 A6 m6 c6 A7 m7 c7) 30)).alloc (.cells #[I_ n] 3)).alloc (bM)).alloc (jD)).alloc (.cells #[I_ 0,I_ 0,I_ 0] 62)=V at v;have P:w.heap.size+1+1+1+1<V.heap.size:=n_ (v.bk _ _ M4_);have M:=v.bk _ _ dV;obtain ⟨x0,Y,x2,x3,x4,x5,x6⟩:=T_ M
 go_upto_region 2 with (go_at_call 42;refine CM (R _ v.below P) ?_;rintro e w1 ⟨X,gf,nf,x,gr,nr,y,c',d',e',f',g',rfl,l,Q⟩)
 have i:=H_ (v.step Q);have k:=H_ l;obtain ⟨B1,O⟩:=bL V.heap.size;rw [<-O] at k P;obtain ⟨q,A,G,rfl⟩:=l.zones.cap;obtain ⟨r,B,H,rfl⟩:=l.groups.cap;obtain ⟨s,D,I,rfl⟩:=l.lists.cap;obtain ⟨t,E,J,rfl⟩:=l.clocks.cap;obtain ⟨u,F,K,rfl⟩:=l.ptes.cap;clear x0 Y x2 x3 x4 x5 x6 M l Q v O R;have N:=i.bk _ _ dV;obtain ⟨x0,Y,x2,x3,x4,x5,x6⟩:=T_ N;have a1:=i.bk _ _ lK;have fj:=sF a1;have a5:W=false\/(W=true/\sz<0)\/(W=true/\¬sz<0/\128<sz):=by
  cases W with
  | false=>exact .inl rfl
  | true=>
   rcases U with h | h | h
   ·cases h
   ·exact .inr (.inl ⟨rfl,h⟩)
   ·exact .inr (.inr ⟨rfl,O_,h⟩)
 clear U
 rcases a5 with rfl | ⟨rfl,h0⟩ | ⟨rfl,h0,h1⟩
 all_goals
  go_upto_region 3 with (go_at_call 73;refine CM (p _ i.below) ?_;rintro e w2 ⟨rfl,m⟩;have j:=H_ (i.step m);have L:=H_ (k.step m))
  clear x0 Y x2 x3 x4 x5 x6 N m i k p;have a0:=L.box;obtain ⟨x0,Y,x2,x3,x4,x5,x6⟩:=T_ a0;have HR:=j.bk _ _ lN;have HQ:=j.bk _ _ uU;have HN:=j.bk _ _ M4_
  go_wp2_with (first
   | (refine Q_ rfl (.tmp 6) (.tmp 32) rfl rfl rfl rfl HR rfl ?_)
   | (refine cZ rfl 37 (.tmp 7) (.tmp 33) rfl rfl (w+1+1+1) jJ rfl rfl 37 _ ((setRow_other _ (w+1+1) (w+1+1+1) _ O_).trans HQ) aW rfl (cN) ?_)
   | (refine cZ rfl 62 (.tmp 8) (.tmp 34) rfl rfl (w+1+1+1+1) #[I_ 0,I_ 0,I_ 0] rfl rfl 62 _ ((setRow_other _ (w+1+1+1) (w+1+1+1+1) _ O_).trans ((setRow_other _ (w+1+1) (w+1+1+1+1) _ O_).trans HN)) jM rfl (oJ) ?_))
  show bodyPost prog f22 _ _ _ _
  have a3:((w2.setRow (w+1+1) (D_ (o_ gf) nf x (o_ gr) nr y q A G r B H s D I t E J u F K)).setRow (w+1+1+1) jJ).heap[w.heap.size+1+1+1]?=some (jD):=setRow_heap _ _ _ _ _ _ ((setRow_other w2 (w+1+1) (w+1+1+1) (D_ (o_ gf) nf x (o_ gr) nr y q A G r B H s D I t E J u F K) O_).trans HQ);have a2:=(setRow_other (w2.setRow (w+1+1) (D_ (o_ gf) nf x (o_ gr) nr y q A G r B H s D I t E J u F K)) (w+1+1+1) (w+1+1+1+1) jJ O_).trans ((setRow_other w2 (w+1+1) (w+1+1+1+1) (D_ (o_ gf) nf x (o_ gr) nr y q A G r B H s D I t E J u F K) O_).trans HN);have a4:=(setRow_other (w2.setRow (w+1+1) (D_ (o_ gf) nf x (o_ gr) nr y q A G r B H s D I t E J u F K)) (w+1+1+1) (w+1+1) jJ O_).trans (setRow_heap _ _ _ _ _ _ HR);refine bodyPost_ret (eT_ rfl rfl rfl rfl rfl ((setRow_other _ (w+1+1+1+1) (w+1+1) _ O_).trans a4) ((setRow_other _ (w+1+1+1+1) (w+1+1+1) _ O_).trans a3) (setRow_heap _ _ _ _ _ _ a2) rfl rfl rfl) rfl ?_
  exact ⟨C,_,_,_,_,_,_,_,_,_,_,⟨rfl,rfl,rfl,rfl⟩,rfl,(((L.boxRow (Z:=w.heap.size+1+1) O_ (fun h=>h.2.2.2.1 rfl) (D_ (o_ gf) nf x (o_ gr) nr y q A G r B H s D I t E J u F K)).boxRow (Z:=w.heap.size+1+1+1) O_ (fun h=>h.2.2.2.2.1 rfl) jJ).boxRow (Z:=w.heap.size+1+1+1+1) O_ (fun h=>h.2.2.2.2.2 rfl) _).at_.weak (fun z _ hz=>hz.1),d_ (d_ (d_ j.below O_ _) O_ _) O_ _⟩
end
section
def CKg (a b:Nat) (H:World->Prop) (P:Bool->Bool->World->Prop) (d:Nat->Bool) (wx:World):Prop:=H wx/\P (d a) (d b) wx
section
variable {a b:Nat} {H:World->Prop} {P:Bool->Bool->World->Prop} {d:Nat->Bool} {wx:World} {i:Nat}
theorem CKg.more (h:CKg a b H P d wx) (h1:(a == i)=false) (h2:(b == i)=false):CKg a b H P (aI d i) wx:=by
 refine ⟨h.1,?_⟩;rw [N_ h1,N_ h2];exact h.2
theorem CKg.fa (h0:H wx) (h:P true (d b) wx) (hn:(b == a)=false):CKg a b H P (aI d a) wx:=by
 refine ⟨h0,?_⟩;rw [cI,N_ hn];exact h
theorem CKg.fb (h0:H wx) (h:P (d a) true wx) (hn:(a == b)=false):CKg a b H P (aI d b) wx:=by
 refine ⟨h0,?_⟩;rw [cI,N_ hn];exact h
end
end
section
theorem gv_ {C:Ck} (n:Int) {a b c d e f g:Value} (h:x_ w S a b c d e f g C) (hn:¬(1<=n/\n<=C.frames.length)):C_ 37 #[bK a b c d e f g,I_ n] w (cG false w):=by
 obtain ⟨A,cap,rfl,i,j⟩:=h.frames.form;clear h
 by_cases h1:1<=n
 ·have h2:decide (n<=(C.frames.length:Int))=false:=dF (fun h=>hn ⟨h1,h⟩);clear hn;go_enter func37,ntmps37;go_wp2;go_ret;exact ⟨rfl,a_ B_ _⟩
 ·have h2:decide (1<=n)=false:=dF h1;clear hn h1;go_enter func37,ntmps37;go_wp2;go_ret;exact ⟨rfl,a_ B_ _⟩
end
section
section
variable {F G Z:Nat} {C:Ck}
theorem cF.ofOk (h:cF F G Z C):lT C where
 ok:=h.ok
 zn:=⟨h.zok.ne,by have:=h.nz;have:=h.few;omega⟩
 pt:=by have:=h.pok.len;omega
 free:=fun z b=>by
  obtain ⟨k,a⟩:=List.getElem?_of_mem b;have:=(h.zok.each k z a).flen (by have:=h.zok.nx k (Nat.le_of_lt (bI a));omega);omega
 lru:=fun l hl=>by
  obtain ⟨k,a⟩:=List.getElem?_of_mem hl;have:=(h.lok k l a).lens;omega
theorem cF.num (h:cF F G Z C) (n:Int):(∃i j x y,n=((i:Nat):Int)+1/\fG C i x j y/\0<J_ y.c x.page)\/((∀i j x y,n=((i:Nat):Int)+1->¬fG C i x j y)/\(¬(1<=n/\n<=(C.frames.length:Int))\/∃i x,n=((i:Nat):Int)+1/\C.frames[i]?=some x/\x.file=-1)):=by
 by_cases g:1<=n/\n<=(C.frames.length:Int)
 ·obtain ⟨i,d⟩:∃i:Nat,n=(i:Int)+1:=⟨(n - 1).toNat,O_⟩;obtain ⟨x,b⟩:∃x,C.frames[i]?=some x:=⟨_,cY O_⟩
  by_cases hf:x.file=-1
  ·refine .inr ⟨fun f j x' y' e a=>?_,.inr ⟨i,x,d,b,hf⟩⟩;obtain rfl:f=i:=O_
   obtain rfl:x'=x:=bH (a.fr.symm.trans b);have:=a.ix;omega
  ·obtain ⟨j,y,a,hv⟩:=h.used b hf;exact .inl ⟨i,j,x,y,d,a,O_⟩
 ·refine .inr ⟨fun f j x' y' e a=>?_,.inl g⟩;have:=bI a.fr;omega
theorem cF.pnot (h:cF F G Z C) {a b c d e f g:Value} (hc:x_ w S a b c d e f g C) (hn:¬(1<=n/\n<=(C.frames.length:Int))\/∃i x,n=((i:Nat):Int)+1/\C.frames[i]?=some x/\x.file=-1) (w':World) (hb:s_ w w'):C_ 43 #[bK a b c d e f g,I_ n] w' (cG false w'):=by
 rcases hn with hn | ⟨i,x,rfl,hx,hf⟩
 ·exact b0_ n (hc.step hb) hn
 ·have:=pY i x (hc.step hb) hx (by have:=h.nr;omega);rw [dF O_] at this;exact this
theorem cF.rnot (h:cF F G Z C) {a b c d e f g:Value} (hc:x_ w S a b c d e f g C) (hn:¬(1<=n/\n<=(C.frames.length:Int))\/∃i x,n=((i:Nat):Int)+1/\C.frames[i]?=some x/\x.file=-1) (w':World) (hb:s_ w w'):C_ 37 #[bK a b c d e f g,I_ n] w' (cG false w'):=by
 rcases hn with hn | ⟨i,x,rfl,hx,hf⟩
 ·exact gv_ n (hc.step hb) hn
 ·have:=jV i x (hc.step hb) hx (by have:=h.nr;omega);rw [show uR x=false by unfold uR;rw [hf];rfl] at this;exact this
end
theorem fG.one {C:Ck} {i':Nat} {x':Fr} (h:fG C i x j y) (h':fG C i' x' j' y') (e:((i:Nat):Int)+1=(i':Int)+1):i'=i/\x'=x/\j'=j/\y'=y:=by
 obtain rfl:i'=i:=O_
 obtain rfl:x'=x:=bH (h'.fr.symm.trans h.fr);obtain rfl:j'=j:=by have:=h.ix;have:=h'.ix;omega
 exact ⟨rfl,rfl,rfl,bH (h'.fl.symm.trans h.fl)⟩
def pA (C:Ck) (n:Int) (C':Ck) (rq:Value) (err:Int):Prop:=
 (∃i j x y,n=((i:Nat):Int)+1/\fG C i x j y/\fM C i j x y C' rq err)\/((∀i j x y,n=((i:Nat):Int)+1->¬fG C i x j y)/\C'=C/\rq=yK/\err=2)
def wQ (C:Ck) (n k:Int) (C':Ck) (err:Int):Prop:=
 (∃i j x y,n=((i:Nat):Int)+1/\fG C i x j y/\jW C i j x y k C' err)\/((∀i j x y,n=((i:Nat):Int)+1->¬fG C i x j y)/\C'=C/\err=2)
def az_ (C:Ck) (n:Int) (rq:Value) (err:Int):Prop:=
 (∃i j x y,n=((i:Nat):Int)+1/\fG C i x j y/\sC x y rq err)\/((∀i j x y,n=((i:Nat):Int)+1->¬fG C i x j y)/\rq=yK/\err=2)
theorem fM.one {C:Ck} (h1:fM C i j x y C1 r1 e1) (h2:fM C i j x y C2 r2 e2):C2=C1/\r2=r1/\e2=e1:=by
 unfold fM at h1 h2
 split at h1
 ·rename_i h;rw [if_pos h] at h2;obtain ⟨rfl,rfl,rfl⟩:=h1;exact h2
 rename_i h;rw [if_neg h] at h2
 split at h1
 ·rename_i h;rw [if_pos h] at h2;obtain ⟨rfl,rfl,rfl⟩:=h1;exact h2
 ·rename_i h;rw [if_neg h] at h2;obtain ⟨rfl,rfl,rfl⟩:=h1;exact h2
theorem jW.one {C:Ck} (h1:jW C i j x y k C1 e1) (h2:jW C i j x y k C2 e2):C2=C1/\e2=e1:=by
 unfold jW at h1 h2
 split at h1
 ·rename_i h;rw [if_pos h] at h2;obtain ⟨rfl,rfl⟩:=h1;exact h2
 rename_i h;rw [if_neg h] at h2
 split at h1
 ·rename_i h;rw [if_pos h] at h2;obtain ⟨rfl,rfl⟩:=h1;exact h2
 ·rename_i h;rw [if_neg h] at h2;obtain ⟨rfl,rfl⟩:=h1;exact h2
theorem sC.one (h1:sC x y r1 e1) (h2:sC x y r2 e2):r2=r1/\e2=e1:=by
 unfold sC at h1 h2
 split at h1
 ·rename_i h;rw [if_pos h] at h2;obtain ⟨rfl,rfl⟩:=h1;exact h2
 ·rename_i h;rw [if_neg h] at h2;obtain ⟨rfl,rfl⟩:=h1;exact h2
theorem pA.one {C:Ck} (h1:pA C n C1 r1 e1) (h2:pA C n C2 r2 e2):C2=C1/\r2=r1/\e2=e1:=by
 rcases h1 with ⟨i,j,x,y,rfl,hu,hP⟩ | ⟨hn,rfl,rfl,rfl⟩
 ·rcases h2 with ⟨i',j',x',y',e,hu',hP'⟩ | ⟨hn',_⟩
  ·obtain ⟨rfl,rfl,rfl,rfl⟩:=hu.one hu' e;exact hP.one hP'
  ·exact absurd hu (hn' i j x y rfl)
 ·rcases h2 with ⟨i',j',x',y',e,hu',hP'⟩ | ⟨_,rfl,rfl,rfl⟩
  ·exact absurd hu' (hn i' j' x' y' e)
  ·exact ⟨rfl,rfl,rfl⟩
theorem wQ.one {C:Ck} (h1:wQ C n k C1 e1) (h2:wQ C n k C2 e2):C2=C1/\e2=e1:=by
 rcases h1 with ⟨i,j,x,y,rfl,hu,hP⟩ | ⟨hn,rfl,rfl⟩
 ·rcases h2 with ⟨i',j',x',y',e,hu',hP'⟩ | ⟨hn',_⟩
  ·obtain ⟨rfl,rfl,rfl,rfl⟩:=hu.one hu' e;exact hP.one hP'
  ·exact absurd hu (hn' i j x y rfl)
 ·rcases h2 with ⟨i',j',x',y',e,hu',hP'⟩ | ⟨_,rfl,rfl⟩
  ·exact absurd hu' (hn i' j' x' y' e)
  ·exact ⟨rfl,rfl⟩
theorem az_.one {C:Ck} (h1:az_ C n r1 e1) (h2:az_ C n r2 e2):r2=r1/\e2=e1:=by
 rcases h1 with ⟨i,j,x,y,rfl,hu,hP⟩ | ⟨hn,rfl,rfl⟩
 ·rcases h2 with ⟨i',j',x',y',e,hu',hP'⟩ | ⟨hn',_⟩
  ·obtain ⟨rfl,rfl,rfl,rfl⟩:=hu.one hu' e;exact hP.one hP'
  ·exact absurd hu (hn' i j x y rfl)
 ·rcases h2 with ⟨i',j',x',y',e,hu',hP'⟩ | ⟨_,rfl,rfl⟩
  ·exact absurd hu' (hn i' j' x' y' e)
  ·exact ⟨rfl,rfl⟩
theorem kU.imp {P Q:Ck->Value->Int->Prop} (h:kU P S w en w') (hq:∀C rq e,P C rq e->Q C rq e):kU Q S w en w':=by
 obtain ⟨C',err,a,b,c,d,e,f,g,rq,h1,h2⟩:=h;exact ⟨C',err,a,b,c,d,e,f,g,rq,hq _ _ _ h1,h2⟩
theorem fP.imp {P Q:Ck->Int->Prop} (h:fP P S w en w') (hq:∀C e,P C e->Q C e):fP Q S w en w':=by
 obtain ⟨C',err,a,b,c,d,e,f,g,h1,h2⟩:=h;exact ⟨C',err,a,b,c,d,e,f,g,hq _ _ h1,h2⟩
theorem tC.imp {P Q:Value->Int->Prop} (h:tC P w en w') (hq:∀rq e,P rq e->Q rq e):tC Q w en w':=by
 obtain ⟨rq,err,h1,h2⟩:=h;exact ⟨rq,err,hq _ _ h1,h2⟩
section
variable {F G Z:Nat} (C:Ck) (n:Int) (a b c d e f g:Value) (S:Nat->Prop) (w:World) (h:x_ w S a b c d e f g C) (hI:cF F G Z C) (hS:∀z,w.heap.size<=z->S z)
include h hI hS
theorem pV (hdb:qN w):C_ 10 #[bK a b c d e f g,I_ n] w (kU (pA C n) S w):=by
 rcases hI.num n with ⟨i,j,x,y,rfl,hu,hv⟩ | ⟨hno,hn⟩
 ·obtain ⟨s,o,m⟩:=(hI.file j y hu.fl).slot;exact (eD_ s h hI.ofOk hu o m hI.pok hv hdb hS).mono fun _ _ l=>l.imp fun _ _ _ k=> .inl ⟨i,j,x,y,rfl,hu,k⟩
 ·exact (eC_ n h hI.ofOk (hI.pnot h hn) hS).mono fun _ _ l=>l.imp fun _ _ _ k=> .inr ⟨hno,k⟩
theorem eG_ (k:Int):C_ 16 #[bK a b c d e f g,I_ n,I_ k] w (fP (wQ C n k) S w):=by
 rcases hI.num n with ⟨i,j,x,y,rfl,hu,hv⟩ | ⟨hno,hn⟩
 ·exact (hO_ k h hI.ofOk hu (hI.file j y hu.fl).err hv hS).mono fun _ _ m=>m.imp fun _ _ l=> .inl ⟨i,j,x,y,rfl,hu,l⟩
 ·exact (hN_ n k h hI.ofOk (hI.pnot h hn) hS).mono fun _ _ m=>m.imp fun _ _ l=> .inr ⟨hno,l⟩
omit hS in
theorem eI_ (hdb:qN w):C_ 18 #[bK a b c d e f g,I_ n] w (tC (az_ C n) w):=by
 rcases hI.num n with ⟨i,j,x,y,rfl,hu,hv⟩ | ⟨hno,hn⟩
 ·obtain ⟨s,o,m⟩:=(hI.file j y hu.fl).slot;exact (eK_ h (by have:=hI.nr;omega) hu O_ hdb).mono fun _ _ l=>l.imp fun _ _ k=> .inl ⟨i,j,x,y,rfl,hu,k⟩
 ·exact (eJ_ n h (hI.pnot h hn)).mono fun _ _ l=>l.imp fun _ _ k=> .inr ⟨hno,k⟩
end
def yB (C:Ck) (f:Int):List Int:=if 0<=f then (match C.files[f.toNat]? with | some y=>mO C (fun p=>J_ y.c (p:Int)) 8 | none=>[]) else []
theorem c9_ (C:Ck):mO C (fun _=>0) 8=[]:=by
 unfold mO;rw [show (fun p:Nat=>jH C 0)=fun _=>false from funext fun _=>by simp [jH]];simp
theorem fd_ {C:Ck} {f:Int} (h:¬(0<=f/\f<(C.files.length:Int))):yB C f=[]:=by
 unfold yB
 split
 ·rw [eN_ O_]
 ·rfl
theorem yC {C:Ck} (h:C.files[j]?=some y):yB C (j:Int)=mO C (fun p=>J_ y.c (p:Int)) 8:=by
 unfold yB;rw [if_pos O_,show ((j:Int)).toNat=j by simp,h]
section
variable {F G Z:Nat} (C:Ck) (n:Int) (a b c d e f g:Value) (S:Nat->Prop) (w:World) (h:x_ w S a b c d e f g C) (hI:cF F G Z C) (hS:∀z,w.heap.size<=z->S z)
include h hI hS
theorem rI:C_ 12 #[bK a b c d e f g,I_ n] w (pC (yB C n) S w):=by
 have hl:C.frames.length<=100:=by have:=hI.nr;omega
 by_cases k:0<=n/\n<(C.files.length:Int)
 ·obtain ⟨j,rfl⟩:=mZ k.1;obtain ⟨y,l⟩:∃y,C.files[j]?=some y:=⟨_,cY O_⟩;rw [yC l];exact wG j h hl (fun p w' i _=>gl_ j y p (h.step i) l) hS
 ·rw [fd_ k,<-c9_ C];exact wG n h hl (fun p w' i _=>gk_ n p (h.step i) k) hS
end
end
section
structure Cv where
 a:Value
 b:Value
 c:Value
 d:Value
 e:Value
 f:Value
 g:Value
 C:Ck
def Cv.at_ (v:Cv) (W:World) (S:Nat->Prop):Prop:=x_ W S v.a v.b v.c v.d v.e v.f v.g v.C
abbrev oK (v:Cv):Obj:= .cells #[v.a,v.b,v.c,v.d,v.e,v.f,v.g] 30 (0,0)
theorem Cv.to {v:Cv} {C:Ck} (e:v.C=C) (h:v.at_ W S):x_ W S v.a v.b v.c v.d v.e v.f v.g C:=e ▸ h
theorem iJ {ops:Array Oper} {rest:List Oper} {o:Oper} {a:Act} {Q:Exit->Act->World->Prop} {old:Array Value} (hgd:o.guard=none) (x y:Operand) (ho:o.op = .store 30 x y) (hd:o.dst=none) {g:Nat} (v:Cv)
  (hx:a.eval x = P_ g) (hy:a.eval y = .agg #[v.a,v.b,v.c,v.d,v.e,v.f,v.g]) (hg:w.heap[g]?=some (.cells old 30 (0,0))) (hold:old.size=7) (hv:v.at_ W S)
  (h:wpList prog ops Q rest a (w.setRow g #[v.a,v.b,v.c,v.d,v.e,v.f,v.g])):wpList prog ops Q (o :: rest) a w:=by
 obtain ⟨a1,i,c1,j,k,l,m,C⟩:=v;have hc:x_ W S a1 i c1 j k l m C:=hv;obtain ⟨n,z,n1,p,A,n2,q,B,n3,r,D,H,s,E,I,t,F,J,u,G,K,rfl,rfl,rfl,rfl,rfl,rfl,rfl⟩:=x_.caps hc;exact cZ hgd 30 x y ho hd g _ hx hy 30 old hg cD hold (fQ) h
def LQ (Q:Nat->Prop) (l:List (Nat × Obj)) (z:Nat):Prop:=Q z/\z ∉ l.map (·.1)
structure LZ (I:World->Prop) (N:Nat) (Q:Nat->Prop) (l:List (Nat × Obj)) (cs:List Cv) (W:World):Prop where
 iv:I W
 st:∀W W',I W->s_ W W'->I W'
 rw_:∀W W' g,I W->W.grownBy W' (some g)->N<=g->I W'
 nq:∀z,N<=z->Q z
 nw:N<=W.heap.size
 bk:∀g o,(g,o) ∈ l->W.heap[g]?=some o
 gt:∀g o,(g,o) ∈ l->N<=g
 nd:(l.map (·.1)).Nodup
 ck:∀c ∈ cs,c.at_ W (LQ Q l)
section
variable {I:World->Prop} {N:Nat} {Q:Nat->Prop} {W W':World} {l:List (Nat × Obj)} {cs:List Cv}
theorem LZ.step (h:LZ I N Q l cs W) (hb:s_ W W'):LZ I N Q l cs W':=
 ⟨h.st _ _ h.iv hb,h.st,h.rw_,h.nq,eF h.nw hb.size,fun g o hm=>h_ (h.bk g o hm) hb,h.gt,h.nd,fun c hc=>x_.step (h.ck c hc) hb⟩
theorem LZ.mem (h:LZ I N Q l cs W) {g:Nat} (hg:g ∈ l.map (·.1)):g<W:=by
 obtain ⟨⟨g',o⟩,hm,rfl⟩:=List.mem_map.1 hg;exact n_ (h.bk g' o hm)
theorem LZ.fresh (h:LZ I N Q l cs W) (z:Nat) (hz:W<=z):LQ Q l z:=⟨h.nq z (eF h.nw hz),fun hm=>by have:=h.mem hm;omega⟩
theorem LZ.push (h:LZ I N Q l cs W) (o:Obj) (n:Nat) (hn:W.heap.size=n):LZ I N Q (l ++ [(n,o)]) cs (W.alloc o) where
 iv:=h.st _ _ h.iv (a_ B_ o)
 st:=h.st
 rw_:=h.rw_
 nq:=h.nq
 nw:=eF h.nw (a_ B_ o).size
 bk g o' d:=by
  rcases List.mem_append.1 d with d | d
  ·exact m_ (h.bk g o' d) _
  ·simp only[mS_,Prod.mk.injEq] at d;obtain ⟨rfl,rfl⟩:=d;exact l_ _ _ _ hn
 gt g o' d:=by
  rcases List.mem_append.1 d with d | d
  ·exact h.gt g o' d
  ·simp only[mS_,Prod.mk.injEq] at d;obtain ⟨rfl,rfl⟩:=d;rw [<-hn];exact h.nw
 nd:=by
  rw [List.map_append];refine List.nodup_append.2 ⟨h.nd,List.nodup_cons.2 ⟨A_,List.nodup_nil⟩,fun a i b j e=>?_⟩;have:=h.mem i;simp only[List.map_cons,List.map_nil,mS_] at j;omega
 ck c hc:=by
  refine x_.step (x_.weak (h.ck c hc) (S':=LQ Q (l ++ [(n,o)])) (fun z k f=>⟨f.1,fun d=>?_⟩)) (a_ B_ o);rw [List.map_append] at d
  rcases List.mem_append.1 d with d | d
  ·exact f.2 d
  ·simp only[List.map_cons,List.map_nil,mS_] at d;omega
theorem LZ.put (h:LZ I N Q l cs W) (i:Nat) {g:Nat} {old cs':Array Value} {ty:TypeId} {fr:Nat × Nat} (hi:l[i]?=some (g,.cells old ty fr)):LZ I N Q (l.set i (g,.cells cs' ty fr)) cs (W.setRow g cs'):=by
 have a:(l.set i (g,.cells cs' ty fr)).map (·.1)=l.map (·.1):=by
  rw [List.map_set];refine List.ext_getElem? fun q=>?_;rw [List.getElem?_set]
  split
  ·rename_i e
   subst e;rw [if_pos (by have:=bI hi;simpa using this),gP_,hi]
   rfl
  ·rfl
 have j:=h.gt g _ (gL hi);refine ⟨h.rw_ _ _ _ h.iv (eU _ _ _) j,h.st,h.rw_,h.nq,by have:=h.nw;simpa [World.setRow] using this,fun d o' k=>?_,fun d o' k=>?_,by rw [a];exact h.nd,fun c hc=>?_⟩
 ·obtain ⟨q,b⟩:=List.getElem?_of_mem k;rw [List.getElem?_set] at b
  split at b
  ·split at b
   ·injection b with b
    injection b with h1 h2
    subst h1 h2;exact setRow_heap _ _ _ _ _ _ (h.bk g _ (gL hi))
   ·cases b
  ·rename_i hne
   have f:d≠g:=fun e=>hne (by
    have h1:(l.map (·.1))[q]?=some d:=by rw [gP_,b];rfl
    have h2:(l.map (·.1))[i]?=some g:=by rw [gP_,hi];rfl
    subst e;exact (List.getElem?_inj (bI h2) h.nd).1 (h2.trans h1.symm))
   exact (setRow_other _ _ _ _ f).trans (h.bk d o' (gL b))
 ·have:d ∈ (l.set i (g,.cells cs' ty fr)).map (·.1):=List.mem_map.2 ⟨_,k,rfl⟩;rw [a] at this;obtain ⟨⟨m,o2⟩,h1,rfl⟩:=List.mem_map.1 this;exact h.gt m o2 h1
 ·have:LQ Q (l.set i (g,.cells cs' ty fr))=LQ Q l:=by unfold LQ;rw [a]
  rw [this];exact x_.kept (h.ck c hc) (r_.of_setRow _ _ _ (fun q=>q.2 (List.mem_map.2 ⟨_,gL hi,rfl⟩)))
theorem LZ.own (h:LZ I N Q l [] W) {g:Nat} (hb:W.grownBy W' (some g)) (hg:N<=g) (hn:g ∉ l.map (·.1)):LZ I N Q l [] W':=
 ⟨h.rw_ _ _ _ h.iv hb hg,h.st,h.rw_,h.nq,eF h.nw hb.size,fun g' o hm=>eA hb (fun e=>hn (e ▸ List.mem_map.2 ⟨_,hm,rfl⟩)) (h.bk g' o hm),h.gt,h.nd,fun c hc=>(by cases hc)⟩
theorem LZ.add (h:LZ I N Q l cs W) {v:Cv} (hv:v.at_ W (LQ Q l)):LZ I N Q l (v :: cs) W:=
 ⟨h.iv,h.st,h.rw_,h.nq,h.nw,h.bk,h.gt,h.nd,fun c hc=>by
  rcases List.mem_cons.1 hc with rfl | hc
  ·exact hv
  ·exact h.ck c hc⟩
theorem LZ.sub (h:LZ I N Q l cs W) {cs':List Cv} (hc:∀c ∈ cs',c ∈ cs):LZ I N Q l cs' W:=⟨h.iv,h.st,h.rw_,h.nq,h.nw,h.bk,h.gt,h.nd,fun c hm=>h.ck c (hc c hm)⟩
theorem LZ.putL {n:Nat} {old r:Array Value} {fr:Nat × Nat} (h:LZ I N Q (l ++ [(n,.cells old ty fr)]) cs W):LZ I N Q (l ++ [(n,.cells r ty fr)]) cs (W.setRow n r):=by
 have:=h.put (cs':=r) l.length (g:=n) (old:=old) (ty:=ty) (fr:=fr) A_
 rwa [show (l ++ [(n,Obj.cells old ty fr)]).set l.length (n,.cells r ty fr)=l ++ [(n,.cells r ty fr)] by simp] at this
theorem LZ.last {n:Nat} {o:Obj} (h:LZ I N Q (l ++ [(n,o)]) cs W):W.heap[n]?=some o:=h.bk _ _ (List.mem_append_right _ dV)
theorem LZ.box1 (h:LZ I N Q l cs W) (z1 r1:Array Value) (t1:TypeId):(W.alloc (.cells z1 t1)).heap[W.heap.size]?=some (.cells z1 t1 (0,0))/\LZ I N Q (l ++ [(W.heap.size,.cells r1 t1 (0,0))]) cs ((W.alloc (.cells z1 t1)).setRow (W) r1):=
 ⟨(h.push (.cells z1 t1) _ rfl).last,(h.push (.cells z1 t1) _ rfl).putL⟩
theorem LZ.box2 (h:LZ I N Q l cs W) (z1 r1 z2 r2:Array Value) (t1 t2:TypeId) :
  ((W.alloc (.cells z1 t1)).alloc (.cells z2 t2)).heap[W.heap.size]?=some (.cells z1 t1 (0,0))/\(((W.alloc (.cells z1 t1)).alloc (.cells z2 t2)).setRow (W) r1).heap[W.heap.size+1]?=some (.cells z2 t2 (0,0))/\
  LZ I N Q (l ++ [(W.heap.size,.cells r1 t1 (0,0)),(W.heap.size+1,.cells r2 t2 (0,0))]) cs ((((W.alloc (.cells z1 t1)).alloc (.cells z2 t2)).setRow (W) r1).setRow (W+1) r2):=by
 have h2:=(h.push (.cells z1 t1) _ rfl).push (.cells z2 t2) (W+1) A_;have h3:=h2.put (cs':=r1) l.length (g:=W.heap.size) (old:=z1) (ty:=t1) (fr:=(0,0)) A_;rw [show ((l ++ [(W.heap.size,Obj.cells z1 t1)]) ++ [(W.heap.size+1,Obj.cells z2 t2)]).set l.length (W.heap.size,.cells r1 t1 (0,0))=(l ++ [(W.heap.size,Obj.cells r1 t1)]) ++ [(W.heap.size+1,Obj.cells z2 t2)] by simp] at h3;have a:=h3.putL (r:=r2);rw [List.append_assoc] at a;exact ⟨h2.bk _ _ A_,h3.last,a⟩
theorem LZ.box3 (h:LZ I N Q l cs W) (z1 r1 z2 r2 z3 r3:Array Value) (t1 t2 t3:TypeId) :
  (((W.alloc (.cells z1 t1)).alloc (.cells z2 t2)).alloc (.cells z3 t3)).heap[W.heap.size]?=some (.cells z1 t1 (0,0))/\((((W.alloc (.cells z1 t1)).alloc (.cells z2 t2)).alloc (.cells z3 t3)).setRow (W) r1).heap[W.heap.size+1]?=some (.cells z2 t2 (0,0))/\
  (((((W.alloc (.cells z1 t1)).alloc (.cells z2 t2)).alloc (.cells z3 t3)).setRow (W) r1).setRow (W+1) r2).heap[W.heap.size+1+1]?=some (.cells z3 t3 (0,0))/\
  LZ I N Q (l ++ [(W.heap.size,.cells r1 t1 (0,0)),(W.heap.size+1,.cells r2 t2 (0,0)),(W.heap.size+1+1,.cells r3 t3 (0,0))]) cs ((((((W.alloc (.cells z1 t1)).alloc (.cells z2 t2)).alloc (.cells z3 t3)).setRow (W) r1).setRow (W+1) r2).setRow (W+1+1) r3):=by
 have h2:=((h.push (.cells z1 t1) _ rfl).push (.cells z2 t2) (W+1) A_).push (.cells z3 t3) (W+1+1) A_;have h3:=h2.put (cs':=r1) l.length (g:=W.heap.size) (old:=z1) (ty:=t1) (fr:=(0,0)) A_;rw [show (((l ++ [(W.heap.size,Obj.cells z1 t1)]) ++ [(W.heap.size+1,Obj.cells z2 t2)]) ++ [(W.heap.size+1+1,Obj.cells z3 t3)]).set l.length (W.heap.size,.cells r1 t1 (0,0))=l ++ [(W.heap.size,Obj.cells r1 t1),(W.heap.size+1,Obj.cells z2 t2),(W.heap.size+1+1,Obj.cells z3 t3)] by simp] at h3;have a:=h3.put (cs':=r2) (l.length+1) (g:=W.heap.size+1) (old:=z2) (ty:=t2) (fr:=(0,0)) A_;rw [show (l ++ [(W.heap.size,Obj.cells r1 t1),(W.heap.size+1,Obj.cells z2 t2),(W.heap.size+1+1,Obj.cells z3 t3)]).set (l.length+1) (W.heap.size+1,.cells r2 t2 (0,0))=(l ++ [(W.heap.size,Obj.cells r1 t1),(W.heap.size+1,Obj.cells r2 t2)]) ++ [(W.heap.size+1+1,Obj.cells z3 t3)] by simp] at a;have b:=a.putL (r:=r3);rw [List.append_assoc] at b;exact ⟨h2.bk _ _ A_,h3.bk _ _ A_,a.last,b⟩
end
abbrev LN (w:World):=LZ (fun W=>s_ w W) (w) (fun _=>True)
theorem LN.start (w:World):LN w [] [] w:=
 ⟨aP _ _,fun W f h a=>e_ h a,fun W f g h a i=>h.grown a h.size (fun k d=>by injection d with d;omega),fun _ _=>trivial,bE _,fun g o b=>(by cases b),fun g o b=>(by cases b),List.nodup_nil,fun c hc=>(by cases hc)⟩
end
section
theorem Tp.old {a:Option Addr} {len cap:Nat} {zs:List Int} (h:dj_ .i64 W a len cap zs) (hB:s_ W w):Tp W (w) (w.alloc (.cells #[S_ a len cap,I_ 0] 76)):=by
 refine ⟨⟨a,len,cap,0,heap_alloc_new _ _,Nat.zero_le _,?_,?_⟩,a_ hB _,hB.size⟩
 ·rcases h with ⟨_,rfl,_⟩ | ⟨x,_,h1,h2,_⟩
  ·exact Nat.zero_le _
  ·exact eF h1 h2
 ·intro i j
  rcases h with ⟨_,rfl,_⟩ | ⟨x,rfl,h1,h2,h3,h4,h5⟩
  ·omega
  ·obtain ⟨c,o,g⟩:=x;have hc:=h4 i O_;have d:=h4 0 O_;have f:g=none:=by simpa [Addr.add] using World.cell?_spot d
   subst f;rw [Addr.add_mid] at hc;have b:=World.block_lt_of_cell? W ⟨c,o+i,none⟩ hc;exact ⟨c,o,zs.getD i 0,rfl,gX b hB.size,((a_ hB _).cell b).trans hc⟩
abbrev LT (w:World) (t:Nat):=LZ (Tp w t) (t+1) (fun z=>z≠t)
theorem LT.mk {cs:List Cv} (hT:Tp w t W) (hc:∀c ∈ cs,c.at_ W (LQ (fun z=>z≠t) [])):LT w t [] cs W:=
 ⟨hT,fun W W' h hb=>h.step hb,fun W W' g h hb hg=>h.gb hb hg,fun z hz=>by omega,hT.lt,fun g o hm=>(by cases hm),fun g o hm=>(by cases hm),List.nodup_nil,hc⟩
theorem LT.read {W':World} {l:List (Nat × Obj)} {cs:List Cv} (h:LT w t l cs W) (hT:Tp w t W') (hg:W.grownBy W' (some t)):LT w t l cs W':=
 ⟨hT,h.st,h.rw_,h.nq,hT.lt,fun g o hm=>eA hg (by have:=h.gt g o hm;omega) (h.bk g o hm),h.gt,h.nd,fun c hc=>x_.kept (h.ck c hc) (fJ hg (fun q=>q.1 rfl))⟩
theorem e5_ {b R:Nat} {old:Array Value} (h:Tp W b w) (hR:w.heap[R]?=some (.cells old ty (0,0))) (ho:∀(k:Nat) (x:Int),old[k]?≠some (I_ x)) (hb:R≠b) (hW:W.heap.size<=R) {cs:Array Value}:Tp W b (w.setRow R cs):=by
 obtain ⟨⟨a,len,cap,k,h1,h2,h3,m⟩,j,d⟩:=h;have f:=eU w R cs;refine ⟨⟨a,len,cap,k,(f.block b (n_ h1) fun e=>hb (bH e).symm).trans h1,h2,h3,fun i p=>?_⟩,j.grown f j.size (fun k l=>by injection l with l;omega),d⟩
 obtain ⟨c,o,x,n,hc,g⟩:=m i p;refine ⟨c,o,x,n,hc,f.cell g (fun e=>?_)⟩;have e:c=R:=bH e;subst e;rw [b_ hR] at g;exact ho _ _ g
def it_ (w:World) (e:Ending) (w':World):Prop:=∃(t:Nat) (v:Cv),e = .returned (.tuple #[bK v.a v.b v.c v.d v.e v.f v.g,P_ t])/\fN 3 2 2 v.C/\LT w t [] [v] w'
theorem cu_ {a0:Option Addr} {len0 cap0:Nat} {z0:List Int} (w0:dj_ .i64 w a0 len0 cap0 z0):C_ 7 #[S_ a0 len0 cap0] w (it_ w):=by
 have a:=H_ (m_ (i_ w (bM)) (.cells #[S_ a0 len0 cap0,I_ 0] 76));have i:=H_ (show Tp w (w+1) ((w.alloc (bM)).alloc (.cells #[S_ a0 len0 cap0,I_ 0] 76)) by
  have o:=Tp.old w0 (a_ B_ (bM));rw [show (w.alloc (bM)).heap.size=w.heap.size+1 by simp] at o;exact o)
 clear w0;go_enter func7,ntmps7
 go_upto_region 2 with fail
 generalize (w.alloc _).alloc _=V at a i
 go_wp2_with (first
  | (go_at_call 39;(refine CM (fL_ (fun z=>z≠w.heap.size+1/\z≠w.heap.size) i (fun h=>h.1 rfl) (fun z q=>⟨by have:=i.lt;omega,by have:=n_ a.out;omega⟩)) ?_);rintro e w3 ⟨C,a1,D,c1,E,F,G,H,n,rfl,b,d,f⟩;obtain ⟨s,M,n1,t,N,n2,u,O,n3,v,P,I,y,Q,J,A,R,K,B,S,L,rfl,rfl,rfl,rfl,rfl,rfl,rfl⟩:=x_.caps b;obtain ⟨g,j,r⟩:=eI b d n;have l:=H_ (eA f O_ a.out);clear b d n f)
  | (refine Q_ rfl (.tmp 2) (.tmp 9) rfl rfl rfl rfl l rfl ?_))
 show bodyPost prog f7 _ _ _ _
 refine bodyPost_ret (aG rfl rfl rfl (setRow_heap _ _ _ _ _ _ l)) rfl ?_;refine ⟨w+1,⟨_,_,_,_,_,_,_,C⟩,rfl,r.out,LT.mk (e5_ j.out l.out (fun k x p=>?_) O_ O_) (fun c hc=>?_)⟩
 ·have m:=(Array.getElem?_eq_some_iff.1 p).1;simp only[List.size_toArray,cL_,List.length_nil] at m;obtain rfl | rfl | rfl | rfl | rfl | rfl | rfl:k=0\/k=1\/k=2\/k=3\/k=4\/k=5\/k=6:=O_
  all_goals cases p
 ·obtain rfl:=List.mem_singleton.1 hc;exact (g.kept (r_.of_setRow _ _ _ (fun h=>h.2 rfl))).weak (fun z _ q=>⟨q.1,A_⟩)
end
section
abbrev rqR (a0 a1 a2 a3 a4 a5:Int) (d:ByteArray) (b c:Bool) (t:Int):Array Value:=aO a0 a1 a2 a3 a4 a5 d b c t
theorem qB:∃a0 a1 a2 a3 a4 a5 d b c t,yK = .agg (rqR a0 a1 a2 a3 a4 a5 d b c t):=⟨_,_,_,_,_,_,_,_,_,_,rfl⟩
theorem pA.row {C:Ck} {e:Int} (h:pA C n C' rq e):∃a0 a1 a2 a3 a4 a5 d b c t,rq = .agg (rqR a0 a1 a2 a3 a4 a5 d b c t):=by
 rcases h with ⟨i,j,x,y,_,_,hP⟩ | ⟨_,_,rfl,_⟩
 ·unfold fM at hP
  split at hP
  ·rw [hP.2.1];exact qB
  split at hP
  ·rw [hP.2.1];exact qB
  ·rw [hP.2.1];exact ⟨_,_,_,_,_,_,_,_,_,_,rfl⟩
 ·exact qB
theorem az_.row {C:Ck} {e:Int} (h:az_ C n rq e):∃a0 a1 a2 a3 a4 a5 d b c t,rq = .agg (rqR a0 a1 a2 a3 a4 a5 d b c t):=by
 rcases h with ⟨i,j,x,y,_,_,hP⟩ | ⟨_,rfl,_⟩
 ·unfold sC at hP
  split at hP
  ·rw [hP.1];exact qB
  ·rw [hP.1];exact ⟨_,_,_,_,_,_,_,_,_,_,rfl⟩
 ·exact qB
theorem pA.inv {C:Ck} {e:Int} (h:pA C n C' rq e) (hI:cF F G Z C):cF F G Z C':=by
 rcases h with ⟨i,j,x,y,_,hu,hP⟩ | ⟨_,rfl,_⟩
 ·exact hI.putB hu (hP.q hu)
 ·exact hI
theorem wQ.inv {C:Ck} {e:Int} (h:wQ C n k C' e) (hI:cF F G Z C):cF F G Z C':=by
 rcases h with ⟨i,j,x,y,_,hu,hP⟩ | ⟨_,rfl,_⟩
 ·exact hI.putQ hu (hP.q hu (hI.file j y hu.fl).err)
 ·exact hI
end
section
structure qK (C:Ck) (i j:Nat) (x:Fr) (y:Fl):Prop where
 u:fG C i x j y
 g:J_ y.c x.page=(i:Int)+1
section
variable {F G Z:Nat} {C C':Ck} {i j:Nat} {x x':Fr} {y y':Fl}
theorem qK.beg1 (h:qK C i j x y) {e:Int} (hb:pA C ((i:Int)+1) C' rq e):fM C i j x y C' rq e:=by
 rcases hb with ⟨i',j',x',y',e',hu,hP⟩ | ⟨hn,_⟩
 ·obtain ⟨rfl,rfl,rfl,rfl⟩:=h.u.one hu e';exact hP
 ·exact absurd h.u (hn i j x y rfl)
theorem qK.put (h:qK C i j x y) (hk:jE x') (h1:x'.file=x.file) (h2:x'.page=x.page) (hc:y'.c=y.c) (hf:C'.frames=C.frames.set i x') (hg:C'.files=bP C.files j y' x'):∃y2,qK C' i j x' y2/\y2.size=y'.size:=by
 obtain ⟨a,hv⟩:=fW (c:=y.c) (p:=x.page) (by rw [h.g];omega);refine ⟨{y' with c:=jO y'.c x'.page (x'.pg.dirty != 0) (x'.writing != 0)},⟨⟨by rw [hf];exact V_ h.u.fr,by rw [hg];exact V_ h.u.fl,by rw [h1];exact h.u.ix,hk⟩,?_⟩,rfl⟩
 show J_ (jO y'.c x'.page _ _) x'.page=_
 rw [h2,hc,dK a hv];exact h.g
theorem eX_ (h:jE x):0<=eQ x y/\eQ x y<=3:=by
 unfold eQ
 split
 ·omega
 ·exact h.pg.d
theorem gw_ (h:x.pg.dirty≠0):eQ x y≠0:=by
 unfold eQ
 split
 ·omega
 ·exact h
theorem qK.beg (h:qK C i j x y) (hb:pA C ((i:Int)+1) C' rq 0):x.pg.dirty≠0/\∃x1 y1,qK C' i j x1 y1/\x1.writing≠0/\x1.page=x.page/\x1.file=x.file/\y1.size=y.size:=by
 have a:=h.beg1 hb;unfold fM at a
 split at a
 ·exact absurd a.2.2 cE
 split at a
 ·exact absurd a.2.2 cE
 rename_i hw hd
 obtain ⟨rfl,_,_⟩:=a;have b:=eX_ (y:=y) h.u.ok;obtain ⟨y1,c,d⟩:=h.put (x':=⟨x.file,x.page,cA x.pg (eQ x y),x.tenant,x.holds,x.reading,eQ x y⟩) (C':=pG C i j x y (eQ x y)) ⟨h.u.ok.page,h.u.ok.tenant,qS h.u.ok.pg b,h.u.ok.holds,h.u.ok.reading,b⟩ rfl rfl rfl rfl rfl;exact ⟨hd,_,y1,c,gw_ hd,rfl,rfl,d⟩
theorem qK.busy (h:qK C i j x y) (hw:x.writing≠0) {e:Int} (hb:pA C ((i:Int)+1) C' rq e):C'=C/\e=7:=by
 have hP:=h.beg1 hb;unfold fM at hP;rw [if_pos hw] at hP;exact ⟨hP.1,hP.2.2⟩
theorem qK.punch (h:qK C i j x y) (hw:x.writing≠0) {sz k:Nat} (hp:x.page=(p:Int)) (hz:p*16<sz) (hk:0<k) {cu:Int} (hc:ClS C j y (p*16) (bG (p*16) 16 sz) sz k wh cu true):False:=by
 have h0:p*16 / 16+0=p:=O_
 have a:qJ (p*16) (bG (p*16) 16 sz) sz p=true:=by
  unfold qJ bO bG;refine decide_eq_true ⟨?_,?_⟩ <;> dsimp only <;> omega
 have:=hc.idl rfl 0 hk (by rw [h0];exact a);rw [h0,<-hp,h.g] at this
 rcases this with h1 | ⟨i',x',h1,h2,h3⟩
 ·omega
 ·obtain rfl:i'=i:=O_
  obtain rfl:x'=x:=bH (h2.symm.trans h.u.fr);simp [tX,hw] at h3
theorem qK.punched (h:qK C i j x y) (hw:x.writing≠0) {sz:Nat} (hp:x.page=(p:Int)) (hz:p*16<sz) {e:Int} (hq:il_ C j (p*16) 16 sz y C' e):e=7/\C'=C:=by
 rcases hq with hq | ⟨_,⟨wh,cu,hc⟩,_⟩
 ·exact hq
 ·have hcl:bG (p*16) 16 sz≠0:=by unfold bG;omega
  exact (h.punch hw hp hz (by rw [if_neg hcl];omega) hc).elim
theorem qK.so (hI:cF F G Z C) (h:qK C i j x y) (hs:SoP C j y C'):∃x0 y0,qK C' i j x0 y0/\x0.writing=x.writing/\x0.page=x.page/\x0.file=x.file:=by
 rcases hs with rfl | ⟨i',x',s,hU,_,hs0,hs3,rfl⟩
 ·exact ⟨x,y,h,rfl,rfl,rfl⟩
 ·have d:jE ⟨x'.file,x'.page,aA x'.pg s,x'.tenant,x'.holds,x'.reading,x'.writing⟩:=⟨hU.ok.page,hU.ok.tenant,mN hU.ok.pg ⟨hs0,hs3⟩,hU.ok.holds,hU.ok.reading,hU.ok.writing⟩
  by_cases e:i'=i
  ·subst e;obtain rfl:x'=x:=bH (hU.fr.symm.trans h.u.fr);obtain ⟨y0,f,_⟩:=h.put (y':=y) (C':=cP C i' j y ⟨x'.file,x'.page,aA x'.pg s,x'.tenant,x'.holds,x'.reading,x'.writing⟩) d rfl rfl rfl rfl rfl;exact ⟨_,y0,f,rfl,rfl,rfl⟩
  ·obtain ⟨k,y0,a,hv⟩:=hI.used hU.fr (by rw [hU.ix];omega);obtain ⟨_,rfl,rfl⟩:=hU.eq a;obtain ⟨b,hc⟩:=fW (c:=y0.c) (p:=x'.page) (by rw [hv];omega);exact ⟨x,_,⟨⟨dO (fun q=>e q.symm) h.u.fr,V_ h.u.fl,h.u.ix,h.u.ok⟩,(dK b hc _ _ _).trans h.g⟩,rfl,rfl,rfl⟩
theorem hL_ {a:Int} (h:0<=a/\a<=3):bits .or .i64 a (iZ ((0:Nat):Int) ((1:Nat):Int))=1\/bits .or .i64 a (iZ ((0:Nat):Int) ((1:Nat):Int))=3:=by
 rw [show iZ ((0:Nat):Int) ((1:Nat):Int)=1 by decide +kernel];obtain rfl | rfl | rfl | rfl:a=0\/a=1\/a=2\/a=3:=O_
 all_goals decide +kernel
theorem qK.write (hI:cF F G Z C) (h:qK C i j x y) {sz:Nat} (hp:x.page=(p:Int)) {s:ByteArray} (hs1:s.size=1) (hw:WrP F G Z C j (p*16) 1 s sz y C' 0) :
  ∃x2 y2,qK C' i j x2 y2/\x2.writing=x.writing/\x2.page=x.page/\x2.file=x.file/\(x2.pg.dirty=1\/x2.pg.dirty=3)/\x2.pg.data.data[0]?=s.data[0]?:=by
 obtain ⟨D,Cn,B,w,a,hf,rfl⟩:=hw.2.2.1 rfl;obtain ⟨x0,N,h0,z,k,m⟩:=h.so hI w;have J:(p*16+1+15) / 16 - p*16 / 16=1:=O_
 have o:aJ (p*16) 1=[(p:Int)]:=by
  unfold aJ;rw [J];simp [yJ]
 rw [J] at a
 cases a with
 | @step _ i' t at' fr ct C1 x1 x' y3 l p' hz hpp hfr hpg hget e4 hl hpt hx=>
  cases hz
  rw [o] at hpp;obtain rfl:(p:Int)=p':=bH hpp;obtain rfl:y3=N:=bH (hfr.fl.symm.trans h0.u.fl);rw [<-hp,<-k,h0.g] at hget;obtain rfl:i'=i:=O_
  obtain rfl:x1=x0:=bH (hfr.fr.symm.trans h0.u.fr);have q:bO (p:Int) ((p*16:Nat):Int) ((1:Nat):Int)=(0,1):=by
   unfold bO;refine Prod.ext ?_ ?_ <;> dsimp only <;> omega
  rw [q] at hpt;obtain ⟨E,H,K,L,I⟩:=hpt;obtain rfl:at'=0:=by have:=congrArg Prod.fst E;dsimp only at this;omega
  obtain rfl:ct=1:=by have:=congrArg Prod.snd E;dsimp only at this;omega
  obtain rfl:fr=0:=O_
  have v:s.extract 0 (0+1)=s:=by
   rw [show 0+1=s.size by omega];exact ByteArray.extract_zero_size
  rw [v] at hx;have n:jE x':=by
   rw [hx];exact ⟨h0.u.ok.page,h0.u.ok.tenant,nL h0.u.ok.pg O_,h0.u.ok.holds,h0.u.ok.reading,h0.u.ok.writing⟩
  have f:=bI h0.u.fl;have b:(bP D.files j y3 x')[j]?=some B:=hf;unfold bP at b;rw [lM f] at b;have A:=bH b;obtain ⟨M,hv⟩:=fW (c:=y3.c) (p:=x1.page) (by rw [h0.g];omega);refine ⟨x',{B with size:=max B.size (((p*16:Nat):Int)+((1:Nat):Int))},⟨⟨V_ h0.u.fr,?_,?_,n⟩,?_⟩,?_,?_,?_,?_,?_⟩
  ·show ((bP D.files j y3 x').set j _)[j]?=_
   exact lM (by rw [lD];exact f)
  ·rw [hx];exact h0.u.ix
  ·rw [<-A,hx];exact (dK M hv _ _ _).trans h0.g
  ·rw [hx];exact z
  ·rw [hx];exact k
  ·rw [hx];exact m
  ·rw [hx]
   show bits .or .i64 x1.pg.dirty (iZ ((0:Nat):Int) (s.size:Int))=1\/bits .or .i64 x1.pg.dirty (iZ ((0:Nat):Int) (s.size:Int))=3
   rw [hs1];exact hL_ h0.u.ok.pg.d
  ·rw [hx]
   show (ck_ x1.pg.data s 0).data[0]?=_
   unfold ck_;have r:s.data.size=1:=hs1;rw [ByteArray.data_append,Array.getElem?_append_left (by simp [ByteArray.data_append,ByteArray.data_extract,r]),ByteArray.data_append,show (x1.pg.data.extract 0 0).data=#[] by simp [ByteArray.data_extract],Array.empty_append]
theorem qK.fin (h:qK C i j x y) (hw:x.writing≠0) {e:Int} (he:wQ C ((i:Int)+1) 0 C' e):e=0/\∃x3 y3,qK C' i j x3 y3/\x3.writing=0/\x3.page=x.page/\x3.file=x.file/\x3.pg=x.pg:=by
 rcases he with ⟨i',j',x',y',e',hu,hP⟩ | ⟨hn,_⟩
 ·obtain ⟨rfl,rfl,rfl,rfl⟩:=h.u.one hu e';unfold jW at hP;rw [if_neg hw,if_pos rfl] at hP;obtain ⟨rfl,rfl⟩:=hP;obtain ⟨y3,a,_⟩:=h.put (y':=cj_ x' y') (x':=⟨x'.file,x'.page,x'.pg,x'.tenant,x'.holds,x'.reading,0⟩) (C':=cP C i' j' (cj_ x' y') ⟨x'.file,x'.page,x'.pg,x'.tenant,x'.holds,x'.reading,0⟩) ⟨h.u.ok.page,h.u.ok.tenant,h.u.ok.pg,h.u.ok.holds,h.u.ok.reading,⟨by show (0:Int)<=0;omega,by show (0:Int)<=3;omega⟩⟩ rfl rfl rfl rfl rfl;exact ⟨rfl,_,y3,a,rfl,rfl,rfl,rfl⟩
 ·exact absurd h.u (hn i j x y rfl)
theorem qK.wan (h:qK C i j x y) (hp:x.page=(p:Int)):(p:Int) ∈ yB C (j:Int)↔x.pg.dirty≠0/\x.writing=0:=by
 rw [yC h.u.fl];have a:p<8:=by have:=h.u.ok.page;omega
 have b:0<=x.file:=by have:=h.u.ix;omega
 have hv:jH C (J_ y.c (p:Int))=true↔x.pg.dirty≠0/\x.writing=0:=by
  unfold jH;rw [<-hp,h.g,show ((i:Int)+1 - 1).toNat=i by omega,h.u.fr];simp [b]
 unfold mO;rw [List.mem_map]
 constructor
 ·rintro ⟨q,f,e⟩;obtain rfl:q=p:=O_
  exact hv.1 (List.mem_filter.1 f).2
 ·exact fun d=>⟨p,List.mem_filter.2 ⟨List.mem_range.2 a,hv.2 d⟩,rfl⟩
theorem qK.data (h:qK C i j x y) (hw:x.writing=0) (hd:x.pg.dirty=1\/x.pg.dirty=3) {e:Int} (hb:pA C ((i:Int)+1) C' rq e):e=0/\∃a0 a1 a2 a3 a4 a5 d b c t,rq = .agg (rqR a0 a1 a2 a3 a4 a5 d b c t)/\0<d.size/\d.size<=16/\d.data[0]?=x.pg.data.data[0]?:=by
 have g:=h.beg1 hb;unfold fM at g;rw [if_neg (by simp [hw]),if_neg O_] at g;obtain ⟨_,rfl,rfl⟩:=g;have f:eQ x y=1\/eQ x y=3:=by
  unfold eQ
  split
  ·exact .inr rfl
  ·exact hd
 have hl:=h.u.ok.pg.len;have a:x.pg.data.data.size=16:=hl;refine ⟨rfl,_,_,_,_,_,_,_,_,_,_,rfl,?_⟩;unfold jF
 rcases f with f | f
 all_goals
  rw [f];refine ⟨?_,?_,?_⟩
  ·rw [bE_];first | (show 0<min 8 _ - 0;omega) | (show 0<min 16 _ - 0;omega)
  ·rw [bE_];first | (show min 8 _ - 0<=16;omega) | (show min 16 _ - 0<=16;omega)
  ·first | (show (x.pg.data.extract 0 8).data[0]?=_;simp [ByteArray.data_extract,a];done) | (show (x.pg.data.extract 0 16).data[0]?=_;simp [ByteArray.data_extract,a];done)
end
end
section
def fc_ (C:Ck) (j:Nat) (y:Fl) (k:Nat):Bool:=(y.size != 0||y.blocks != 0)||(C.frames.take k).any (fun x=>x.file == (j:Int))
end
section
structure Io (C:Ck):Prop where
 of:lT C
 few:C.files.length<=8
 file:∀(j:Nat) (y:Fl),C.files[j]?=some y->(0<=y.slot/\y.slot<7)/\(0<=y.which/\y.which<2)/\kW y.blocks/\0<=y.seq/\y.seq<=65535
theorem cF.io {C:Ck} (h:cF F G Z C):Io C where
 of:=h.ofOk
 few:=by have:=h.nf;have:=h.few;omega
 file:=fun j y hy=>by
  obtain ⟨s,hs,hs7⟩:=(h.file j y hy).slot;obtain ⟨h1,h2,h3,_⟩:=(h.file j y hy).st;exact ⟨O_,O_,h1,O_,O_⟩
theorem lT.files {C:Ck} (h:lT C) {fs:List Fl} (hn:fs.length=C.files.length):lT {C with files:=fs}:=
 ⟨⟨by show 0<fs.length/\fs.length<=100;rw [hn];exact h.ok.files,h.ok.frames,h.ok.groups,h.ok.lists,h.ok.clocks⟩,h.zn,h.pt,h.free,h.lru⟩
theorem Io.set {C:Ck} (h:Io C) {y':Fl} (hy:(0<=y'.slot/\y'.slot<7)/\(0<=y'.which/\y'.which<2)/\kW y'.blocks/\0<=y'.seq/\y'.seq<=65535):Io {C with files:=C.files.set j y'} where
 of:=h.of.files (kL ..)
 few:=by show (C.files.set j y').length<=8;rw [kL];exact h.few
 file:=fun k u hu=>by
  rcases eX hu with ⟨rfl,rfl⟩ | ⟨_,hu⟩
  ·exact hy
  ·exact h.file k u hu
def di_ (C:Ck) (n sz:Int) (C':Ck) (rq ino:Value) (err:Int):Prop:=
 (∃(j:Nat) (y:Fl),n=(j:Int)/\C.files[j]?=some y/\0<=sz/\sz<=128/\sZ C j y sz C' rq ino err)\/((¬(0<=n/\n<(C.files.length:Int))\/sz<0\/128<sz)/\C'=C/\rq=yK/\ino=qZ 0 0 0/\err=2)
def dh_ (C:Ck) (n q s b k:Int) (C':Ck) (err:Int):Prop:=
 (∃(j:Nat) (y:Fl),n=(j:Int)/\C.files[j]?=some y/\qM C j y q s b k C' err)\/(¬(0<=n/\n<(C.files.length:Int))/\C'=C/\err=2)
def cl_ (C:Ck) (n sz:Int):Bool:=if 0<=n then (match C.files[n.toNat]? with | some y=>dJ_ y sz | none=>false) else false
def chQ (a b:ByteArray) (f:Int):Int:=if pk (gF a f) (gF b f) (mA a f) (mA b f)=true then mA b f else mA a f
def chS (a b:ByteArray) (f:Int):Int:=if pk (gF a f) (gF b f) (mA a f) (mA b f)=true then sG b f else sG a f
def chB (a b:ByteArray) (f:Int):Int:=if pk (gF a f) (gF b f) (mA a f) (mA b f)=true then xD b f else xD a f
def chW (a b:ByteArray) (f:Int):Int:=if pk (gF a f) (gF b f) (mA a f) (mA b f)=true then 1 else 0
def dg_ (C:Ck) (n:Int) (a b:ByteArray) (C':Ck) (err:Int):Prop:=
 (∃(j:Nat) (y:Fl),n=(j:Int)/\C.files[j]?=some y/\sW C j y (fc_ C j y C.frames.length) (chQ a b n) (chS a b n) (chB a b n) (chW a b n) C' err)\/(¬(0<=n/\n<(C.files.length:Int))/\C'=C/\err=2)
theorem sZ.one {C:Ck} (h1:sZ C j y sz C1 r1 i1 e1) (h2:sZ C j y sz C2 r2 i2 e2):C2=C1/\r2=r1/\i2=i1/\e2=e1:=by
 unfold sZ at h1 h2
 split at h1
 ·rename_i h;rw [if_pos h] at h2;obtain ⟨rfl,rfl,rfl,rfl⟩:=h1;exact h2
 ·rename_i h;rw [if_neg h] at h2;obtain ⟨rfl,rfl,rfl,rfl⟩:=h1;exact h2
theorem qM.one {C:Ck} {b:Int} (h1:qM C j y q s b k C1 e1) (h2:qM C j y q s b k C2 e2):C2=C1/\e2=e1:=by
 unfold qM at h1 h2
 split at h1
 ·rename_i h;rw [if_pos h] at h2;obtain ⟨rfl,rfl⟩:=h1;exact h2
 rename_i h;rw [if_neg h] at h2
 split at h1
 ·rename_i h;rw [if_pos h] at h2;obtain ⟨rfl,rfl⟩:=h1;exact h2
 ·rename_i h;rw [if_neg h] at h2;obtain ⟨rfl,rfl⟩:=h1;exact h2
theorem sW.one {C:Ck} {u:Bool} {b:Int} (h1:sW C j y u q s b wh C1 e1) (h2:sW C j y u q s b wh C2 e2):C2=C1/\e2=e1:=by
 unfold sW at h1 h2
 split at h1
 ·rename_i h;rw [if_pos h] at h2;obtain ⟨rfl,rfl⟩:=h1;exact h2
 ·rename_i h;rw [if_neg h] at h2;obtain ⟨rfl,rfl⟩:=h1;exact h2
theorem mV {C:Ck} (e:n=(j:Int)) (h:C.files[j]?=some y):0<=n/\n<(C.files.length:Int):=by
 have:=bI h;omega
theorem kC {C:Ck} (e:n=(j:Int)) (e':n=(j':Int)) (h:C.files[j]?=some y) (h':C.files[j']?=some y'):j'=j/\y'=y:=by
 obtain rfl:j'=j:=O_
 exact ⟨rfl,bH (h'.symm.trans h)⟩
theorem di_.one {C:Ck} (h1:di_ C n sz C1 r1 i1 e1) (h2:di_ C n sz C2 r2 i2 e2):C2=C1/\r2=r1/\i2=i1/\e2=e1:=by
 rcases h1 with ⟨j,y,e,hy,h3,h4,hP⟩ | ⟨hn,rfl,rfl,rfl,rfl⟩
 ·rcases h2 with ⟨j',y',e',hy',_,_,hP'⟩ | ⟨hn,_⟩
  ·obtain ⟨rfl,rfl⟩:=kC e e' hy hy';exact hP.one hP'
  ·have:=mV e hy;omega
 ·rcases h2 with ⟨j',y',e',hy',_,_,hP'⟩ | ⟨_,rfl,rfl,rfl,rfl⟩
  ·have:=mV e' hy';omega
  ·exact ⟨rfl,rfl,rfl,rfl⟩
theorem dh_.one {C:Ck} {b:Int} (h1:dh_ C n q s b k C1 e1) (h2:dh_ C n q s b k C2 e2):C2=C1/\e2=e1:=by
 rcases h1 with ⟨j,y,e,hy,hP⟩ | ⟨hn,rfl,rfl⟩
 ·rcases h2 with ⟨j',y',e',hy',hP'⟩ | ⟨hn,_⟩
  ·obtain ⟨rfl,rfl⟩:=kC e e' hy hy';exact hP.one hP'
  ·exact absurd (mV e hy) hn
 ·rcases h2 with ⟨j',y',e',hy',hP'⟩ | ⟨_,rfl,rfl⟩
  ·exact absurd (mV e' hy') hn
  ·exact ⟨rfl,rfl⟩
theorem dg_.one {C:Ck} {a b:ByteArray} (h1:dg_ C n a b C1 e1) (h2:dg_ C n a b C2 e2):C2=C1/\e2=e1:=by
 rcases h1 with ⟨j,y,e,hy,hP⟩ | ⟨hn,rfl,rfl⟩
 ·rcases h2 with ⟨j',y',e',hy',hP'⟩ | ⟨hn,_⟩
  ·obtain ⟨rfl,rfl⟩:=kC e e' hy hy';exact hP.one hP'
  ·exact absurd (mV e hy) hn
 ·rcases h2 with ⟨j',y',e',hy',hP'⟩ | ⟨_,rfl,rfl⟩
  ·exact absurd (mV e' hy') hn
  ·exact ⟨rfl,rfl⟩
theorem vJ.imp {P Q:Ck->Value->Value->Int->Prop} (h:vJ P S w en w') (hq:∀C rq i e,P C rq i e->Q C rq i e):vJ Q S w en w':=by
 obtain ⟨C',rq,ino,err,a,b,c,d,e,f,g,h1,h2⟩:=h;exact ⟨C',rq,ino,err,a,b,c,d,e,f,g,hq _ _ _ _ h1,h2⟩
section
variable (C:Ck) (n:Int) (a b c d e f g:Value) (S:Nat->Prop) (w:World) (h:x_ w S a b c d e f g C) (hI:Io C) (hS:∀z,w.heap.size<=z->S z)
include h hI hS
theorem cS_ (sz:Int):C_ 22 #[bK a b c d e f g,I_ n,I_ sz] w (vJ (di_ C n sz) S w):=by
 by_cases p:¬(0<=n/\n<(C.files.length:Int))\/sz<0\/128<sz
 ·exact (cT_ n sz h hI.of p hS).mono fun _ _ k=>k.imp fun _ _ _ _ i=> .inr ⟨p,i⟩
 ·obtain ⟨j,rfl⟩:=mZ (show 0<=n by omega);obtain ⟨y,m⟩:∃y,C.files[j]?=some y:=⟨_,cY O_⟩;obtain ⟨h1,h2,h3,o⟩:=hI.file j y m;have l:vaB y.seq sz y.blocks=true:=by unfold vaB;exact decide_eq_true ⟨o.1,o.2,O_,O_,h3.1,h3.2⟩
  exact (cU_ j y sz h hI.of m l h1 h2 hS).mono fun _ _ k=>k.imp fun _ _ _ _ i=> .inl ⟨j,y,rfl,m,O_,O_,i⟩
theorem xS (q s t k:Int):C_ 26 #[bK a b c d e f g,I_ n,qZ q s t,I_ k] w (fP (dh_ C n q s t k) S w):=by
 by_cases l:0<=n/\n<(C.files.length:Int)
 ·obtain ⟨j,rfl⟩:=mZ l.1;obtain ⟨y,o⟩:∃y,C.files[j]?=some y:=⟨_,cY O_⟩;obtain ⟨h1,h2,h3,r⟩:=hI.file j y o;have p:j<8:=by have:=hI.few;omega
  exact (xU j y q s t k h hI.of o h2 hS).mono fun _ _ m=>m.imp fun _ _ i=> .inl ⟨j,y,rfl,o,i⟩
 ·exact (xT n q s t k h hI.of l hS).mono fun _ _ m=>m.imp fun _ _ i=> .inr ⟨l,i⟩
end
theorem dI_ {C:Ck} (h:¬(0<=n/\n<(C.files.length:Int))):cl_ C n sz=false:=by
 unfold cl_
 split
 ·rw [eN_ O_]
 ·rfl
theorem bw_ {C:Ck} (h:C.files[j]?=some y):cl_ C (j:Int) sz=dJ_ y sz:=by
 unfold cl_;rw [if_pos O_,show ((j:Int)).toNat=j by simp,h]
section
variable (C:Ck) (n:Int) (a b c d e f g:Value) (S:Nat->Prop) (w:World) (h:x_ w S a b c d e f g C)
include h
theorem a1_ (sz:Int):C_ 24 #[bK a b c d e f g,I_ n,I_ sz] w (cG (cl_ C n sz) w):=by
 by_cases i:0<=n/\n<(C.files.length:Int)
 ·obtain ⟨j,rfl⟩:=mZ i.1;obtain ⟨y,k⟩:∃y,C.files[j]?=some y:=⟨_,cY O_⟩;rw [bw_ k];exact a3_ j y sz h k
 ·rw [dI_ i];exact a2_ n sz h i
end
theorem dP_ (s:ByteArray) (f:Int):0<=sG s f/\sG s f<=255:=by
 unfold sG
 split
 ·unfold tJ;have:=(s.data.getD 2 0).toNat_lt;omega
 ·omega
theorem hn_ (a b:ByteArray) (f:Int):0<=chS a b f/\chS a b f<=255:=by
 unfold chS
 split
 ·exact dP_ b f
 ·exact dP_ a f
def gW_ (C:Ck):Prop:=∀(j t:Nat) (y:Fl),C.files[j]?=some y->aM t y.c->vN t y=fc_ C j y C.frames.length
section
variable (C:Ck) (n:Int) (a b c d e f g:Value) (S:Nat->Prop) (w:World) (h:x_ w S a b c d e f g C) (hI:Io C) (hU:gW_ C) (hS:∀z,w.heap.size<=z->S z)
include h hI hU hS
theorem gh_ (s t:ByteArray) (hs:s.size<=maxLen) (ht:t.size<=maxLen):C_ 30 #[bK a b c d e f g,I_ n,.string s,.string t] w (fP (dg_ C n s t) S w):=by
 by_cases m:0<=n/\n<(C.files.length:Int)
 ·obtain ⟨j,rfl⟩:=mZ m.1;obtain ⟨y,k⟩:∃y,C.files[j]?=some y:=⟨_,cY O_⟩;obtain ⟨A,cap,o,_⟩:=h.files.form;rw [o] at h;obtain ⟨v,o1,q,u,x,_,_,_,p,_⟩:=FlA.cells h.files k;rw [<-o] at h;have:=gj_ j y s t (chQ s t j) (chS s t j) (chB s t j) (chW s t j) h hI.of k p (fun w'=>(dK_ s t j w' hs ht).mono fun z r i=>⟨_,i.1,i.2⟩) (hn_ s t j) hS;rw [hU j q y k p] at this;exact this.mono fun _ _ i=>i.imp fun _ _ l=> .inl ⟨j,y,rfl,k,l⟩
 ·exact (gi_ n s t h hI.of m hS).mono fun _ _ i=>i.imp fun _ _ l=> .inr ⟨m,l⟩
end
end
end Go.Proofs.YtehfhnbpnaiogaaGreatDoor
