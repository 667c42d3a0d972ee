/-
  Lemmas and contracts for the laws of this seat, part 8; several texts joined by a program.
-/
import Derived.Test.YtehfhnbpnaiogaaGreatDoorD07
import Derived.Test.YtehfhnbpnaiogaaGreatDoorD00
namespace Go.Proofs.YtehfhnbpnaiogaaGreatDoor
set_option linter.unusedVariables false
set_option linter.unusedSimpArgs false
set_option maxRecDepth 100000
set_option maxHeartbeats 16000000
open Go.RowKit Go.Proofs.Tryz IntKind
variable {A:Option Addr} {B cap h i j n:Nat} {C C':Ck} {L:List UInt8} {S:Nat->Prop} {W w:World} {a d g:Value} {c:Cn} {e:Nat->Int} {k m:Int}
section
theorem eV (i:Nat) {b c e f:Value} (h:x_ w S a b c d e f g C) (hi:i<C.files.length):C_ 92 #[bK a b c d e f g,I_ i] w (cG true w):=by
 obtain ⟨A,cap,rfl,_,_⟩:=h.files.form;have i0:(0:Int)<=(i:Int):=O_
 have i1:(i:Int)<(C.files.length:Int):=O_
 clear h;go_enter func92,ntmps92;go_wp2;go_ret;exact ⟨rfl,a_ B_ _⟩
theorem kA (off n:Int) (w:World) (h1:0<=off) (h2:0<=n) (h3:off<=128) (h4:n<=128 - off):C_ 93 #[I_ off,I_ n] w (kV (.bool true) w):=by
 have d1:decide (n<=128 - off)=true:=dT h4;go_enter func93,ntmps93;go_wp2;go_ret;exact ⟨rfl,rfl⟩
theorem FrA.cells {L:List Fr} (h:LA rO w S (S_ A n cap) L) {x:Fr} (hi:L[i]?=some x):∃b o,A=some ⟨b,o,none⟩/\b<w.heap.size/\
  w.cell? ⟨b,o+i*9,none⟩=some (I_ x.file)/\w.cell? ⟨b,o+i*9+1,none⟩=some (I_ x.page)/\w.cell? ⟨b,o+i*9+2,none⟩=some (.string x.pg.data)/\w.cell? ⟨b,o+i*9+3,none⟩=some (I_ x.pg.valid)/\w.cell? ⟨b,o+i*9+4,none⟩=some (I_ x.pg.dirty)/\
  w.cell? ⟨b,o+i*9+5,none⟩=some (I_ x.tenant)/\w.cell? ⟨b,o+i*9+6,none⟩=some (I_ x.holds)/\w.cell? ⟨b,o+i*9+7,none⟩=some (I_ x.reading)/\w.cell? ⟨b,o+i*9+8,none⟩=some (I_ x.writing):=by
 obtain ⟨b,o,cap',r,hv,c1,c2,c,d,a,hc⟩:=h.at_ hi;injection hv with e1 _ _
 have a:r=x.row:=a;subst a;exact ⟨b,o,e1,c,hc 0 _ rfl,hc 1 _ rfl,hc 2 _ rfl,hc 3 _ rfl,hc 4 _ rfl,hc 5 _ rfl,hc 6 _ rfl,hc 7 _ rfl,hc 8 _ rfl⟩
theorem FlA.cells {L:List Fl} (h:LA jI w S (S_ A n cap) L) {x:Fl} (hi:L[i]?=some x):∃b o t B ct,A=some ⟨b,o,none⟩/\b<w.heap.size/\bF x.c/\aM t x.c/\(j_ t x.c).kids.length<=ct/\NK w S B (j_ t x.c).kids/\
  ∀(j:Nat) (u:Value),(x.rowT t B ct)[j]?=some u->w.cell? ⟨b,o+i*15+j,none⟩=some u:=by
 obtain ⟨b,o,cap',r,hv,c1,c2,hb,hS,hp,hc⟩:=h.at_ hi;injection hv with e1 _ _
 obtain ⟨t,B,ct,h1,h2,h3,h4,rfl⟩:=hp;exact ⟨b,o,t,B,ct,e1,hb,h1,h2,h3,h4,hc⟩
def uR (x:Fr):Bool:=x.file != -1
theorem jV (i:Nat) (x:Fr) {b c e f:Value} (h:x_ w S a b c d e f g C) (hi:C.frames[i]?=some x) (hl:C.frames.length<=100):C_ 37 #[bK a b c d e f g,I_ ((i:Int)+1)] w (cG (uR x) w):=by
 obtain ⟨A,cap,rfl,t,u⟩:=h.frames.form;obtain ⟨bb,o,rfl,l,c0,_⟩:=FrA.cells h.frames hi;have j:=bI hi;have k:=H_ (show uR x=(x.file != -1) from rfl);have n:(1:Int)<=(i:Int)+1:=O_
 have p:(i:Int)+1<=(C.frames.length:Int):=O_
 have q:i<C.frames.length:=j;have r:(i:Int)<(C.frames.length:Int):=O_
 have s:(i:Int)+1<=100:=O_
 obtain ⟨m,rest⟩:=bL x.file;rw [<-rest] at c0 k;clear h hi rest;go_enter func37,ntmps37;go_wp2;go_ret;exact ⟨by rw [k.out];rfl,a_ B_ _⟩
theorem f0_ (ht:aM h c) (i:Int):J_ c i=(kQ (aX 0 (4 ^ h) c) i).1:=by
 have a:4 ^ h<=256:=show 4 ^ h<=4 ^ 4 from Nat.pow_le_pow_right O_ ht.1;rw [zW ht.2.1];unfold J_ kF
 by_cases h0:0<=i
 ·by_cases h1:i<=255
  ·simp [h0,h1]
  ·have:c i.toNat=(0,0):=ht.2.1 _ O_;simp [h0,h1,this]
 ·simp [h0]
theorem b1_ (cap:Nat) (i:Int) (hl:bF c) (ht:aM h c) (hcap:(j_ h c).kids.length<=cap) (hk:NK w S A (j_ h c).kids) :
  C_ 127 #[nY h A (j_ h c).kids.length cap (j_ h c).val (j_ h c).marks,I_ i] w (sD (J_ c i) w):=by
 have hE:hc_ (nY h A (j_ h c).kids.length cap (j_ h c).val (j_ h c).marks) (aX 0 (4 ^ h) c) w:=fun w' hb=>oQ cap hl ht hcap (hk.step hb);rw [f0_ ht];exact hR_ _ _ _ _ _ _ _ w hE i
def uT (v:Int):Value:=if v<=0 then .tuple #[I_ 0,.bool false] else .tuple #[I_ v,.bool true]
def eL (v:Int) (w:World) (e:Ending) (w':World):Prop:=e = .returned (uT v)/\s_ w w'
theorem fV (i:Nat) (x:Fl) (p:Int) {b c e f:Value} (h:x_ w S a b c d e f g C) (hi:C.files[i]?=some x):C_ 59 #[bK a b c d e f g,I_ i,I_ p] w (eL (J_ x.c p) w):=by
 have z:=bI hi;have y:=fun w' (hb:s_ w w')=>eV i (h.step hb) z;obtain ⟨A,cap,rfl,q1,q2⟩:=h.files.form;obtain ⟨bb,o,t,B,O,rfl,v,I,J,K,L,hc⟩:=FlA.cells h.files hi;have n:=fun w' (hb:s_ w w')=>b1_ O p I J K (L.step hb);have E:w.cell? ⟨bb,o+i*15+2,none⟩=some (I_ t):=hc 2 _ rfl;have F:=hc 3 _ rfl;have G:w.cell? ⟨bb,o+i*15+4,none⟩=some (I_ (j_ t x.c).val):=hc 4 _ rfl;have H:w.cell? ⟨bb,o+i*15+5,none⟩=some (I_ (j_ t x.c).marks):=hc 5 _ rfl;have M:=H_ (fun X=>a_ (aP (w) w) X);have Y:(0:Int)<=(i:Int):=O_
 have Z:(i:Int)<(C.files.length:Int):=O_
 generalize (j_ t x.c).kids.length=kn at *;generalize (j_ t x.c).val=kv at *;generalize (j_ t x.c).marks=km at *;obtain ⟨r,q⟩:=bL (J_ x.c p);rw [<-q] at n ⊢;clear hc h hi q I J K L;have N:=H_ (i_ w (.cells #[S_ (some ⟨bb,o,none⟩) C.files.length cap,b,c,d,e,f,g] 30));go_enter func59,ntmps59
 go_upto_region 3 with (go_at_call 92;(with_reducible refine CM (y _ fL) ?_);rintro e w1 ⟨rfl,m⟩)
 have j:=H_ (e_ (M.out _) m);have u:=fC N m;obtain ⟨x0,P,Q,R,U,V,W⟩:=T_ u.out;clear P Q R U V W;have D:=kt4 (j.block _ v) E F G H;clear E F G H;obtain ⟨E,F,G,H⟩:=D;clear m
 by_cases hv:r<=0
 ·have s:=H_ (show uT r = .tuple #[I_ 0,.bool false] from if_pos hv)
  go_wp2_with (go_at_call 127;(with_reducible refine CM (n _ j.out) ?_);rintro e w2 ⟨rfl,k⟩;have l:=jC j k;clear k)
  go_ret2
  exact ⟨by rw [s.out];rfl,l⟩
 ·have s:=H_ (show uT r = .tuple #[I_ r,.bool true] from if_neg hv)
  go_wp2_with (go_at_call 127;(with_reducible refine CM (n _ j.out) ?_);rintro e w2 ⟨rfl,k⟩;have l:=jC j k;clear k)
  go_ret2
  exact ⟨by rw [s.out];rfl,l⟩
def Fr.v (x:Fr):Value:= .agg (jS x.file x)
def tX (x:Fr):Bool:=decide (x.holds=0)&&(decide (x.reading=0)&&decide (x.writing=0))
theorem eb_ (x:Fr) (w:World):C_ 155 #[x.v] w (cG (tX x) w):=by
 have a:=H_ (fun X=>a_ (aP (w) w) X);obtain ⟨i,j,⟨d,v,y⟩,t,c,f,g⟩:=x;have b:=H_ (show tX ⟨i,j,⟨d,v,y⟩,t,c,f,g⟩=(decide (c=0)&&(decide (f=0)&&decide (g=0))) from rfl)
 dsimp only[Fr.v]
 go_enter func155,ntmps155
 by_cases h1:c=0
 ·by_cases h2:f=0
  ·by_cases h3:g=0
   all_goals
    go_wp2;go_ret
    exact ⟨by rw [b.out];simp [h1,h2,h3],a.out _⟩
  ·go_wp2;go_ret
   exact ⟨by rw [b.out];simp [h1,h2],a.out _⟩
 ·go_wp2;go_ret
  exact ⟨by rw [b.out];simp [h1],a.out _⟩
end
section
def bO (pg off n:Int):Int × Int:=(max off (pg*16) - pg*16,min (off+n) ((pg+1)*16) - max off (pg*16))
theorem xR (pg off n:Int) (w:World) (h1:0<=pg/\pg<=100) (h2:0<=off/\off<=1000) (h3:0<=n/\n<=1000):C_ 151 #[I_ pg,I_ off,I_ n] w (kV (.tuple #[I_ (bO pg off n).1,I_ (bO pg off n).2]) w):=by
 obtain ⟨a1,a2⟩:=h1;obtain ⟨b,c⟩:=h2;obtain ⟨c1,c2⟩:=h3;have a:=H_ (show bO pg off n=(max off (pg*16) - pg*16,min (off+n) ((pg+1)*16) - max off (pg*16)) from rfl);go_enter func151,ntmps151
 by_cases h:off<pg*16
 ·by_cases h':off+n<=(pg+1)*16
  ·go_wp2
   go_ret2
   refine ⟨?_,rfl⟩;rw [a.out,Int.max_eq_right O_,Int.min_eq_left O_,Int.sub_self]
   rfl
  ·go_wp2
   go_ret2
   refine ⟨?_,rfl⟩;rw [a.out,Int.max_eq_right O_,Int.min_eq_right O_,Int.sub_self]
   rfl
 ·by_cases h':off+n<=(pg+1)*16
  ·go_wp2
   go_ret2
   refine ⟨?_,rfl⟩;rw [a.out,Int.max_eq_left O_,Int.min_eq_left O_]
   rfl
  ·go_wp2
   go_ret2
   refine ⟨?_,rfl⟩;rw [a.out,Int.max_eq_left O_,Int.min_eq_right O_]
   rfl
def yJ (a k:Nat):List Int:=(List.range k).map fun (j:Nat)=>(((a+j:Nat):Nat):Int)
theorem af_ (a k:Nat):yJ a (k+1)=yJ a k ++ [(((a+k:Nat):Nat):Int)]:=by simp [yJ,List.range_succ]
theorem sT (a k:Nat):(yJ a k).length=k:=by simp [yJ]
def aJ (off n:Nat):List Int:=yJ (off / 16) ((off+n+15) / 16 - off / 16)
theorem sS (off n:Nat) (S:Nat->Prop) (w:World) (h1:1<=n) (h2:off+n<=128) (hS:∀b,w.heap.size<=b->S b):C_ 88 #[I_ off,I_ n] w (pC (aJ off n) S w):=by
 have r:=fun w'=>kA (off:Int) (n:Int) w' O_ O_ O_ O_;have H:¬((n:Int)<1):=O_
 have y:((off:Int):Int).tdiv 16=((off / 16:Nat):Int):=by rw [tv_ O_];rfl
 have z:(off:Int) / 16=((off / 16:Nat):Int):=by rfl
 obtain ⟨a,q,C,D⟩:∃a:Nat,off / 16=a/\a*16<=off/\off<a*16+16:=⟨off / 16,rfl,O_,O_⟩;have B:=H_ (show aJ off n=yJ a ((off+n+15) / 16 - a) by rw [<-q];rfl);rw [q] at y z;clear q;go_enter func88,ntmps88
 go_upto_region 5 with (go_at_call 93;(with_reducible refine CM (r _) ?_);rintro e w1 ⟨rfl,rfl⟩)
 clear y z
 go_loopw [5,6] (fun u i wx=>∃k:Nat,i = I_ ((a+k:Nat):Nat)/\k<=9/\(k=0\/(a+k)*16<off+n+16)/\LO Y_ 3 wx (w) S u (yJ a k)/\s_ w wx) (fun _ i _=>100 - (intOf i).toNat)
 case atStart=>exact ⟨0,rfl,O_,.inl rfl,LO.nil _ _ _ _ _,aP _ _⟩
 case round=>
  obtain ⟨k,rfl,G,v,x,o⟩:=hrel;have p:=H_ x;have m:=H_ o;clear x o
  by_cases l:(a+k)*16<off+n
  ·have g:=H_ (af_ a k);obtain ⟨j,f⟩:=bL (a+k);rw [<-f] at g l ⊢;have c:=H_ f;have E:j<=8:=O_
   have F:((j:Int)*16)<(off:Int)+(n:Int):=O_
   clear f
   go_wp2_with (at_builtin;(refine M_ cV rfl (.tmp 25) (.tmp 27) rfl S rfl (p.alloc _) (by have:=m.size;simp;omega) (by rw [sT];omega) #[I_ (j:Int)] rfl (l_ _ _ _ rfl) (j:Int) rfl ?_);intro v4 w4 d s t)
   go_roundw
   case rel=>exact ⟨k+1,by have:=c.out;go_num,by have:=c.out;omega,by have:=c.out;omega,by rw [g.out];exact d,(a_ m.out _).grown s (a_ m.out _).size (fun b o=>(p.own o).1)⟩
   case measure=>exact bV
  ·have A:=H_ (show aJ off n=yJ a k by rw [B.out];congr 1;omega);obtain ⟨j,f⟩:=bL (a+k);rw [<-f] at l ⊢;have F:¬((j:Int)*16)<(off:Int)+(n:Int):=O_
   have E:j<=20:=O_
   clear f;go_wp2;go_ret;exact ⟨_,rfl,by rw [A.out];exact p.la (fun _ _ h=>h) hS,m.out⟩
end
section
def Fl.v (f:Fl) (h:Nat) (A:Option Addr) (cap:Nat):Value:= .agg (f.rowT h A cap).toArray
def jL (f:Fl) (p:Nat):Bool:=bits .and .i64 f.blocks (wrap64 (2 ^ p)) == 0
theorem bF_ (f:Fl) (h:Nat) (A:Option Addr) (cap:Nat) (p:Nat) (hp:p<8) (w:World):C_ 137 #[f.v h A cap,I_ p] w (cG (jL f p) w):=by
 have a:=H_ (fun X=>a_ (aP (w) w) X);have b:=H_ (show jL f p=(bits .and .i64 f.blocks (wrap64 (2 ^ p)) == 0) from rfl);simp only[Fl.v,Fl.rowT,List.toArray];generalize f.blocks=bk at *;go_enter func137,ntmps137
 go_upto_region 1 with fail
 go_region
 go_wp2;go_ret
 exact ⟨by rw [b.out];rfl,(a.out _).drew⟩
end
section
theorem i8_ (hk:eO k=true):yH k:=by
 have:k=1\/k=2\/k=4:=by simpa [eO] using hk
 rcases this with rfl | rfl | rfl <;> exact ⟨cE,cE⟩
theorem eq_ {a:Int} (ha:yH a) (hk:yH k):yH (nN a k):=by
 obtain ⟨x,rfl⟩:=nA ha;obtain ⟨y,rfl⟩:=nA hk;have:∀x y:Fin 8,0<=nN (x.val:Int) (y.val:Int)/\nN (x.val:Int) (y.val:Int)<=7:=by decide
 exact this x y
theorem mE (hl:bF c) (i m:Int):bF (eY c i m).1:=by
 unfold eY
 by_cases h:(iR c i m).2=0
 ·rw [if_pos h];obtain ⟨h1,h2,h3,_⟩:=bz_ h;have a:=bV_ (rB (hl i.toNat)) (i8_ h2);exact hl.upd (x:=((c i.toNat).1,uC (c i.toNat).2 m)) (.inr ⟨fun e=>by have e:(c i.toNat).1=0:=e;omega,a.1,a.2,.inl h3⟩) _
 ·rw [if_neg h];exact iU
theorem jU (hl:bF c) (i m:Int):bF (bZ c i m).1:=by
 unfold bZ
 by_cases h:(iR c i m).2=0
 ·rw [if_pos h];obtain ⟨h1,h2,h3,_⟩:=bz_ h;have a:=eq_ (rB (hl i.toNat)) (i8_ h2);exact hl.upd (x:=((c i.toNat).1,nN (c i.toNat).2 m)) (.inr ⟨fun e=>by have e:(c i.toNat).1=0:=e;omega,a.1,a.2,.inl h3⟩) _
 ·rw [if_neg h];exact iU
theorem oU (hl:bF c) {i v:Int}:bF (bD c i v).1:=by
 unfold bD
 cases kF i with
 | true=>
  refine hl.upd ?_ _
  by_cases hv:v=0
  ·exact .inl (by rw [hv])
  ·exact .inr ⟨hv,Int.le_refl _,by show (0:Int)<=7;decide,.inr rfl⟩
 | false=>exact iU
def jO (c:Cn) (pg:Int) (dirty writing:Bool):Cn:=
 let a:=if dirty then (eY c pg 1).1 else (bZ c pg 1).1
 if writing then (eY a pg 2).1 else (bZ a pg 2).1
theorem vY {a b:Int} (h:0<a) (e:a=b):0<b:=e ▸ h
theorem xH {i:Int} (hi:kF i=true) (hm:eO m=true) (hv:0<(c i.toNat).1):(iR c i m).2=0:=by
 unfold iR;rw [if_pos hi,if_pos hm,if_neg O_]
theorem gM {i:Int} (hi:kF i=true) (hm:eO m=true) (hv:0<(c i.toNat).1) (j:Nat):((eY c i m).1 j).1=(c j).1:=by
 unfold eY;rw [if_pos (xH hi hm hv)]
 show (upd c i.toNat _ j).1=_
 unfold upd
 split
 ·rename_i h;rw [h]
 ·rfl
theorem eR {i:Int} (hi:kF i=true) (hm:eO m=true) (hv:0<(c i.toNat).1) (j:Nat):((bZ c i m).1 j).1=(c j).1:=by
 unfold bZ;rw [if_pos (xH hi hm hv)]
 show (upd c i.toNat _ j).1=_
 unfold upd
 split
 ·rename_i h;rw [h]
 ·rfl
theorem cE_ {pg:Int} (hi:kF pg=true) (hv:0<(c pg.toNat).1) (d w:Bool) (j:Nat):((jO c pg d w) j).1=(c j).1:=by
 have a:eO 1=true:=rfl;have b:eO 2=true:=rfl
 cases d <;> cases w
 ·exact (eR hi b (vY hv (eR hi a hv _).symm) j).trans (eR hi a hv j)
 ·exact (gM hi b (vY hv (eR hi a hv _).symm) j).trans (eR hi a hv j)
 ·exact (eR hi b (vY hv (gM hi a hv _).symm) j).trans (gM hi a hv j)
 ·exact (gM hi b (vY hv (gM hi a hv _).symm) j).trans (gM hi a hv j)
theorem dK {pg:Int} (hi:kF pg=true) (hv:0<(c pg.toNat).1) (d w:Bool) (p:Int):J_ (jO c pg d w) p=J_ c p:=by
 unfold J_;rw [cE_ hi hv]
end
section
def kO (h:Nat) (A:Option Addr) (cap:Nat) (c:Cn):List Value:=[I_ h,S_ A (j_ h c).kids.length cap,I_ (j_ h c).val,I_ (j_ h c).marks]
theorem LW.tree {g:Nat} {L:List Fl} (h:LW jI w S g L) {y:Fl} (hj:L[j]?=some y) {h':Nat} {A':Option Addr} {cap':Nat} {c':Cn} (hl:bF c') (ht:aM h' c') (hc:(j_ h' c').kids.length<=cap') (hk:NK w S A' (j_ h' c').kids) :
  LW jI (w.setCells g (j*15+2) (kO h' A' cap' c')) S g (L.set j {y with c:=c'}):=by
 refine LW.setPart h hj (by show 2+4<=15;omega) ?_ (fun r b=>?_)
 ·intro u a;simp only[kO,qL,List.not_mem_nil,or_false] at a
  rcases a with rfl | rfl | rfl | rfl <;> rfl
 ·obtain ⟨t,B,d,f,i,k,l,rfl⟩:=b;exact ⟨h',A',cap',hl,ht,hc,hk,rfl⟩
theorem Fr.one (x:Fr):∀u ∈ x.row,u.oneCell'=true:=by
 intro u hu;simp only[Fr.row,qL,List.not_mem_nil,or_false] at hu
 rcases hu with rfl | rfl | rfl | rfl | rfl | rfl | rfl | rfl | rfl <;> rfl
theorem LW.frame {g:Nat} {L:List Fr} (h:LW rO w S g L) (hi:i<L.length) (x:Fr):LW rO (w.setCells g (i*9) x.row) S g (L.set i x):=h.set hi rfl
theorem LW.frame_at {g:Nat} {L:List Fr} (h:LW rO w S g L) {x:Fr} (hi:L[i]?=some x):∀(j:Nat) (u:Value),x.row[j]?=some u->w.cell? ⟨g,i*9+j,none⟩=some u:=by
 obtain ⟨r,hr,hc⟩:=h.at_ hi;have hr:r=x.row:=hr;subst hr;exact hc
def bP (L:List Fl) (j:Nat) (y:Fl) (x:Fr):List Fl:=L.set j {y with c:=jO y.c x.page (x.pg.dirty != 0) (x.writing != 0)}
theorem lD (L:List Fl) (j:Nat) (y:Fl) (x:Fr):(bP L j y x).length=L.length:=by simp [bP]
end
section
theorem L_ (w:World) (g o:Nat) (vs:List Value):w.grownBy (w.setCells g o vs) (some g):=by
 obtain ⟨h1,h2,h3,h4⟩:=fD g vs o w;exact ⟨h1,h2,h3,O_,fun k _ hk=>v_ g vs o w k fun e=>hk (by rw [e])⟩
theorem d3_ {w5 w6:World} {g r:Nat} (h5:s_ w w5) (h6:w5.grownBy w6 (some g)) (hr:w<=r) {cs:Array Value}:w.grownBy (w6.setRow r cs) (some g):=by
 have a:=eU w6 r cs;refine ⟨(a.os.trans h6.os).trans h5.os,(a.tape.trans h6.tape).trans h5.tape,(a.output.trans h6.output).trans h5.output,by have:=h5.size;have:=h6.size;have:=a.size;omega,fun k c b=>?_⟩;rw [a.block k (by have:=h5.size;have:=h6.size;omega) (by simp;omega),h6.block k (by have:=h5.size;omega) b,h5.block k c]
def iz_ (v:Value) (g:Nat) (S:Nat->Prop) (L:List Fl) (w:World) (en:Ending) (w':World):Prop:=en = .returned v/\LW jI w' S g L/\w.grownBy w' (some g)
theorem LW.weak {α:Type} {k:Nat} {R:RR α k} {S S':Nat->Prop} {g:Nat} {L:List α} (h:LW R w S g L) (hg:¬S' g) (hS:∀b,b<w.heap.size->S b->S' b):LW R w S' g L:=by
 obtain ⟨_,rows,h1,h2⟩:=h;exact ⟨hg,rows,h1,h2.imp fun a r h=>R.wk _ _ _ _ _ hS h⟩
def yI (q:Bool) (c:Cn) (p m:Int):Cn:=if q then (eY c p m).1 else (bZ c p m).1
theorem cF_ (h:bF c) (q:Bool) {p:Int}:bF (yI q c p m):=by
 unfold yI
 cases q
 ·exact jU h p m
 ·exact mE h p m
structure MkS (w:World) (S1:Nat->Prop) (oX oF':Obj) (C':Cn) (h1:Nat) (A1:Option Addr) (cap1:Nat) (W:World):Prop where
 x:W.heap[w.heap.size]?=some oX
 r:W.heap[w.heap.size+1]?=some (bM)
 f:W.heap[w.heap.size+1+1]?=some oF'
 t:W.heap[w.heap.size+1+1+1]?=some (.cells #[I_ (h1:Int),S_ A1 (j_ h1 C').kids.length cap1,I_ (j_ h1 C').val,I_ (j_ h1 C').marks] 58 (0,0))
 b:s_ w W
 lf:bF C'
 tr:aM h1 C'
 cl:(j_ h1 C').kids.length<=cap1
 nk:NK W S1 A1 (j_ h1 C').kids
theorem MkS.put {S1:Nat->Prop} {oX oF':Obj} {C0 C':Cn} {h0 h1:Nat} {A0 A1:Option Addr} {cap0 cap1:Nat} {W1:World} (h:MkS w S1 oX oF' C0 h0 A0 cap0 W) (hb:s_ W W1) (lf:bF C') (tr:aM h1 C') (cl:(j_ h1 C').kids.length<=cap1) (nk:NK W1 S1 A1 (j_ h1 C').kids) (hs:¬S1 (w+1+1+1)) :
  MkS w S1 oX oF' C' h1 A1 cap1 (W1.setRow (w+1+1+1) #[I_ (h1:Int),S_ A1 (j_ h1 C').kids.length cap1,I_ (j_ h1 C').val,I_ (j_ h1 C').marks]):=
 ⟨(setRow_other _ _ _ _ O_).trans (h_ h.x hb),(setRow_other _ _ _ _ O_).trans (h_ h.r hb),(setRow_other _ _ _ _ O_).trans (h_ h.f hb),setRow_heap _ _ _ _ _ _ (h_ h.t hb),d_ (e_ h.b hb) O_ _,lf,tr,cl,
  nk.kept (by simp [World.setRow]) (fun z a _=>setRow_other W1 _ z _ (fun e=>hs (e ▸ a)))⟩
theorem fN_ {L:List Fl} {Fs:List Fr} (i j:Nat) (x:Fr) (y:Fl) {g:Nat}(cap:Nat) {b:Value} {P3 P4 P5 P6 P7:Option Addr} {n3 r3 n4' r4 n5' r5 n6' r6 n7' r7:Nat} {S':Nat->Prop} (h:LW jI w S g L) (hb:LA rO w S' b Fs) (hx:Fs[i]?=some x) (hj:L[j]?=some y) (hxf:x.file=j)
  (hl:L.length<=100) (hl2:Fs.length<=100) (hcap:L.length<=cap) (hS:∀z,w.heap.size<=z->S z) :
  C_ 124 #[bK (S_ (some ⟨g,0,none⟩) L.length cap) b (S_ P3 n3 r3) (S_ P4 n4' r4) (S_ P5 n5' r5) (S_ P6 n6' r6) (S_ P7 n7' r7),I_ ((i:Int)+1)] w (iz_ (bK (S_ (some ⟨g,0,none⟩) L.length cap) b (S_ P3 n3 r3) (S_ P4 n4' r4) (S_ P5 n5' r5) (S_ P6 n6' r6) (S_ P7 n7' r7)) g S (bP L j y x) w):=by
 have a3:¬S g:=h.1;have ab:=h.lt;obtain ⟨E,M⟩:=bL (fun z=>S z/\z≠w.heap.size+1/\z≠w.heap.size+1+1+1);have s1:∀z,E z->S z/\z≠w.heap.size+1/\z≠w.heap.size+1+1+1:=fun z N=>by rw [M] at N;exact N
 have s2:∀z,w.heap.size+1+1+1<z->E z:=fun z N=>by rw [M];exact ⟨hS z O_,O_,O_⟩
 replace h:LW jI w E g L:=h.weak (fun N=>a3 (s1 g N).1) (fun z N h=>by rw [M];exact ⟨h,O_,O_⟩);clear M;obtain ⟨A,c2,rfl,q1,q2⟩:=hb.form;obtain ⟨u,o1,rfl,d,y0,y1,y2,y3,y4,y5,y6,y7,y8⟩:=FrA.cells hb hx;obtain ⟨r,⟨t,B,ct,k1,k2,k3,k4,rfl⟩,hc⟩:=h.at_ hj;have z2:w.cell? ⟨g,j*15+2,none⟩=some (I_ t):=hc 2 _ rfl;have z3:=hc 3 _ rfl;have z4:w.cell? ⟨g,j*15+4,none⟩=some (I_ (j_ t y.c).val):=hc 4 _ rfl;have z5:w.cell? ⟨g,j*15+5,none⟩=some (I_ (j_ t y.c).marks):=hc 5 _ rfl;have af:=bI hx;have ac:=bI hj;have i2:(i:Int)<(Fs.length:Int):=O_
 have j2:(j:Int)<(L.length:Int):=O_
 obtain ⟨fi,k,⟨F,J,D⟩,I,G,H,C⟩:=x;have hxf:fi=(j:Int):=hxf;subst hxf;have HZ:(((w.alloc (.cells (D_ (o_ g) L.length cap (some ⟨u,o1,none⟩) Fs.length c2 P3 n3 r3 P4 n4' r4 P5 n5' r5 P6 n6' r6 P7 n7' r7) 30 (0,0))).alloc (bM)).alloc (.cells (nO (j:Int) k F J D I G H C) 85 (0,0))).heap.size=w.heap.size+1+1+1:=A_
 have HW:=H_ (a_ (a_ (a_ (aP (w) w) (.cells (D_ (o_ g) L.length cap (some ⟨u,o1,none⟩) Fs.length c2 P3 n3 r3 P4 n4' r4 P5 n5' r5 P6 n6' r6 P7 n7' r7) 30 (0,0))) (bM)) (.cells (nO (j:Int) k F J D I G H C) 85 (0,0)));have HX:=H_ (m_ (m_ (i_ w (.cells (D_ (o_ g) L.length cap (some ⟨u,o1,none⟩) Fs.length c2 P3 n3 r3 P4 n4' r4 P5 n5' r5 P6 n6' r6 P7 n7' r7) 30 (0,0))) (bM)) (.cells (nO (j:Int) k F J D I G H C) 85 (0,0)));have HR:=H_ (m_ (l_ (w.alloc (.cells (D_ (o_ g) L.length cap (some ⟨u,o1,none⟩) Fs.length c2 P3 n3 r3 P4 n4' r4 P5 n5' r5 P6 n6' r6 P7 n7' r7) 30 (0,0))) (bM) (w+1) A_) (.cells (nO (j:Int) k F J D I G H C) 85 (0,0)));have HF:=H_ (l_ ((w.alloc (.cells (D_ (o_ g) L.length cap (some ⟨u,o1,none⟩) Fs.length c2 P3 n3 r3 P4 n4' r4 P5 n5' r5 P6 n6' r6 P7 n7' r7) 30 (0,0))).alloc (bM)) (.cells (nO (j:Int) k F J D I G H C) 85 (0,0)) (w+1+1) A_);go_enter func124,ntmps124
 go_upto_region 2 with fail
 generalize ((w.alloc _).alloc _).alloc (.cells (nO (j:Int) k F J D I G H C) 85 (0,0))=W at HX HR HF HW HZ;have ae:=kt4 (HW.block _ ab) z2 z3 z4 z5;clear z2 z3 z4 z5;obtain ⟨z2,z3,z4,z5⟩:=ae;clear y0 y1 y2 y3 y4 y5 y6 y7 y8;obtain ⟨x0,x1,x2,x3,x4,x5,x6⟩:=T_ HX.out;have f0:=sF HF
 go_upto_region 3 with fail
 have a:=H_ (show MkS w E (.cells (D_ (o_ g) L.length cap (some ⟨u,o1,none⟩) Fs.length c2 P3 n3 r3 P4 n4' r4 P5 n5' r5 P6 n6' r6 P7 n7' r7) 30 (0,0)) (.cells (nO (j:Int) k F J D I G H C) 85 (0,0)) y.c t B ct (W.alloc (.cells #[I_ (t:Int),S_ B (j_ t y.c).kids.length ct,I_ (j_ t y.c).val,I_ (j_ t y.c).marks] 58)) from
  ⟨m_ HX _,m_ HR _,m_ HF _,l_ W (.cells #[I_ (t:Int),S_ B (j_ t y.c).kids.length ct,I_ (j_ t y.c).val,I_ (j_ t y.c).marks] 58) (w+1+1+1) HZ,a_ HW _,k1,k2,k3,k4.step (a_ HW _)⟩)
 generalize W.alloc (.cells #[I_ (t:Int),S_ B (j_ t y.c).kids.length ct,I_ (j_ t y.c).val,I_ (j_ t y.c).marks] 58)=W2 at a;clear x0 x1 x2 x3 x4 x5 x6 f0 z2 z3 z4 z5 HX HR HF HW HZ k1 k2 k3 k4 hc;have g4:=b_ a.f 4;simp only[zl] at g4
 go_upto_if 23 with fail
 obtain ⟨a0,X⟩:=bL ((D != 0));rw [<-X];have a6:=H_ X;clear g4 X;obtain ⟨wc,ad⟩:=bL W2;subst ad
 go_cut [] (fun wx=>∃h1 A1 q,MkS w E (.cells (D_ (o_ g) L.length cap (some ⟨u,o1,none⟩) Fs.length c2 P3 n3 r3 P4 n4' r4 P5 n5' r5 P6 n6' r6 P7 n7' r7) 30 (0,0)) (.cells (nO (j:Int) k F J D I G H C) 85 (0,0)) (yI a0 y.c k 1) h1 A1 q wx)
 case first=>
  cases a0 with
  | true=>
   obtain ⟨u0,u1,u2,u3⟩:=iP a.t;have Q:=b_ a.f 1;simp only[zl] at Q;have V:=n_ a.t;have o:=b2_ k 1 a.lf a.tr a.cl a.nk (fun z Z=>s2 z O_)
   go_wp2_with (first
    | (go_at_call 179;(with_reducible refine CM o ?_);rintro e w1 ⟨h2,A2,v,rfl,t1,c1,n1,d⟩;have m:=H_ (h_ a.t d))
    | (refine cZ rfl 58 (.tmp 6) (.tmp 29) rfl rfl (w+1+1+1) _ rfl rfl 58 _ m U_ rfl (aL) ?_)
    | fail)
   go_meet
   case rel=>exact ⟨_,_,_,a.put d (mE a.lf k 1) t1 c1 n1 (fun h=>(s1 _ h).2.2 rfl)⟩
  | false=>
   obtain ⟨u0,u1,u2,u3⟩:=iP a.t;have Q:=b_ a.f 1;simp only[zl] at Q;have V:=n_ a.t;have o:=wH k 1 a.lf a.tr a.cl a.nk (fun z Z=>s2 z O_)
   go_wp2_with (first
    | (go_at_call 180;(with_reducible refine CM o ?_);rintro e w1 ⟨h2,A2,v,rfl,t1,c1,n1,d⟩;have m:=H_ (h_ a.t d))
    | (refine cZ rfl 58 (.tmp 6) (.tmp 36) rfl rfl (w+1+1+1) _ rfl rfl 58 _ m U_ rfl (aL) ?_)
    | fail)
   go_meet
   case rel=>exact ⟨_,_,_,a.put d (jU a.lf k 1) t1 c1 n1 (fun h=>(s1 _ h).2.2 rfl)⟩
 case rest=>
  clear a;obtain ⟨h1,A1,q,hm⟩:=hcut;have a:=H_ hm;clear hm;obtain ⟨C3,R⟩:=bL (yI a0 y.c k 1);rw [<-R] at a;have a4:=H_ R;clear R;have g8:=b_ a.f 8;simp only[zl] at g8
  go_upto_if 40 with fail
  obtain ⟨a1,Y⟩:=bL ((C != 0));rw [<-Y];have a7:=H_ Y;clear g8 Y
  go_cut [] (fun wx=>∃h1 A1 q,MkS w E (.cells (D_ (o_ g) L.length cap (some ⟨u,o1,none⟩) Fs.length c2 P3 n3 r3 P4 n4' r4 P5 n5' r5 P6 n6' r6 P7 n7' r7) 30 (0,0)) (.cells (nO (j:Int) k F J D I G H C) 85 (0,0)) (yI a1 C3 k 2) h1 A1 q wx)
  case first=>
   cases a1 with
   | true=>
    obtain ⟨u0,u1,u2,u3⟩:=iP a.t;have Q:=b_ a.f 1;simp only[zl] at Q;have V:=n_ a.t;have o:=b2_ k 2 a.lf a.tr a.cl a.nk (fun z Z=>s2 z O_)
    go_wp2_with (first
     | (go_at_call 179;(with_reducible refine CM o ?_);rintro e w1 ⟨h2,A2,v,rfl,t1,c1,n1,d⟩;have m:=H_ (h_ a.t d))
     | (refine cZ rfl 58 (.tmp 6) (.tmp 46) rfl rfl (w+1+1+1) _ rfl rfl 58 _ m U_ rfl (aL) ?_)
     | fail)
    go_meet
    case rel=>exact ⟨_,_,_,a.put d (mE a.lf k 2) t1 c1 n1 (fun h=>(s1 _ h).2.2 rfl)⟩
   | false=>
    obtain ⟨u0,u1,u2,u3⟩:=iP a.t;have Q:=b_ a.f 1;simp only[zl] at Q;have V:=n_ a.t;have o:=wH k 2 a.lf a.tr a.cl a.nk (fun z Z=>s2 z O_)
    go_wp2_with (first
     | (go_at_call 180;(with_reducible refine CM o ?_);rintro e w1 ⟨h2,A2,v,rfl,t1,c1,n1,d⟩;have m:=H_ (h_ a.t d))
     | (refine cZ rfl 58 (.tmp 6) (.tmp 53) rfl rfl (w+1+1+1) _ rfl rfl 58 _ m U_ rfl (aL) ?_)
     | fail)
    go_meet
    case rel=>exact ⟨_,_,_,a.put d (jU a.lf k 2) t1 c1 n1 (fun h=>(s1 _ h).2.2 rfl)⟩
  case rest=>
   clear a;obtain ⟨l,O,dS,hm⟩:=hcut;have a:=H_ hm;clear hm;obtain ⟨s,U⟩:=bL (yI a1 C3 k 2);rw [<-U] at a;have a5:=H_ U;clear U;obtain ⟨W5,aa⟩:=bL wc;subst aa;have H5:=H_ (h.step a.b);have a8:=H_ (LW.there H5.out ac (p:=2) (n:=4) O_);have g0:=sF a.f;obtain ⟨u0,u1,u2,u3⟩:=iP a.t;obtain ⟨x0,x1,x2,x3,x4,x5,x6⟩:=T_ a.x
   go_upto_region 10 with (first
    | (refine nK rfl 58 (.tmp 61) (.tmp 59) rfl g (j*15+2) #[I_ (l:Int),S_ O (j_ l s).kids.length dS,I_ (j_ l s).val,I_ (j_ l s).marks] rfl rfl a8 U_ (aL) ?_)
    | fail)
   have LT:=H_ (LW.tree (L:=L) (h':=l) (A':=O) (cap':=dS) H5 hj a.lf a.tr a.cl a.nk);have P:=H_ ((v_ g (kO l O dS s) (j*15+2) W5 (w) O_).trans a.x);have K:=H_ ((v_ g (kO l O dS s) (j*15+2) W5 (w+1) O_).trans a.r);rw [show kO l O dS s=[I_ (l:Int),S_ O (j_ l s).kids.length dS,I_ (j_ l s).val,I_ (j_ l s).marks] from rfl] at LT P K;have a2:=H_ (L_ W5 g (j*15+2) [I_ (l:Int),S_ O (j_ l s).kids.length dS,I_ (j_ l s).val,I_ (j_ l s).marks]);generalize W5.setCells g (j*15+2) _=W6 at LT P K a2;clear x0 x1 x2 x3 x4 x5 x6;obtain ⟨x0,x1,x2,x3,x4,x5,x6⟩:=T_ P.out
   go_wp2_with (refine Q_ rfl (.tmp 4) (.tmp 62) rfl rfl rfl rfl K rfl ?_)
   show bodyPost prog f124 _ _ _ _
   refine bodyPost_ret (jT rfl rfl (setRow_heap _ _ _ _ _ _ K)) rfl ?_;have a9:=LW.kept (w':=W6.setRow (w+1) ((D_ (o_ g) L.length cap (some ⟨u,o1,none⟩) Fs.length c2 P3 n3 r3 P4 n4' r4 P5 n5' r5 P6 n6' r6 P7 n7' r7))) LT.out ⟨by simp [World.setRow],fun z N _=>setRow_other W6 (w+1) z ((D_ (o_ g) L.length cap (some ⟨u,o1,none⟩) Fs.length c2 P3 n3 r3 P4 n4' r4 P5 n5' r5 P6 n6' r6 P7 n7' r7)) (s1 z N).2.1⟩ (setRow_other W6 (w+1) g ((D_ (o_ g) L.length cap (some ⟨u,o1,none⟩) Fs.length c2 P3 n3 r3 P4 n4' r4 P5 n5' r5 P6 n6' r6 P7 n7' r7)) O_);refine ⟨rfl,?_,d3_ a.b a2.out O_⟩;have e:bP L j y ⟨(j:Int),k,⟨F,J,D⟩,I,G,H,C⟩=L.set j {y with c:=s}:=by
    rw [a5.out,a4.out,a6.out,a7.out];simp only[bP,jO,yI]
   rw [e];exact LW.weak a9 a3 (fun z _ h=>(s1 z h).1)
end
section
def TS (S:Nat->Prop) (gf gr gl gk:Nat):Nat->Prop:=fun z=>S z/\z≠gf/\z≠gr/\z≠gl/\z≠gk
abbrev cpV (gf nf cf gr nr cr:Nat) (c d:Value) (gl nl cl gk nk ck:Nat) (g:Value):Value:=
 bK (S_ (some ⟨gf,0,none⟩) nf cf) (S_ (some ⟨gr,0,none⟩) nr cr) c d (S_ (some ⟨gl,0,none⟩) nl cl) (S_ (some ⟨gk,0,none⟩) nk ck) g
structure eS (w:World) (S:Nat->Prop) (B gf nf cf gr nr cr:Nat) (c d:Value) (gl nl cl gk nk ck:Nat) (g:Value) (C:Ck):Prop where
 files:LW jI w (TS S gf gr gl gk) gf C.files
 frames:LW rO w (TS S gf gr gl gk) gr C.frames
 zones:LA pD w (TS S gf gr gl gk) c C.zones
 groups:LA pB w (TS S gf gr gl gk) d C.groups
 lists:LW sJ w (TS S gf gr gl gk) gl C.lists
 clocks:LW Y_ w (TS S gf gr gl gk) gk C.clocks
 ptes:LA lL w (TS S gf gr gl gk) g C.ptes
 ef:C.files.length=nf
 er:C.frames.length=nr
 el:C.lists.length=nl
 ek:C.clocks.length=nk
 lf:nf<=cf
 lr:nr<=cr
 ll:nl<=cl
 lk:nk<=ck
 mf:cf<=maxLen
 mr:cr<=maxLen
 ml:cl<=maxLen
 mq:ck<=maxLen
 o1:B<=gf
 o2:gf<gr
 o3:gr<gl
 o4:gl<gk
 sf:S gf
 sr:S gr
 sl:S gl
 sk:S gk
section
variable {w w':World} {S:Nat->Prop} {B gf nf cf gr nr cr:Nat} {c d:Value} {gl nl cl gk nk ck:Nat} {g:Value} {C:Ck}
theorem eS.lt (h:eS w S B gf nf cf gr nr cr c d gl nl cl gk nk ck g C):gk<w:=h.clocks.lt
theorem eS.at_ (h:eS w S B gf nf cf gr nr cr c d gl nl cl gk nk ck g C):x_ w S (S_ (some ⟨gf,0,none⟩) nf cf) (S_ (some ⟨gr,0,none⟩) nr cr) c d (S_ (some ⟨gl,0,none⟩) nl cl) (S_ (some ⟨gk,0,none⟩) nk ck) g C:=by
 have o1:=h.o1;have o2:=h.o2;have o3:=h.o3;have o4:=h.o4;refine ⟨?_,?_,h.zones.weak fun z _ a=>a.1,h.groups.weak fun z _ a=>a.1,?_,?_,h.ptes.weak fun z _ a=>a.1⟩
 ·have:=h.files.la (S':=S) (cap:=cf) h.sf (fun z _ a=>a.1) (by rw [h.ef];exact h.lf) h.mf;rw [h.ef] at this;exact this
 ·have:=h.frames.la (S':=S) (cap:=cr) h.sr (fun z _ a=>a.1) (by rw [h.er];exact h.lr) h.mr;rw [h.er] at this;exact this
 ·have:=h.lists.la (S':=S) (cap:=cl) h.sl (fun z _ a=>a.1) (by rw [h.el];exact h.ll) h.ml;rw [h.el] at this;exact this
 ·have:=h.clocks.la (S':=S) (cap:=ck) h.sk (fun z _ a=>a.1) (by rw [h.ek];exact h.lk) h.mq;rw [h.ek] at this;exact this
theorem eS.kept (h:eS w S B gf nf cf gr nr cr c d gl nl cl gk nk ck g C) (hk:r_ (TS S gf gr gl gk) w w') (h1:w'.heap[gf]?=w.heap[gf]?) (h2:w'.heap[gr]?=w.heap[gr]?) (h3:w'.heap[gl]?=w.heap[gl]?) (h4:w'.heap[gk]?=w.heap[gk]?):eS w' S B gf nf cf gr nr cr c d gl nl cl gk nk ck g C:=
 ⟨h.files.kept hk h1,h.frames.kept hk h2,h.zones.kept hk,h.groups.kept hk,h.lists.kept hk h3,h.clocks.kept hk h4,h.ptes.kept hk,h.ef,h.er,h.el,h.ek,h.lf,h.lr,h.ll,h.lk,h.mf,h.mr,h.ml,h.mq,h.o1,h.o2,h.o3,h.o4,h.sf,h.sr,h.sl,h.sk⟩
theorem eS.step (h:eS w S B gf nf cf gr nr cr c d gl nl cl gk nk ck g C) (hb:s_ w w'):eS w' S B gf nf cf gr nr cr c d gl nl cl gk nk ck g C:=by
 have o2:=h.o2;have o3:=h.o3;have o4:=h.o4;have hl:=h.lt;exact h.kept (r_.of_below hb) (hb.block _ O_) (hb.block _ O_) (hb.block _ O_) (hb.block _ O_)
theorem eS.weak {S':Nat->Prop} {B':Nat} (h:eS w S B gf nf cf gr nr cr c d gl nl cl gk nk ck g C) (hB:B'<=B) (hS:∀z,S z->S' z) (hS':∀z,B'<=z->S' z):eS w S' B' gf nf cf gr nr cr c d gl nl cl gk nk ck g C:=by
 have up:∀z,z<w.heap.size->TS S gf gr gl gk z->TS S' gf gr gl gk z:=fun z _ a=>⟨hS z a.1,a.2⟩;have n1:¬TS S' gf gr gl gk gf:=fun h=>h.2.1 rfl;have n2:¬TS S' gf gr gl gk gr:=fun h=>h.2.2.1 rfl;have n3:¬TS S' gf gr gl gk gl:=fun h=>h.2.2.2.1 rfl;have b:¬TS S' gf gr gl gk gk:=fun h=>h.2.2.2.2 rfl;have o1:=h.o1;exact ⟨h.files.weak n1 up,h.frames.weak n2 up,h.zones.weak up,h.groups.weak up,h.lists.weak n3 up,h.clocks.weak b up,h.ptes.weak up,h.ef,h.er,h.el,h.ek,h.lf,h.lr,h.ll,h.lk,h.mf,h.mr,h.ml,h.mq,O_,h.o2,h.o3,h.o4,hS _ h.sf,hS _ h.sr,hS _ h.sl,hS _ h.sk⟩
theorem eS.fresh (h:eS w S B gf nf cf gr nr cr c d gl nl cl gk nk ck g C) (hS:∀z,w.heap.size<=z->S z) (z:Nat) (hz:w.heap.size<=z):TS S gf gr gl gk z:=by
 have o1:=h.o1;have o2:=h.o2;have o3:=h.o3;have o4:=h.o4;have hl:=h.lt;exact ⟨hS z hz,O_,O_,O_,O_⟩
theorem eS.but (h:eS w S B gf nf cf gr nr cr c d gl nl cl gk nk ck g C) (X:Nat) (hX:w.heap.size<=X):eS w (fun z=>S z/\z≠X) B gf nf cf gr nr cr c d gl nl cl gk nk ck g C:=by
 have up:∀z,z<w.heap.size->TS S gf gr gl gk z->TS (fun z=>S z/\z≠X) gf gr gl gk z:=fun z hl a=>⟨⟨a.1,O_⟩,a.2⟩;have n1:¬TS (fun z=>S z/\z≠X) gf gr gl gk gf:=fun h=>h.2.1 rfl;have n2:¬TS (fun z=>S z/\z≠X) gf gr gl gk gr:=fun h=>h.2.2.1 rfl;have n3:¬TS (fun z=>S z/\z≠X) gf gr gl gk gl:=fun h=>h.2.2.2.1 rfl;have b:¬TS (fun z=>S z/\z≠X) gf gr gl gk gk:=fun h=>h.2.2.2.2 rfl;have o2:=h.o2;have o3:=h.o3;have o4:=h.o4;have hl:=h.lt;exact ⟨h.files.weak n1 up,h.frames.weak n2 up,h.zones.weak up,h.groups.weak up,h.lists.weak n3 up,h.clocks.weak b up,h.ptes.weak up,h.ef,h.er,h.el,h.ek,h.lf,h.lr,h.ll,h.lk,h.mf,h.mr,h.ml,h.mq,h.o1,h.o2,h.o3,h.o4,⟨h.sf,O_⟩,⟨h.sr,O_⟩,⟨h.sl,O_⟩,⟨h.sk,O_⟩⟩
theorem eS.setRow (h:eS w S B gf nf cf gr nr cr c d gl nl cl gk nk ck g C) (X:Nat) (cs:Array Value) (hX:¬S X) (hB:X<B):eS (w.setRow X cs) S B gf nf cf gr nr cr c d gl nl cl gk nk ck g C:=by
 have o1:=h.o1;have o2:=h.o2;have o3:=h.o3;have o4:=h.o4;exact h.kept (r_.of_setRow w X cs fun a=>hX a.1) (setRow_other w X gf cs O_) (setRow_other w X gr cs O_) (setRow_other w X gl cs O_) (setRow_other w X gk cs O_)
theorem eS.setCellX (h:eS w S B gf nf cf gr nr cr c d gl nl cl gk nk ck g C) (X p:Nat) (v:Value) (hX:¬S X) (hB:gk<X):eS (w.setCell ⟨X,p,none⟩ v) S B gf nf cf gr nr cr c d gl nl cl gk nk ck g C:=by
 have o1:=h.o1;have o2:=h.o2;have o3:=h.o3;have o4:=h.o4;have a:∀z,z≠X->(w.setCell ⟨X,p,none⟩ v).heap[z]?=w.heap[z]?:=fun z b=>iH w ⟨X,p,none⟩ v z b;exact h.kept (r_.of_setCell w ⟨X,p,none⟩ v fun b=>hX b.1) (a _ O_) (a _ O_) (a _ O_) (a _ O_)
theorem eS.putFiles {fs:List Fl} (h:eS w S B gf nf cf gr nr cr c d gl nl cl gk nk ck g C) (hg:w.grownBy w' (some gf)) (hf:LW jI w' (TS S gf gr gl gk) gf fs) (hn:fs.length=C.files.length):eS w' S B gf nf cf gr nr cr c d gl nl cl gk nk ck g {C with files:=fs}:=by
 have o2:=h.o2;have o3:=h.o3;have o4:=h.o4;have hl:=h.lt;have a:r_ (TS S gf gr gl gk) w w':=r_.of_gb hg fun k e a=>by cases e;exact a.2.1 rfl
 exact ⟨hf,h.frames.kept a (hg.block _ O_ (by simp;omega)),h.zones.kept a,h.groups.kept a,h.lists.kept a (hg.block _ O_ (by simp;omega)),h.clocks.kept a (hg.block _ O_ (by simp;omega)),h.ptes.kept a,hn.trans h.ef,h.er,h.el,h.ek,h.lf,h.lr,h.ll,h.lk,h.mf,h.mr,h.ml,h.mq,h.o1,h.o2,h.o3,h.o4,h.sf,h.sr,h.sl,h.sk⟩
theorem eS.putFrames {rs:List Fr} (h:eS w S B gf nf cf gr nr cr c d gl nl cl gk nk ck g C) (hg:w.grownBy w' (some gr)) (hf:LW rO w' (TS S gf gr gl gk) gr rs) (hn:rs.length=C.frames.length):eS w' S B gf nf cf gr nr cr c d gl nl cl gk nk ck g {C with frames:=rs}:=by
 have o2:=h.o2;have o3:=h.o3;have o4:=h.o4;have hl:=h.lt;have a:r_ (TS S gf gr gl gk) w w':=r_.of_gb hg fun k e a=>by cases e;exact a.2.2.1 rfl
 exact ⟨h.files.kept a (hg.block _ O_ (by simp;omega)),hf,h.zones.kept a,h.groups.kept a,h.lists.kept a (hg.block _ O_ (by simp;omega)),h.clocks.kept a (hg.block _ O_ (by simp;omega)),h.ptes.kept a,h.ef,hn.trans h.er,h.el,h.ek,h.lf,h.lr,h.ll,h.lk,h.mf,h.mr,h.ml,h.mq,h.o1,h.o2,h.o3,h.o4,h.sf,h.sr,h.sl,h.sk⟩
theorem eS.putLists {ls:List Lr} (h:eS w S B gf nf cf gr nr cr c d gl nl cl gk nk ck g C) (hg:w.grownBy w' (some gl)) (hf:LW sJ w' (TS S gf gr gl gk) gl ls) (hn:ls.length=C.lists.length):eS w' S B gf nf cf gr nr cr c d gl nl cl gk nk ck g {C with lists:=ls}:=by
 have o2:=h.o2;have o3:=h.o3;have o4:=h.o4;have hl:=h.lt;have a:r_ (TS S gf gr gl gk) w w':=r_.of_gb hg fun k e a=>by cases e;exact a.2.2.2.1 rfl
 exact ⟨h.files.kept a (hg.block _ O_ (by simp;omega)),h.frames.kept a (hg.block _ O_ (by simp;omega)),h.zones.kept a,h.groups.kept a,hf,h.clocks.kept a (hg.block _ O_ (by simp;omega)),h.ptes.kept a,h.ef,h.er,hn.trans h.el,h.ek,h.lf,h.lr,h.ll,h.lk,h.mf,h.mr,h.ml,h.mq,h.o1,h.o2,h.o3,h.o4,h.sf,h.sr,h.sl,h.sk⟩
theorem eS.putClocks {ks:List Int} (h:eS w S B gf nf cf gr nr cr c d gl nl cl gk nk ck g C) (hg:w.grownBy w' (some gk)) (hf:LW Y_ w' (TS S gf gr gl gk) gk ks) (hn:ks.length=C.clocks.length):eS w' S B gf nf cf gr nr cr c d gl nl cl gk nk ck g {C with clocks:=ks}:=by
 have o2:=h.o2;have o3:=h.o3;have o4:=h.o4;have hl:=h.lt;have a:r_ (TS S gf gr gl gk) w w':=r_.of_gb hg fun k e a=>by cases e;exact a.2.2.2.2 rfl
 exact ⟨h.files.kept a (hg.block _ O_ (by simp;omega)),h.frames.kept a (hg.block _ O_ (by simp;omega)),h.zones.kept a,h.groups.kept a,h.lists.kept a (hg.block _ O_ (by simp;omega)),hf,h.ptes.kept a,h.ef,h.er,h.el,hn.trans h.ek,h.lf,h.lr,h.ll,h.lk,h.mf,h.mr,h.ml,h.mq,h.o1,h.o2,h.o3,h.o4,h.sf,h.sr,h.sl,h.sk⟩
theorem eS.frame (h:eS w S B gf nf cf gr nr cr c d gl nl cl gk nk ck g C) (hi:i<C.frames.length) (x:Fr):eS (w.setCells gr (i*9) x.row) S B gf nf cf gr nr cr c d gl nl cl gk nk ck g {C with frames:=C.frames.set i x}:=
 h.putFrames (L_ w gr (i*9) x.row) (h.frames.frame hi x) A_
theorem eS.with_ {c' d' g':Value} {zs:List Zn} {gs:List Gr} {ps:List Pt} (h:eS w S B gf nf cf gr nr cr c d gl nl cl gk nk ck g C) (hz:LA pD w (TS S gf gr gl gk) c' zs) (hg:LA pB w (TS S gf gr gl gk) d' gs) (hp:LA lL w (TS S gf gr gl gk) g' ps):eS w S B gf nf cf gr nr cr c' d' gl nl cl gk nk ck g' {C with zones:=zs,groups:=gs,ptes:=ps}:=
 ⟨h.files,h.frames,hz,hg,h.lists,h.clocks,hp,h.ef,h.er,h.el,h.ek,h.lf,h.lr,h.ll,h.lk,h.mf,h.mr,h.ml,h.mq,h.o1,h.o2,h.o3,h.o4,h.sf,h.sr,h.sl,h.sk⟩
end
structure kT (C:Ck):Prop where
 files:0<C.files.length/\C.files.length<=100
 frames:0<C.frames.length/\C.frames.length<=100
 groups:0<C.groups.length/\C.groups.length<=100
 lists:0<C.lists.length/\C.lists.length<=100
 clocks:0<C.clocks.length/\C.clocks.length<=100
def wU (C:Ck) (S:Nat->Prop) (w:World) (en:Ending) (w':World):Prop:=∃gf nf cf gr nr cr c d gl nl cl gk nk ck g,en = .returned (cpV gf nf cf gr nr cr c d gl nl cl gk nk ck g)/\eS w' S (w) gf nf cf gr nr cr c d gl nl cl gk nk ck g C/\s_ w w'
theorem kY (C:Ck) (a b c d e f g:Value) (S:Nat->Prop) (w:World) (h:x_ w S a b c d e f g C) (hl:kT C) (hS:∀z,w.heap.size<=z->S z):C_ 21 #[bK a b c d e f g] w (wU C S w):=by
 refine (ho_ h ⟨hl.files.2,hl.frames.2,hl.groups.2,hl.lists.2,hl.clocks.2⟩).mono ?_;rintro J w' ⟨a',b',B,I,f',n1,n2,n3,G,rfl,hc,k⟩;have i:=h.zones.oldB k;have F:=h.ptes.oldB k;obtain ⟨gf,y,rfl,c1,c2,O,l⟩:=hc.files.lw hl.files.1;obtain ⟨gr,A,rfl,r,s,P,p⟩:=hc.frames.lw hl.frames.1;obtain ⟨j,cl,rfl,t,u,Q,o⟩:=hc.lists.lw hl.lists.1;obtain ⟨gk,ck,rfl,v,x,R,n⟩:=hc.clocks.lw hl.clocks.1;have V:gf<n1:=hc.lt1 gf rfl;have W:gr<n2:=hc.lt2 gr rfl;have X:j<G:=hc.lt4 j rfl;have K:=hc.le1;have L:=hc.le2;have M:=hc.le3;have N:=hc.le4;have up:∀z,S z/\z<w.heap.size->TS S gf gr j gk z:=fun z i=>⟨i.1,O_,O_,O_,O_⟩;refine ⟨gf,C.files.length,y,gr,C.frames.length,A,c,B,j,C.lists.length,cl,gk,C.clocks.length,ck,g,rfl,?_,k⟩;refine ⟨l.weak (fun h=>h.2.1 rfl) fun z _ i=>up z i.1,p.weak (fun h=>h.2.2.1 rfl) fun z _ i=>up z i.1,i.weak fun z _ i=>up z i,?_,o.weak (fun h=>h.2.2.2.1 rfl) fun z _ i=>up z i.1,n.weak (fun h=>h.2.2.2.2 rfl) fun z _ i=>up z i.1,F.weak fun z _ i=>up z i,rfl,rfl,rfl,rfl,c1,r,t,v,c2,s,u,x,O_,O_,O_,O_,hS _ O_,hS _ O_,hS _ O_,hS _ O_⟩;obtain ⟨q,H,rfl,D,E,U,m⟩:=hc.groups.lw hl.groups.1;have Y:q<n3:=hc.lt3 q rfl;exact m.la ⟨hS _ O_,O_,O_,O_,O_⟩ (fun z _ i=>up z i.1) D E
end
section
theorem pM:(prog.info? 85).map (·.size)=some 9:=by kernel_rfl
abbrev frV (x:Fr):Value:= .agg (jS x.file x)
theorem xI (x:Fr):(jS x.file x).all (·.oneCell')=true:=by simp [Value.oneCell']
def cP (C:Ck) (i j:Nat) (y:Fl) (x:Fr):Ck:={C with frames:=C.frames.set i x,files:=bP C.files j y x}
theorem fE (i j:Nat) (x:Fr) (y:Fl) {b c e f:Value} (h:x_ w S a b c d e f g C) (hl:kT C) (hi:i<C.frames.length) (hj:C.files[j]?=some y) (hxf:x.file=j) (hS:∀z,w.heap.size<=z->S z) :
  C_ 55 #[bK a b c d e f g,I_ ((i:Int)+1),frV x] w (wU (cP C i j y x) S w):=by
 obtain ⟨G,q⟩:=bL (fun z=>S z/\z≠w.heap.size/\z≠w.heap.size+1/\z≠w.heap.size+1+1);have s1:∀z,G z->S z/\z≠w.heap.size/\z≠w.heap.size+1/\z≠w.heap.size+1+1:=fun z o=>by rw [q] at o;exact o
 have s2:∀z,w.heap.size+1+1<z->G z:=fun z o=>by rw [q];exact ⟨hS z O_,O_,O_,O_⟩
 replace h:x_ w G a b c d e f g C:=h.weak (fun z o h=>by rw [q];exact ⟨h,O_,O_,O_⟩);clear q;obtain ⟨u,N,c1,v,O,c2,A,P,I,B,Q,J,D,R,K,E,U,L,F,V,M,rfl,rfl,rfl,rfl,rfl,rfl,rfl⟩:=x_.caps h;obtain ⟨H,HL,HJ,ad⟩:=rW h hl hj hxf;have i2:(i:Int)<(C.frames.length:Int):=O_
 have ae:C.frames.length<=100:=hl.frames.2;clear h hl hj hxf;have HX:=H_ (m_ (m_ (i_ w (.cells (D_ u N c1 v O c2 A P I B Q J D R K E U L F V M) 30)) (oF x)) (bM));have HF:=H_ (m_ (l_ (w.alloc (.cells (D_ u N c1 v O c2 A P I B Q J D R K E U L F V M) 30)) (oF x) (w+1) A_) (bM));have HR:=H_ (l_ ((w.alloc (.cells (D_ u N c1 v O c2 A P I B Q J D R K E U L F V M) 30)).alloc (oF x)) (bM) (w+1+1) A_);have HW:=H_ (a_ (a_ (a_ (aP (w) w) (.cells (D_ u N c1 v O c2 A P I B Q J D R K E U L F V M) 30)) (oF x)) (bM));have HZ:(((w.alloc (.cells (D_ u N c1 v O c2 A P I B Q J D R K E U L F V M) 30)).alloc (oF x)).alloc (bM)).heap.size=w.heap.size+1+1+1:=A_
 go_enter func55,ntmps55
 go_upto_region 1 with fail
 generalize ((w.alloc (.cells (D_ u N c1 v O c2 A P I B Q J D R K E U L F V M) 30)).alloc (oF x)).alloc (bM)=W at HX HR HF HW HZ;obtain ⟨x0,x1,x2,x3,x4,x5,x6⟩:=T_ HX.out
 go_upto_region 2 with (first
  | (go_at_call 21;(with_reducible refine CM (kY C _ _ _ _ _ _ _ G _ (H.out.step HW.out) HL.out (fun z o=>s2 z (by omega))) ?_);rintro e w1 ⟨gf,nf,cf,gr,nr,cr,c',d',gl,nl,cl,gk,nk,ck,g',rfl,m,a2⟩;obtain ⟨P3,n3,r3,rfl⟩:=m.zones.cap;obtain ⟨P4,n4,r4,rfl⟩:=m.groups.cap;obtain ⟨P7,n7,r7,rfl⟩:=m.ptes.cap;have ef:=m.ef;subst ef;have er:=m.er;subst er;obtain ⟨Z,a8,a6,aa⟩:=dU HX HR HF HW a2;have a4:=H_ m;clear m a2)
  | (refine Q_ rfl (.tmp 3) (.tmp 8) rfl rfl rfl rfl Z rfl ?_)
  | fail)
 have l:=H_ (a4.setRow (w) (D_ (o_ gf) C.files.length cf (o_ gr) C.frames.length cr P3 n3 r3 P4 n4 r4 (o_ gl) nl cl (o_ gk) nk ck P7 n7 r7) (fun o=>(s1 _ o).2.1 rfl) O_);generalize hW9:w1.setRow (w) (D_ (o_ gf) C.files.length cf (o_ gr) C.frames.length cr P3 n3 r3 P4 n4 r4 (o_ gl) nl cl (o_ gk) nk ck P7 n7 r7)=W2 at l;have a0:=srs hW9 Z;have a7:=srx hW9 a6;have a9:=srx hW9 a8;have ab:=srl hW9 aa;clear hW9
 clear x0 x1 x2 x3 x4 x5 x6;obtain ⟨x0,x1,x2,x3,x4,x5,x6⟩:=T_ a0.out;obtain ⟨f0,f1,f2,f3,f4,f5,f6,f7,f8⟩:=iQ a7.out;have Y:=H_ (LW.there l.frames hi (p:=0) (n:=9) O_);rw [Nat.add_zero] at Y
 go_upto_region 3 with (first
  | (refine nK rfl 85 (.tmp 14) (.tmp 13) rfl gr (i*9) (jS x.file x) rfl rfl Y pM (xI x) ?_)
  | fail)
 have k:=H_ (l.frame hi x);have a1:=H_ ((v_ gr [I_ x.file,I_ x.page,.string x.pg.data,I_ x.pg.valid,I_ x.pg.dirty,I_ x.tenant,I_ x.holds,I_ x.reading,I_ x.writing] (i*9) W2 (w) (by have:=l.o2;have:=l.o1;omega)).trans a0.out);have s:=H_ ((v_ gr [I_ x.file,I_ x.page,.string x.pg.data,I_ x.pg.valid,I_ x.pg.dirty,I_ x.tenant,I_ x.holds,I_ x.reading,I_ x.writing] (i*9) W2 (w+1+1) (by have:=l.o2;have:=l.o1;omega)).trans a9.out);have t:=H_ (aY ab (by have:=l.o2;have:=l.o1;omega:w<=gr) (i*9) [I_ x.file,I_ x.page,.string x.pg.data,I_ x.pg.valid,I_ x.pg.dirty,I_ x.tenant,I_ x.holds,I_ x.reading,I_ x.writing]);rw [show x.row=[I_ x.file,I_ x.page,.string x.pg.data,I_ x.pg.valid,I_ x.pg.dirty,I_ x.tenant,I_ x.holds,I_ x.reading,I_ x.writing] from rfl] at k;generalize W2.setCells gr (i*9) _=W3 at k a1 s t;clear x0 x1 x2 x3 x4 x5 x6 f0 f1 f2 f3 f4 f5 f6 f7 f8;obtain ⟨x0,x1,x2,x3,x4,x5,x6⟩:=T_ a1.out
 go_wp2_with (first
  | (go_at_call 124;(with_reducible refine CM (fN_ i j x y cf k.out.files k.out.at_.frames (lM hi) HJ.out ad.out HL.out.files.2 (by rw [kL];exact ae) k.out.lf (k.out.fresh (fun z o=>s2 z (by have:=k.out.lt;have:=k.out.o1;have:=k.out.o2;have:=k.out.o3;have:=k.out.o4;omega)))) ?_);rintro e w4 ⟨rfl,a3,r⟩;have a5:=H_ (k.putFiles r a3 (lD _ _ _ _));have X:=H_ ((r.block _ (n_ s) (by have:=k.o1;simp;omega)).trans s.out);have ac:=H_ (t.grown r t.size (fun b hb=>by have:=k.o1;cases hb;omega));clear a3 r)
  | (refine Q_ rfl (.tmp 6) (.tmp 17) rfl rfl rfl rfl X rfl ?_))
 show bodyPost prog f55 _ _ _ _
 refine bodyPost_ret (jT rfl rfl (setRow_heap _ _ _ _ _ _ X)) rfl ?_;refine ⟨gf,_,cf,gr,_,cr,_,_,gl,nl,cl,gk,nk,ck,_,rfl,?_,d_ ac.out O_ _⟩;exact (a5.setRow (w+1+1) (D_ (o_ gf) C.files.length cf (o_ gr) C.frames.length cr P3 n3 r3 P4 n4 r4 (o_ gl) nl cl (o_ gk) nk ck P7 n7 r7) (fun o=>(s1 _ o).2.2.2 rfl) O_).weak O_ (fun z o=>(s1 z o).1) hS
end
section
theorem aa_ {base g:Nat} (h:w.ownsRow base 5 1 (S_ (some ⟨g,0,none⟩) n n) n (madeCells (Value.int .u8 0).cells (n*1)).toList) (hn:1<=n):LW U8R w (fun _=>False) g (List.replicate n 0):=by
 have a:LO U8R 5 w base (fun _=>False) (S_ (some ⟨g,0,none⟩) n n) (List.replicate n 0):=by
  refine ⟨(List.replicate n 0).map (fun b=>[.int .u8 (UInt8.toNat b:Int)]),?_,cL.of_map _⟩;rw [rL_];have e:(List.map (fun b=>[Value.int .u8 (UInt8.toNat b:Int)]) (List.replicate n 0)).flatten=(madeCells (Value.int .u8 0).cells (n*1)).toList:=by
   rw [wA];clear h hn
   induction n with
   | zero=>rfl
   | succ n ih=>simp [List.replicate_succ] at ih ⊢
  rw [e];exact h
 obtain ⟨d,cap,e,_,_,_,c⟩:=a.lw (by simp;omega);injection e with e1
 injection e1 with e1
 injection e1 with e1
 subst e1;exact c.weak (fun h=>h) (fun _ _ h=>h.1)
theorem aU_ {x:World} {r:Option Nat} (h:w.grownBy x r) (hB:w.heap.size<=B) {o:Nat} {v:Value}:w.grownBy (x.setCell ⟨B,o,none⟩ v) r:=by
 have a:=y_ x ⟨B,o,none⟩ v;refine ⟨a.os.trans h.os,a.tape.trans h.tape,a.output.trans h.output,eF h.size a.size,fun k b c=>?_⟩;exact (a.block k (gX b h.size) (by simp;omega)).trans (h.block k b c)
def gJ_ (n:Nat) (W:World) (b:Nat) (w:World) (e:Ending) (w':World):Prop:=∃s:ByteArray,s.size=n/\e = .returned (.string s)/\Tp W b w'/\w.grownBy w' (some b)
theorem e9_ {k:Nat} (h:LW U8R w (fun _=>False) B L) (hl:L.length=n) (hk:k<n) {x:UInt8}:LW U8R (w.setCell ⟨B,k,none⟩ (.int .u8 (x.toNat:Int))) (fun _=>False) B (L.set k x):=by
 have c:=h.setOne (i:=k) (p:=0) (a:=L[k]'O_) (a':=x) (v:= .int .u8 (x.toNat:Int)) (cY _) O_ rfl (fun r b=>by
  have b:r=[.int .u8 _]:=b;subst b
  rfl)
 rw [Nat.mul_one,Nat.add_zero] at c;exact c
theorem b8_ {B cap n:Nat} (h:LW U8R w (fun _=>False) B L) (hl:L.length=n):(convert 77 9 (S_ (some ⟨B,0,none⟩) n cap)).run prog w = .ok (.string ⟨L.toArray⟩) w:=by
 have:=kX L B cap w (fun j b=>by
  obtain ⟨r,a,hc⟩:=h.at_ (cY b);have a:r=[.int .u8 _]:=a;subst a;have:=hc 0 _ rfl;rw [Nat.mul_one,Nat.add_zero] at this;exact this)
 rw [hl] at this;exact this
theorem bu_ (n:Nat) {b:Nat} (h1:1<=n) (h2:n<=1000) (hT:Tp W b w) :
  C_ 29 #[P_ b,I_ n] w (gJ_ n W b w):=by
 have K:=hT.lt;have m:=H_ hT;obtain ⟨O,H,s,t,u⟩:=info_parts nJ;clear hT;go_enter func29,ntmps29
 go_upto_region 2 with (first
  | (refine wpList_make_full w rfl (.tmp 7) (.tmp 7) 77 rfl (w) 5 O (.int .u8 0) 1 underlying77 H s t .i64 .i64 n n n rfl rfl rfl rfl (by rw [u];omega) (by unfold maxLen;omega) (bE _) ?_;intro w4 c a))
 obtain ⟨B,E⟩:=bL w.heap.size;have d:=H_ (aa_ c h1);have o:=H_ (m.gb' a (fun k v=>by cases v));have l:=H_ (show w.grownBy w4 (some b) from ⟨a.os,a.tape,a.output,a.size,fun k v _=>a.block k v A_⟩);clear c a H s t u m;rw [<-E] at d ⊢;have r:w.heap.size<=B/\b<B:=O_
 clear E;go_wp2
 go_loopw [6,11] (fun s6 s11 wx=>∃(k:Nat) (L:List UInt8),s11 = I_ k/\k<=n/\L.length=n/\LW U8R wx (fun _=>False) B L/\Tp W b wx/\w.grownBy wx (some b)) (fun _ s11 _=>n - (intOf s11).toNat)
 case atStart=>exact ⟨0,_,rfl,O_,rL_,d.out,o.out,l.out⟩
 case round=>
  clear d o l;obtain ⟨k,L,rfl,v,F,I,hT,G⟩:=hrel;obtain ⟨d,m,D,j⟩:=rW I hT G F;clear I hT G F
  by_cases C:k<n
  ·go_wp2_with (go_at_call 9;refine (bY _ O_ O_ m.out).mono ?_;rintro e w1 ⟨x,rfl,h0,h1,y,g⟩;obtain ⟨q,rfl⟩:=mZ h0;have f:=H_ (d.kept ⟨g.size,fun z N _=>N.elim⟩ (g.block B d.lt (by simp;omega)));have J:=(f.slot (i:=k) (p:=0) (by have:=j.out;omega) O_).2;obtain ⟨c0,A⟩:=(f.slot (i:=k) (p:=0) (by have:=j.out;omega) O_).1;rw [Nat.mul_one,Nat.add_zero] at J A)
   go_roundw
   case rel=>exact ⟨k+1,_,by go_num,O_,by rw [kL];exact j,e9_ f j C,y.set _ _ r.2,aU_ (u_ D g) r.1⟩
   case measure=>exact bV
  ·obtain rfl:k=n:=O_
   have M:=b8_ (cap:=k) d j;go_wp2;go_ret;exact ⟨_,by simpa [ByteArray.size] using j.out,rfl,m.out,D.out⟩
end
section
def is_ (w:World) (e:Ending) (w':World):Prop:=∃s:ByteArray,s.size=16/\e = .returned (.string s)/\s_ w w'
theorem dS_ (f p:Int) (w:World) (h1:0<=f/\f<=100) (h2:0<=p/\p<=100) :
  C_ 165 #[I_ f,I_ p] w (is_ w):=by
 obtain ⟨C,y,n,o,q⟩:=info_parts nJ;obtain ⟨D,E⟩:=h1;obtain ⟨J,K⟩:=h2;go_enter func165,ntmps165
 go_upto_region 2 with (first
  | (refine wpList_make_full w rfl (.const (I_ 16)) (.const (I_ 16)) 77 rfl (w) 5 C (.int .u8 0) 1 underlying77 y n o .i64 .i64 16 16 16 rfl rfl rfl rfl (by rw [q];omega) (by unfold maxLen;omega) (bE _) ?_;intro w4 a j))
 obtain ⟨B,x⟩:=bL w.heap.size;have c:=H_ (aa_ a O_);have d:=H_ (show s_ w w4 from B_.grown j (bE _) (fun b g=>by cases g));clear a j y n o q;rw [<-x] at c ⊢;have s:w.heap.size<=B:=O_
 clear x;go_wp2
 go_loopw [6,10] (fun s6 s10 wx=>∃(k:Nat) (L:List UInt8),s10 = I_ k/\k<=16/\L.length=16/\LW U8R wx (fun _=>False) B L/\s_ w wx) (fun _ s10 _=>16 - (intOf s10).toNat)
 case atStart=>exact ⟨0,_,rfl,O_,rL_,c.out,d.out⟩
 case round=>
  clear c d;obtain ⟨k,L,rfl,F,t,l,g⟩:=hrel;obtain ⟨c,d,r⟩:=eI l g t
  by_cases v:k<16
  ·have z:=(l.slot (i:=k) (p:=0) O_ O_).2;obtain ⟨c0,u⟩:=(l.slot (i:=k) (p:=0) O_ O_).1;rw [Nat.mul_one,Nat.add_zero] at z u;clear l g t;obtain ⟨m,G,H,I⟩:∃m:Int,(f*7+p*3+(k:Int)).tmod 26=m/\0<=m/\m<26:=⟨_,rfl,by rw [tm_ O_];omega,by rw [tm_ O_];omega⟩;go_wp2;go_roundw
   case rel=>
    rw [show 65+m=((UInt8.ofNat (65+m.toNat)).toNat:Int) by simp [UInt8.toNat_ofNat];omega];exact ⟨k+1,_,by go_num,O_,by rw [kL];exact r,e9_ c r v,aT d ⟨B,k,none⟩ _ s⟩
   case measure=>exact bV
  ·obtain rfl:k=16:=O_
   have A:=b8_ (cap:=16) c r;clear l g t;go_wp2;go_ret;exact ⟨_,by simpa [ByteArray.size] using r.out,rfl,d.out⟩
def FmP (C:Ck) (n:Int):Prop:=n=0\/∃(i:Nat) (x:Fr),n=(i:Int)+1/\C.frames[i]?=some x/\x.file≠-1
def iu_ (C:Ck) (W:World) (b:Nat) (w:World) (e:Ending) (w':World):Prop:=∃n,FmP C n/\e = .returned (I_ n)/\Tp W b w'/\w.grownBy w' (some b)
theorem mX {b c e f:Value} {bt:Nat} (h:x_ w S a b c d e f g C) (hl:C.frames.length<=100) (hT:Tp W bt w) :
  C_ 164 #[P_ bt,bK a b c d e f g] w (iu_ C W bt w):=by
 have a9:=hT.lt;obtain ⟨J,m1,c1,rfl⟩:=h.files.cap;obtain ⟨K,c2,rfl,_,_⟩:=h.frames.form;obtain ⟨M,m3,U,N,m4,V,O,m5,X,P,m6,Y,Q,m7,Z,rfl,rfl,rfl,rfl,rfl⟩:=x_.caps5 h;have HF:=H_ h.frames;have HT:=H_ hT;have s:=H_ (i_ w (.cells (D_ J m1 c1 K C.frames.length c2 M m3 U N m4 V O m5 X P m6 Y Q m7 Z) 30));have n:=H_ (a_ (aP (w) w) (.cells (D_ J m1 c1 K C.frames.length c2 M m3 U N m4 V O m5 X P m6 Y Q m7 Z) 30));clear h hT;go_enter func164,ntmps164
 go_upto_region 1 with fail
 generalize w.alloc (.cells (D_ J m1 c1 K C.frames.length c2 M m3 U N m4 V O m5 X P m6 Y Q m7 Z) 30)=W1 at s n;go_wp2
 go_loopw [5,6] (fun s5 s6 wx=>∃(k:Nat) (L:List Int),s6 = I_ ((k:Int)+1)/\k<=C.frames.length/\L.length<=k/\(∀z ∈ L,FmP C z)/\LO Y_ 3 wx (w+1) (fun z=>w.heap.size+1<=z) s5 L/\s_ w wx/\bA wx (w) (D_ J m1 c1 K C.frames.length c2 M m3 U N m4 V O m5 X P m6 Y Q m7 Z) 30) (fun _ s6 _=>200 - (intOf s6).toNat)
 case atStart=>exact ⟨0,[],by first | rfl | simp,O_,A_,(fun z r=>by cases r),LO.nil _ _ _ _ _,n.out,s.out⟩
 case round=>
  clear s n;obtain ⟨k,L,rfl,hk,a2,hL,ho,F,hX⟩:=hrel;obtain ⟨R,v,n,s⟩:=rW hL ho F hX;have x1:=b_ hX 1;simp only[zl] at x1
  by_cases a6:k<C.frames.length
  ·obtain ⟨x,hx⟩:∃x,C.frames[k]?=some x:=⟨_,cY a6⟩;obtain ⟨bb,o,rfl,a5,y0,_⟩:=FrA.cells HF.out hx;replace y0:=(g_ (n.block _ a5)).trans y0;have a1:=H_ hx;have k1:(k:Int)<(C.frames.length:Int):=O_
   clear hL ho F hX hx
   by_cases m:x.file=-1
   ·have d1:(x.file != -1)=false:=by simp [m]
    clear m;go_wp2;go_roundw
    case rel=>exact ⟨k+1,L,by go_num,O_,O_,R.out,v.out,n.out,s.out⟩
    case measure=>exact bV
   ·have d1:(x.file != -1)=true:=bne_iff_ne.2 m;have a0:=H_ m;clear m
    go_wp2_with (at_builtin;(refine M_ cV rfl (.tmp 22) (.tmp 24) rfl (fun z=>w.heap.size+1<=z) rfl (v.alloc _) (by have:=n_ s;simp;omega) O_ #[I_ ((k:Int)+1)] rfl (l_ _ _ _ rfl) ((k:Int)+1) rfl ?_);intro v4 w4 t H a7)
    go_roundw
    case rel=>
     have I:∀z,u5.ownBlock=some z->w.heap.size+1<=z:=fun z r=>(v.own r).1;refine ⟨k+1,_,by go_num,O_,by simp;omega,fun z r=>?_,t,(a_ n.out _).grown H (a_ n.out _).size (fun b F=>by have:=I b F;omega),?_⟩
     ·rcases List.mem_append.1 r with r | r
      ·exact R z r
      ·obtain rfl:z=(k:Int)+1:=by simpa using r
       exact .inr ⟨k,x,rfl,a1,a0⟩
     ·exact (H.block _ (by simp;have:=n_ s;omega) (fun e=>by have:=I _ e.symm;omega)).trans (m_ s.out _)
    case measure=>exact bV
  ·obtain rfl:k=C.frames.length:=O_
   have E:=H_ (HT.step n);have B:=H_ (X_ n (some bt));clear hL ho F hX
   cases L with
   | nil=>
    obtain ⟨A,cap,rfl,q1,q2⟩:=(v.la (S':=iF) (fun _ _ _=>trivial) (fun _ _=>trivial)).form;go_wp2;go_ret;exact ⟨0,.inl rfl,rfl,E.out,B⟩
   | cons z l=>
    obtain ⟨ll,i⟩:=bL ((z :: l).length);have aa:1<=ll:=by rw [i];simp
    have ab:ll<=100:=by rw [i];omega
    have p:=H_ (v.la (S':=fun z=>w.heap.size+1<=z) (fun _ _ h=>h) (fun _ h=>h));obtain ⟨A,cap,rfl,q1,q2⟩:=p.form;rw [<-i] at a2;generalize hLL:z :: l=LL at R v p i;clear q1 q2 hLL;rw [<-i] at p ⊢;have D:=H_ i;clear i
    go_wp2_with (go_at_call 9;refine (bY _ O_ O_ E.out).mono ?_;(rintro e w1 ⟨y,rfl,h0,h1,a3,G⟩;obtain ⟨q,rfl⟩:=mZ h0;obtain ⟨zz,u⟩:∃zz,LL[q]?=some zz:=⟨_,cY (by have:=D.out;omega)⟩;have HZ:=H_ (R zz (gL u));obtain ⟨b',o',cap',ev,_,_,a4,a8,j⟩:=IL.cell p.out u;rw [<-D.out] at ev;injection ev with ev1 ev2 ev3;subst ev1;clear ev3 u;replace j:=(g_ (G.block b' a4 (by simp;omega))).trans j))
    go_ret;exact ⟨zz,HZ,rfl,a3,u_ B G⟩
end
section
def SK.lr2 (T:Nat->Prop) (a:Lr) (err:Int) {S:Nat->Prop} (hT:∀z,T z->S z):SK S:=⟨fun v w=>∃v1 v2 v3,v = .tuple #[.agg #[v1,v2,v3],I_ err]/\tB w T v1 v2 v3 a,fun v w w' hk ⟨v1,v2,v3,e,h⟩=>⟨v1,v2,v3,e,h.kept ⟨hk.1,fun z hz=>hk.2 z (hT z hz)⟩⟩⟩
def SK.lr (T:Nat->Prop) (a:Lr) {S:Nat->Prop} (hT:∀z,T z->S z):SK S:=⟨fun v w=>∃v1 v2 v3,v = .agg #[v1,v2,v3]/\tB w T v1 v2 v3 a,fun v w w' hk ⟨v1,v2,v3,e,h⟩=>⟨v1,v2,v3,e,h.kept ⟨hk.1,fun z hz=>hk.2 z (hT z hz)⟩⟩⟩
theorem LW.lr_at {g:Nat} {L:List Lr} (h:LW sJ w S g L) {x:Lr} (hi:L[i]?=some x):∃A1 n1 c1 A2 n2 c2 A3 n3 c3,tB w S (S_ A1 n1 c1) (S_ A2 n2 c2) (S_ A3 n3 c3) x/\w.cell? ⟨g,i*3,none⟩=some (S_ A1 n1 c1)/\w.cell? ⟨g,i*3+1,none⟩=some (S_ A2 n2 c2)/\w.cell? ⟨g,i*3+2,none⟩=some (S_ A3 n3 c3):=by
 obtain ⟨r,b,hc⟩:=h.at_ hi;obtain ⟨v1,v2,v3,rfl,a⟩:=b;obtain ⟨A1,n1,c1,rfl⟩:=a.1.cap;obtain ⟨A2,n2,c2,rfl⟩:=a.2.1.cap;obtain ⟨A3,n3,c3,rfl⟩:=a.2.2.cap;exact ⟨A1,n1,c1,A2,n2,c2,A3,n3,c3,a,hc 0 _ rfl,hc 1 _ rfl,hc 2 _ rfl⟩
def wV (C:Ck) (t:Nat) (l:Lr) (i:Nat):Ck:={C with lists:=C.lists.set t (fA l ((i:Int)+1))}
theorem tF (i t:Nat) (fr:Fr) {l:Lr} {b c e f:Value} (h:x_ w S a b c d e f g C) (hl:kT C) (hx:C.frames[i]?=some fr) (hft:fr.tenant=t) (hlt:C.lists[t]?=some l) (ok:fH l) (hi64:i<64) (hS:∀z,w.heap.size<=z->S z) :
  C_ 154 #[bK a b c d e f g,I_ ((i:Int)+1)] w (wU (wV C t l i) S w):=by
 obtain ⟨A,s1,s2,s3⟩:=iA hS;replace h:=h.weak s3;clear s3;obtain ⟨A1,m1,c1,A2,m2,c2,A3,m3,c3,A4,m4,c4,A5,m5,c5,A6,m6,c6,A7,m7,c7,rfl,rfl,rfl,rfl,rfl,rfl,rfl⟩:=x_.caps h;have ah:=bI hx;have a8:=bI hlt;have i2:(i:Int)<(C.frames.length:Int):=O_
 have t2:(t:Int)<(C.lists.length:Int):=O_
 have ai:C.frames.length<=100:=hl.frames.2;have aj:C.lists.length<=100:=hl.lists.2;obtain ⟨H,HL,ac,aa,ab,OK⟩:=h6_ h hl hlt hx hft ok;clear h hl hlt hx hft ok;go_enter func154,ntmps154
 go_upto_region 1 with fail
 generalize hW9:(w.alloc _).alloc _=W;obtain ⟨HX,HR,HW,HZ⟩:=dJ hW9;clear hW9;obtain ⟨x0,x1,x2,x3,X,x5,x6⟩:=T_ HX.out
 go_upto_region 2 with (first
  | (go_at_call 21;(with_reducible refine CM (kY C _ _ _ _ _ _ _ A _ (H.out.step HW.out) HL.out (fun z J=>s2 z (by omega))) ?_);rintro e w1 ⟨gf,nf,B,gr,nr,D,c',d',k,nl,cl,gk,nk,ck,g',rfl,u,a5⟩;obtain ⟨E,n3,Q,rfl⟩:=u.zones.cap;obtain ⟨F,L,R,rfl⟩:=u.groups.cap;obtain ⟨G,M,U,rfl⟩:=u.ptes.cap;have el:=u.el;subst el;have er:=u.er;subst er;obtain ⟨a1,ad,ae⟩:=bC HX HR HW a5;have a9:=H_ u;clear u a5)
  | (refine Q_ rfl (.tmp 2) (.tmp 7) rfl rfl rfl rfl a1 rfl ?_)
  | fail)
 have m:=H_ (a9.setRow (w) (D_ (o_ gf) nf B (o_ gr) C.frames.length D E n3 Q F L R (o_ k) C.lists.length cl (o_ gk) nk ck G M U) (fun J=>(s1 _ J).2.1 rfl) O_);generalize hW9:w1.setRow (w) (D_ (o_ gf) nf B (o_ gr) C.frames.length D E n3 Q F L R (o_ k) C.lists.length cl (o_ gk) nk ck G M U)=V at m;have x:=srs hW9 a1;have Y:=srx hW9 ad;have a0:=srl hW9 ae;clear hW9;clear x0 x1 x2 x3 X x5 x6;obtain ⟨x0,x1,x2,x3,X,x5,x6⟩:=T_ x.out;have y5:V.cell? ⟨gr,i*9+5,none⟩=some (I_ (t:Int)):=by rw [<-ab.out];exact LW.frame_at m.frames aa 5 _ rfl
 go_upto_region 3 with fail
 clear y5;obtain ⟨E1,k1,e1,E2,k2,e2,E3,k3,e3,v,l0,l1,l2⟩:=LW.lr_at m.lists ac.out;have HA:=H_ v;clear v;have I:=n_ x;have y:=m.lists.lt
 go_cut [] (fun wx=>eS wx A (W) gf nf B gr C.frames.length D (S_ E n3 Q) (S_ F L R) k C.lists.length cl gk nk ck (S_ G M U) (wV C t l i)/\bA wx (w) (D_ (o_ gf) nf B (o_ gr) C.frames.length D E n3 Q F L R (o_ k) C.lists.length cl (o_ gk) nk ck G M U) 30/\wx.heap[w.heap.size+1]?=some (bM)/\s_ w wx)
 case first=>
  refine aR (S:=TS A gf gr k gk) 30 14 (inL [0,1,2,3,4,5,6,7,8,9,10,11,13]) (fun wx=>eS wx A (W) gf nf B gr C.frames.length D (S_ E n3 Q) (S_ F L R) k C.lists.length cl gk nk ck (S_ G M U) (wV C t l i)/\bA wx (w) (D_ (o_ gf) nf B (o_ gr) C.frames.length D E n3 Q F L R (o_ k) C.lists.length cl (o_ gk) nk ck G M U) 30/\wx.heap[w.heap.size+1]?=some (bM)/\s_ w wx) [SK.eq (.pointer (some ⟨w,4,none⟩)),SK.eq (S_ (some ⟨k,0,none⟩) C.lists.length cl),SK.eq (I_ (t:Int)),SK.eq (.pointer (some ⟨w,4,none⟩)),SK.eq (S_ (some ⟨k,0,none⟩) C.lists.length cl),SK.eq (I_ (t:Int)),SK.eq (.pointer (some ⟨k,t*3,none⟩)),SK.eq (.agg #[S_ E1 k1 e1,S_ E2 k2 e2,S_ E3 k3 e3]),SK.eq (I_ ((i:Int)+1)),SK.lr2 (TS A gf gr k gk) (fA l ((i:Int)+1)) (if gK l ((i:Int)+1)=true then 0 else 4) (fun _ h=>h),SK.lr2 (TS A gf gr k gk) (fA l ((i:Int)+1)) (if gK l ((i:Int)+1)=true then 0 else 4) (fun _ h=>h),SK.lr (TS A gf gr k gk) (fA l ((i:Int)+1)) (fun _ h=>h),SK.eq (I_ (if gK l ((i:Int)+1)=true then 0 else 4)),SK.eq (.pointer (some ⟨k,t*3,none⟩)),SK.any] q_ q_ rfl (fun _=>trivial) ?_;refine qP fun v0=>?_;simp only[ly];refine c_ rfl rfl (fun xw r q K s=>?_) (fun v1=>?_)
  ·obtain rfl:v0=_:=q 0 q_;have j:s_ V xw:=r;have u0:=(j.cell (p:=⟨w,_,none⟩) I).trans X;go_simp;exact s _ _ r K_ rfl
  simp only[ly];refine qP fun v2=>qP fun v3=>?_;simp only[ly];refine c_ rfl rfl (fun xw r q K s=>?_) (fun v4=>?_)
  ·obtain rfl:v3=_:=q 3 q_;have j:s_ V xw:=r;have u0:=(j.cell (p:=⟨w,_,none⟩) I).trans X;go_simp;exact s _ _ r K_ rfl
  simp only[ly];refine qP fun v5=>qP fun v6=>?_;simp only[ly];refine c_ rfl rfl (fun xw r q K s=>?_) (fun v7=>?_)
  ·obtain rfl:v6=_:=q 6 q_;have j:s_ V xw:=r;have u0:=(j.cell (p:=⟨k,_,none⟩) y).trans l0;have u1:=(j.cell (p:=⟨k,_,none⟩) y).trans l1;have u2:=(j.cell (p:=⟨k,_,none⟩) y).trans l2;go_simp;exact s _ _ r K_ rfl
  simp only[ly];refine qP fun v8=>?_;simp only[ly];refine c_ rfl rfl (fun xw r q K s=>?_) (fun v9=>?_)
  ·obtain rfl:v7=_:=q 7 q_;obtain rfl:v8=_:=q 8 q_;have j:s_ V xw:=r;go_simp
   go_at_call 197
   refine (gy_ ((i:Int)+1) (HA.step j) OK.out ⟨O_,O_⟩ (m.step j |>.fresh (fun z J=>s2 z (by have:=m.lt;have:=j.size;have:=m.o1;have:=m.o2;have:=m.o3;have:=m.o4;omega)))).mono ?_;rintro e w1 ⟨N,O,P,rfl,v,hb⟩;exact s _ _ (e_ j hb) (r_.of_below hb) ⟨N,O,P,rfl,v⟩
  simp only[ly];refine c_ rfl rfl (fun xw r q K s=>?_) (fun v10=>?_)
  ·obtain ⟨N,O,P,e,v⟩:=q 9 q_;obtain rfl:v9=_:=e;go_simp;exact s _ _ r K_ ⟨N,O,P,rfl,v⟩
  simp only[ly];refine c_ rfl rfl (fun xw r q K s=>?_) (fun v11=>?_)
  ·obtain ⟨N,O,P,e,v⟩:=q 10 q_;obtain rfl:v10=_:=e;go_simp;exact s _ _ r K_ ⟨N,O,P,rfl,v⟩
  simp only[ly];refine Z_ rfl (fun w=>r_.refl w) (fun xw q K s=>?_) (fun v12=>?_)
  ·obtain ⟨N,O,P,e,v⟩:=q 10 q_;obtain rfl:v10=_:=e;go_simp;exact s _ rfl
  simp only[ly];refine qP fun v13=>?_;simp only[ly];refine z_ (fun xw r q K s=>?_) (fun v14=>?_)
  ·obtain rfl:v13=_:=q 13 q_;obtain ⟨N,O,P,e,v⟩:=q 11 q_;obtain rfl:v11=_:=e;have j:s_ V xw:=r;obtain ⟨B1,j1,f1,rfl⟩:=v.1.cap;obtain ⟨B2,j2,f2,rfl⟩:=v.2.1.cap;obtain ⟨B3,j3,f3,rfl⟩:=v.2.2.cap;have o:=m.step j;have a7:=LW.there o.lists a8 (p:=0) (n:=3) O_;rw [Nat.add_zero] at a7;have a6:k≠w/\k≠w+1:=by have:=o.o1;have:=o.o2;have:=o.o3;omega
   refine aS (ops:=#[]) rfl (nK rfl 119 (.tmp 28) (.tmp 26) rfl k (t*3) #[S_ B1 j1 f1,S_ B2 j2 f2,S_ B3 j3 f3] rfl rfl a7 dD (rF) ?_);refine s undef _ ⟨o.putLists (L_ xw k (t*3) _) (o.lists.set a8 ⟨_,_,_,rfl,v⟩) A_,?_,?_,?_⟩ (r_.of_setCells _ _ _ _ (fun h=>h.2.2.2.1 rfl)) trivial
   ·exact (v_ k _ (t*3) xw (w) a6.1.symm).trans (h_ x j)
   ·exact (v_ k _ (t*3) xw (w+1) a6.2.symm).trans (h_ Y j)
   ·exact aY (e_ a0 j) (by have:=o.o1;have:=o.o2;have:=o.o3;omega) _ _
  simp only[ly];refine G_ ?_;intro wz hD hG;clear hG;go_wp2;go_meet
  case rel=>exact hD
 case rest=>
  clear x0 x1 x2 x3 X x5 x6 l0 l1 l2 I y x Y a0;obtain ⟨a2,ag,a3,a4⟩:=hcut;obtain ⟨o,Z,af⟩:=eI a2 a3 a4;clear a2 a3 a4;obtain ⟨x0,x1,x2,x3,X,x5,x6⟩:=T_ ag
  go_wp2_with (refine Q_ rfl (.tmp 4) (.tmp 29) rfl rfl rfl rfl Z rfl ?_)
  show bodyPost prog f154 _ _ _ _
  refine bodyPost_ret (jT rfl rfl (setRow_heap _ _ _ _ _ _ Z)) rfl ?_;refine ⟨gf,_,B,gr,_,D,_,_,k,_,cl,gk,nk,ck,_,rfl,?_,d_ af.out O_ _⟩;exact (o.setRow (w+1) (D_ (o_ gf) nf B (o_ gr) C.frames.length D E n3 Q F L R (o_ k) C.lists.length cl (o_ gk) nk ck G M U) (fun J=>(s1 _ J).2.2 rfl) O_).weak O_ (fun z J=>(s1 z J).1) hS
end
section
def eK (P:Ck->Prop) (S:Nat->Prop) (w:World) (en:Ending) (w':World):Prop:=∃C' err a b c d e f g,P C'/\en = .returned (.tuple #[bK a b c d e f g,I_ err])/\x_ w' S a b c d e f g C'/\s_ w w'
theorem aG {fn:Func} {p q:Tmp} (h:fn.results=#[.cell p 30,.tmp q]) {tmps:Array Value} {g:Nat} {t:TypeId} {x0 x1 x2 x3 x4 x5 x6:Value} {fr:Nat × Nat} {u:Value}
  (hp:tmps.getD p undef = P_ g) (hq:tmps.getD q undef=u) (hg:w.heap[g]?=some (.cells #[x0,x1,x2,x3,x4,x5,x6] t fr)):(results fn tmps).run prog w = .ok (.tuple #[bK x0 x1 x2 x3 x4 x5 x6,u]) w:=
 c0_ h tmps t fr u hp hq hg underlying30 rfl cD
structure jE (x:Fr):Prop where
 page:0<=x.page/\x.page<8
 tenant:0<=x.tenant/\x.tenant<2
 pg:iM x.pg
 holds:0<=x.holds/\x.holds<=255
 reading:0<=x.reading/\x.reading<=3
 writing:0<=x.writing/\x.writing<=3
structure fG (C:Ck) (i:Nat) (x:Fr) (j:Nat) (y:Fl):Prop where
 fr:C.frames[i]?=some x
 fl:C.files[j]?=some y
 ix:x.file=j
 ok:jE x
theorem fG.used {x:Fr} {y:Fl} (h:fG C i x j y):uR x=true:=by
 show (x.file != -1)=true
 rw [h.ix];exact bne_iff_ne.2 O_
def DwF (x:Fr):Prop:=x.pg.dirty≠0\/x.writing≠0
def rN (e:Nat->Int) (C:Ck):Prop:=∀(i:Nat) (x:Fr) (j:Nat),C.frames[i]?=some x->x.file=(j:Int)->DwF x->x.page*16<e j
def Szs (e:Nat->Int) (C:Ck):Prop:=∀(j:Nat) (y:Fl),C.files[j]?=some y->y.size=e j
def rP (C C':Ck):Prop:=∀(j:Nat) (y':Fl),C'.files[j]?=some y'->∃y,C.files[j]?=some y/\y'.size=y.size
def Dw (C:Ck):Prop:=∃e,rN e C/\Szs e C
theorem rN.same (h:rN e C) (hf:C'.frames=C.frames):rN e C':=fun i x j hx=>h i x j (by rw [<-hf];exact hx)
theorem rN.set {i:Nat} {x':Fr} (h:rN e C) (hf:C'.frames=C.frames.set i x') (hx:∀j:Nat,x'.file=(j:Int)->DwF x'->x'.page*16<e j):rN e C':=fun k x j hk hj hd=>by
 rw [hf,List.getElem?_set] at hk
 split at hk
 ·split at hk
  ·injection hk with hk
   subst hk;exact hx j hj hd
  ·cases hk
 ·exact h k x j hk hj hd
theorem rN.le {e':Nat->Int} (h:rN e C) (he:∀j,e j<=e' j):rN e' C:=fun i x j a b c=>Int.lt_of_lt_of_le (h i x j a b c) (he j)
theorem rN.put {C C':Ck} {x x':Fr} (h:rN e C) (hi:C.frames[i]?=some x) (hf:C'.frames=C.frames.set i x') (h1:x'.file=x.file) (h2:x'.page=x.page) (hd:DwF x'->DwF x):rN e C':=
 h.set hf fun j hj hw=>by rw [h2];exact h i x j hi (h1 ▸ hj) (hd hw)
theorem rP.refl (C:Ck):rP C C:=fun _ y h=>⟨y,h,rfl⟩
theorem rP.trans {C2:Ck} (h:rP C C') (h2:rP C' C2):rP C C2:=fun j y hy=>by
 obtain ⟨y1,a,b⟩:=h2 j y hy;obtain ⟨y0,c,d⟩:=h j y1 a;exact ⟨y0,c,b.trans d⟩
theorem rP.same (h:C'.files=C.files):rP C C':=fun j y hy=>⟨y,by rw [<-h];exact hy,rfl⟩
theorem rP.set {y y':Fl} (hj:C.files[j]?=some y) (hf:C'.files=C.files.set j y') (hs:y'.size=y.size):rP C C':=fun k u hu=>by
 rw [hf,List.getElem?_set] at hu
 split at hu
 ·rename_i e
  subst e
  split at hu
  ·injection hu with hu
   subst hu;exact ⟨y,hj,hs⟩
  ·cases hu
 ·exact ⟨u,hu,rfl⟩
theorem Szs.of (h:Szs e C) (hf:rP C C'):Szs e C':=fun j y hy=>by
 obtain ⟨y0,a,b⟩:=hf j y hy;exact b.trans (h j y0 a)
theorem Dw.of (h:Dw C) (hd:∀e,rN e C->rN e C') (hf:rP C C'):Dw C':=by
 obtain ⟨e,h1,h2⟩:=h;exact ⟨e,hd e h1,h2.of hf⟩
theorem Dw.resize {y y':Fl} (hs:Szs e C) (hj:C.files[j]?=some y) (hf:C'.files=C.files.set j y') (hd:rN (fun k=>if k=j then y'.size else e k) C'):Dw C':=by
 refine ⟨_,hd,fun k u a=>?_⟩;rw [hf,List.getElem?_set] at a
 split at a
 ·rename_i e
  subst e
  split at a
  ·injection a with a
   subst a;rw [if_pos rfl]
  ·cases a
 ·rename_i e
  rw [if_neg (fun q=>e q.symm)];exact hs k u a
def wT (C:Ck) (i j:Nat) (x:Fr) (y:Fl) (C':Ck):Prop:=C'=C\/∃x',jE x'/\(DwF x'->DwF x)/\x'.file=x.file/\x'.page=x.page/\x'.tenant=x.tenant/\C'=cP C i j y x'
theorem hy_ {x:Fr} {y:Fl} (n:Int) {b c e f:Value} (h:x_ w S a b c d e f g C) (hl:kT C) (hu:fG C i x j y) (hn:-255<=n/\n<=255) (hS:∀z,w.heap.size<=z->S z) :
  C_ 167 #[bK a b c d e f g,I_ ((i:Int)+1),I_ n] w (eK (wT C i j x y) S w):=by
 obtain ⟨S1,s1,s2,s3⟩:=iA hS;replace h:=h.weak s3;clear s3;have L:=fun w' (hb:s_ w w')=>jV i x (h.step hb) hu.fr hl.frames.2;rw [hu.used] at L;obtain ⟨A1,ac,rfl,q1,q2⟩:=h.files.form;obtain ⟨A2,ad,rfl,q3,q4⟩:=h.frames.form;obtain ⟨A3,m3,c3,A4,m4,c4,A5,m5,c5,A6,m6,c6,A7,m7,c7,rfl,rfl,rfl,rfl,rfl⟩:=x_.caps5 h;obtain ⟨bb,o,rfl,a5,N,O,P,Q,R,U,V,X,Y⟩:=FrA.cells h.frames hu.fr;obtain ⟨bf,of,kt,KB,kc,rfl,ae,k1,k2,k3,k4,af⟩:=FlA.cells h.files hu.fl;have a7:=bI hu.fr;have ag:=bI hu.fl;have i2:(i:Int)<(C.frames.length:Int):=O_
 have ai:C.frames.length<=100:=hl.frames.2;have ah:C.files.length<=100:=hl.files.2;have j2:(j:Int)<(C.files.length:Int):=O_
 obtain ⟨H,HL,k⟩:=eI h hl hu;clear h hl hu k1 k2 k3 k4;obtain ⟨n1,n2⟩:=hn;obtain ⟨g1,g2⟩:=k.ok.holds;have d1:decide (n < -255)=false:=dF O_;have d2:decide (255<n)=false:=dF O_;go_enter func167,ntmps167
 go_upto_region 1 with fail
 generalize hW9:(w.alloc _).alloc _=W;obtain ⟨HX,HR,HW,HZ⟩:=dJ hW9;clear hW9;have a2:=HW.out;obtain ⟨x0,s,t,u,v,A,B⟩:=T_ HX.out
 go_upto_region 3 with (go_at_call 37;(with_reducible refine CM (L _ (by assumption)) ?_);rintro e w1 ⟨rfl,p⟩;obtain ⟨I,a1,F⟩:=bC HX HR HW p;have aa:=p.size;clear p)
 clear x0 s t u v A B a2;obtain ⟨x0,s,t,u,v,A,B⟩:=T_ I.out;have a8:=kt9 (F.block _ a5) N O P Q R U V X Y;clear N O P Q R U V X Y;obtain ⟨N,O,P,Q,R,U,V,X,Y⟩:=a8
 go_upto_region 4 with fail
 generalize hW9:w1.alloc _=W2;have HF:=nah hW9;have J:=oZ hW9 I;have l:=oZ hW9 a1;have m:=lah hW9 F;clear hW9;clear x0 s t u v A B N O P Q R U V X Y;obtain ⟨x0,s,t,u,v,A,B⟩:=T_ J.out;obtain ⟨f0,f1,f2,f3,f4,f5,f6,f7,f8⟩:=iQ HF.out
 by_cases q:x.holds+n<0\/255<x.holds+n
 ·have a9:=H_ q;have M:decide (x.holds+n<0)=true\/decide (x.holds+n<0)=false/\decide (255<x.holds+n)=true:=by
   rcases q with q | q
   ·exact .inl (dT q)
   ·by_cases h0:x.holds+n<0
    ·exact .inl (dT h0)
    ·exact .inr ⟨dF h0,dT q⟩
  clear q
  rcases M with M | ⟨M,d4⟩
  all_goals
   go_wp2_with (refine Q_ rfl (.tmp 6) (.tmp 40) rfl rfl rfl rfl l rfl ?_)
   show bodyPost prog f167 _ _ _ _
   refine bodyPost_ret (aG rfl rfl rfl (setRow_heap _ _ _ _ _ _ l)) rfl ?_;exact ⟨C,_,_,_,_,_,_,_,_,.inl rfl,rfl,(H.step (d_ m.out O_ _)).weak (fun z _ r=>(s1 z r).1),d_ m.out O_ _⟩
 ·have M:decide (x.holds+n<0)=false:=dF O_;have d4:decide (255<x.holds+n)=false:=dF O_;have a6:=t_ HF 6
  go_upto_region 7 with fail
  generalize hW9:W2.setCell _ _=W3;have a0:=scs hW9 HF;have a4:=sI hW9 J;have D:=sI hW9 l;have G:=scl hW9 m;clear hW9;clear x0 s t u v A B f0 f1 f2 f3 f4 f5 f6 f7 f8 a6;obtain ⟨x0,s,t,u,v,A,B⟩:=T_ a4.out;obtain ⟨f0,f1,f2,f3,f4,f5,f6,f7,f8⟩:=iQ a0.out;have ab:w.heap.size+1<W3.heap.size:=n_ D
  go_wp2_with (first
   | (go_at_call 55;(with_reducible refine CM (fE i j (⟨x.file,x.page,x.pg,x.tenant,x.holds+n,x.reading,x.writing⟩) y (H.out.step G.out) HL.out a7 k.out.fl k.out.ix (fun z r=>s2 z (by omega))) ?_);rintro e w4 ⟨gf,nf,cf,gr,nr,cr,c',d',gl,nl,cl,gk,nk,ck,g',rfl,eJ,K⟩;obtain ⟨P3,n3,r3,rfl⟩:=eJ.zones.cap;obtain ⟨P4,n4,r4,rfl⟩:=eJ.groups.cap;obtain ⟨P7,n7,r7,rfl⟩:=eJ.ptes.cap;obtain ⟨E,a3⟩:=jN D G K;have Z:=H_ eJ;clear eJ K)
   | (refine Q_ rfl (.tmp 6) (.tmp 49) rfl rfl rfl rfl E rfl ?_))
  show bodyPost prog f167 _ _ _ _
  refine bodyPost_ret (aG rfl rfl rfl (setRow_heap _ _ _ _ _ _ E)) rfl ?_;refine ⟨cP C i j y (⟨x.file,x.page,x.pg,x.tenant,x.holds+n,x.reading,x.writing⟩),_,_,_,_,_,_,_,_,?_,rfl,((Z.setRow (w+1) (oY gf nf cf gr nr cr (S_ P3 n3 r3) (S_ P4 n4 r4) gl nl cl gk nk ck (S_ P7 n7 r7)) (fun r=>(s1 _ r).2.2 rfl) O_).weak O_ (fun z r=>(s1 z r).1) hS).at_,d_ a3.out O_ _⟩;exact .inr ⟨{x with holds:=x.holds+n},⟨k.ok.page,k.ok.tenant,k.ok.pg,⟨by show 0<=x.holds+n;omega,by show x.holds+n<=255;omega⟩,k.ok.reading,k.ok.writing⟩,fun h=>h,rfl,rfl,rfl,rfl⟩
end
section
theorem or3 {a b:Int} (ha:0<=a/\a<=3) (hb:0<=b/\b<=3):0<=bits .or .i64 a b/\bits .or .i64 a b<=3:=by
 obtain rfl | rfl | rfl | rfl:a=0\/a=1\/a=2\/a=3:=O_
 all_goals (obtain rfl | rfl | rfl | rfl:b=0\/b=1\/b=2\/b=3:=by omega) <;> decide
theorem rZ {x:Fr} {y:Fl} (n:Int) {b c e f:Value} (h:x_ w S a b c d e f g C) (hl:kT C) (hu:fG C i x j y) (hn:1<=n/\n<=3) (hS:∀z,w.heap.size<=z->S z) :
  C_ 90 #[bK a b c d e f g,I_ ((i:Int)+1),I_ n] w (eK (wT C i j x y) S w):=by
 obtain ⟨S1,s1,s2,s3⟩:=iA hS;replace h:=h.weak s3;clear s3;have M:=fun w' (hb:s_ w w')=>jV i x (h.step hb) hu.fr hl.frames.2;rw [hu.used] at M;obtain ⟨A1,ad,rfl,q1,q2⟩:=h.files.form;obtain ⟨A2,ae,rfl,q3,q4⟩:=h.frames.form;obtain ⟨A3,m3,c3,A4,m4,c4,A5,m5,c5,A6,m6,c6,A7,m7,c7,rfl,rfl,rfl,rfl,rfl⟩:=x_.caps5 h;obtain ⟨bb,o,rfl,a3,N,O,P,Q,R,U,V,X,Y⟩:=FrA.cells h.frames hu.fr;obtain ⟨bf,of,kt,KB,kc,rfl,af,k1,k2,k3,k4,ag⟩:=FlA.cells h.files hu.fl;have a5:=bI hu.fr;have ah:=bI hu.fl;have i2:(i:Int)<(C.frames.length:Int):=O_
 have aj:C.frames.length<=100:=hl.frames.2;have ai:C.files.length<=100:=hl.files.2;have j2:(j:Int)<(C.files.length:Int):=O_
 obtain ⟨H,HL,k⟩:=eI h hl hu;clear h hl hu k1 k2 k3 k4;obtain ⟨n1,n2⟩:=hn;have d1:decide (n<1)=false:=dF O_;have d2:decide (3<n)=false:=dF O_;go_enter func90,ntmps90
 go_upto_region 1 with fail
 generalize hW9:(w.alloc _).alloc _=W;obtain ⟨HX,HR,HW,HZ⟩:=dJ hW9;clear hW9;have a1:=HW.out;obtain ⟨x0,s,t,u,v,A,B⟩:=T_ HX.out
 go_upto_region 3 with (go_at_call 37;(with_reducible refine CM (M _ (by assumption)) ?_);rintro e w1 ⟨rfl,p⟩;obtain ⟨J,a0,G⟩:=bC HX HR HW p;have ab:=p.size;clear p)
 clear x0 s t u v A B a1;obtain ⟨x0,s,t,u,v,A,B⟩:=T_ J.out;have a6:=kt9 (G.block _ a3) N O P Q R U V X Y;clear N O P Q R U V X Y;obtain ⟨N,O,P,Q,R,U,V,X,Y⟩:=a6
 go_upto_region 4 with fail
 generalize hW9:w1.alloc _=W2;have HF:=nah hW9;have K:=oZ hW9 J;have l:=oZ hW9 a0;have m:=lah hW9 G;clear hW9;clear x0 s t u v A B N O P Q R U V X Y;obtain ⟨x0,s,t,u,v,A,B⟩:=T_ K.out;obtain ⟨f0,f1,f2,f3,f4,f5,f6,f7,f8⟩:=iQ HF.out;have a9:w.heap.size<=w1.heap.size/\w.heap.size+1<w1.heap.size:=⟨O_,O_⟩
 cases d3:bits .and .i64 n (bits .or .i64 x.pg.valid x.reading) != 0 with
 | true=>
  go_wp2_with (refine Q_ rfl (.tmp 6) (.tmp 37) rfl rfl rfl rfl l rfl ?_)
  show bodyPost prog f90 _ _ _ _
  refine bodyPost_ret (aG rfl rfl rfl (setRow_heap _ _ _ _ _ _ l)) rfl ?_;exact ⟨C,_,_,_,_,_,_,_,_,.inl rfl,rfl,(H.step (d_ m.out O_ _)).weak (fun z _ r=>(s1 z r).1),d_ m.out O_ _⟩
 | false=>
  have a4:=t_ HF 7
  go_upto_region 7 with fail
  generalize hW9:W2.setCell _ _=W3;have D:=scs hW9 HF;have L:=sI hW9 K;have E:=sI hW9 l;have I:=scl hW9 m;clear hW9;clear x0 s t u v A B f0 f1 f2 f3 f4 f5 f6 f7 f8;clear a4 d3;obtain ⟨x0,s,t,u,v,A,B⟩:=T_ L.out;obtain ⟨f0,f1,f2,f3,f4,f5,f6,f7,f8⟩:=iQ D.out;have ac:w.heap.size+1<W3.heap.size:=n_ E
  go_wp2_with (first
   | (go_at_call 55;(with_reducible refine CM (fE i j (⟨x.file,x.page,x.pg,x.tenant,x.holds,bits .or .i64 x.reading n,x.writing⟩) y (H.out.step I.out) HL.out a5 k.out.fl k.out.ix (fun z r=>s2 z (by omega))) ?_);rintro e w4 ⟨gf,nf,cf,gr,nr,cr,c',d',gl,nl,cl,gk,nk,ck,g',rfl,eJ,q⟩;obtain ⟨P3,n3,r3,rfl⟩:=eJ.zones.cap;obtain ⟨P4,n4,r4,rfl⟩:=eJ.groups.cap;obtain ⟨P7,n7,r7,rfl⟩:=eJ.ptes.cap;obtain ⟨F,a8,aa,a2⟩:=dU E D L I q;have Z:=H_ eJ;have a7:=H_ q;clear eJ q)
   | (refine Q_ rfl (.tmp 6) (.tmp 46) rfl rfl rfl rfl F rfl ?_))
  show bodyPost prog f90 _ _ _ _
  refine bodyPost_ret (aG rfl rfl rfl (setRow_heap _ _ _ _ _ _ F)) rfl ?_;refine ⟨cP C i j y (⟨x.file,x.page,x.pg,x.tenant,x.holds,bits .or .i64 x.reading n,x.writing⟩),_,_,_,_,_,_,_,_,?_,rfl,((Z.setRow (w+1) (oY gf nf cf gr nr cr (S_ P3 n3 r3) (S_ P4 n4 r4) gl nl cl gk nk ck (S_ P7 n7 r7)) (fun r=>(s1 _ r).2.2 rfl) O_).weak O_ (fun z r=>(s1 z r).1) hS).at_,d_ a2.out O_ _⟩;exact .inr ⟨⟨x.file,x.page,x.pg,x.tenant,x.holds,bits .or .i64 x.reading n,x.writing⟩,⟨k.ok.page,k.ok.tenant,k.ok.pg,k.ok.holds,or3 k.ok.reading ⟨O_,O_⟩,k.ok.writing⟩,fun h=>h,rfl,rfl,rfl,rfl⟩
end
end Go.Proofs.YtehfhnbpnaiogaaGreatDoor
