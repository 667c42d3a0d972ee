/-
  Lemmas and contracts for the laws of this seat, part 19; several texts joined by a program.
-/
import Derived.Test.YtehfhnbpnaiogaaGreatDoorE18
import Derived.Test.YtehfhnbpnaiogaaGreatDoorE00
import Derived.Defers
import Derived.LoopIn
import Derived.LoopNIn
import Derived.OwnWalkIn
import Derived.RangeFuncBound
import Derived.RangeFuncCalls
import Derived.RangeFuncFrom
import Derived.RangeFuncLeaves
import Derived.Recover
import Derived.Shelf.Abstract
import Derived.Shelf.RegionOpen
import Derived.TacticsInMore
import Derived.WalkKit
namespace Go.Proofs.YtehfhnbpnaiogaaGreatDoor
set_option linter.unusedVariables false
set_option linter.unusedSimpArgs false
set_option maxRecDepth 100000
set_option maxHeartbeats 16000000
open Go.RowKit Go.Proofs.Tryz IntKind
variable {B X cf cr gf gr i j nf nr:Nat} {C:Ck} {L:List Pt} {Pr:Ck->Value->Int->Prop} {S:Nat->Prop} {V W w w':World} {a b c d e f g u v:Value} {cs rq tmps:Array Value} {fn:Func} {p q r:Tmp} {x:Fr} {y:Fl}
section
theorem cm_ (i j:Nat) (x:Fr) (y:Fl) (kind sc:Int) (fi co:Nat) (dd:ByteArray) {kf:Nat} (hKK:PgK kf cs) (h:x_ w S a b c d e f g C) (hi:C.frames[i]?=some x) (hx:x.file=j) (hj:C.files[j]?=some y) (hl:C.frames.length<=100) (hs:0<=y.slot/\y.slot<7) (hp:0<=x.page/\x.page<8) (hdb:qM w)
  (hsc:(sc=1/\(fi:Int)=0/\(co:Int)=1)\/(sc=2/\(fi:Int)=1/\(co:Int)=1)\/(sc=3/\(fi:Int)=0/\(co:Int)=2)) (hd0:∀w',q_ w w'->Calls prog kf (#[I_ (fi:Int),I_ (co:Int)] ++ cs) w' (iJ (.string dd) w')) :
  C_ 46 #[cI a b c d e f g,I_ ((i:Int)+1),I_ kind,I_ sc,.func (.func kf) #[] cs] w (iJ (.agg (bJ 0 x.tenant y.dev kind (y.slot*18+2+x.page*2+(fi:Int)) (co:Int) dd false false 0)) w):=by
 have a6:=fun w' (hb:q_ w w')=>sY sc fi co (hdb.step hb) hsc;have ab:=fun w'=>vU y.slot x.page w' hs hp;have am:=fA (x:=y.slot*18+2+x.page*2+(fi:Int)) O_;obtain ⟨A1,u,rfl,q1,q2⟩:=h.files.form;obtain ⟨A2,v,rfl,q3,q4⟩:=h.frames.form;obtain ⟨P,m3,c3,Q,m4,c4,R,m5,c5,U,m6,c6,V,m7,c7,rfl,rfl,rfl,rfl,rfl⟩:=x_.caps5 h;obtain ⟨bb,o,rfl,a4,y0,y1,y2,y3,y4,y5,y6,y7,y8⟩:=FrA.cells h.frames hi;obtain ⟨O,of,kt,KB,kc,rfl,a3,k1,k2,k3,k4,a5⟩:=FlA.cells h.files hj;have ai:=bK hi;have aj:=bK hj;have i2:(i:Int)<(C.frames.length:Int):=O_
 have i4:(i:Int)+1<=100:=O_
 have j2:(j:Int)<(C.files.length:Int):=O_
 have j0:(0:Int)<=(j:Int):=O_
 rw [hx] at y0;clear h hi hj k1 k2 k3 k4 hdb hs hp hx hsc;have HX:=H_ (m_ (m_ (g_ w (.cells (E_ (some ⟨O,of,none⟩) C.files.length u (some ⟨bb,o,none⟩) C.frames.length v P m3 c3 Q m4 c4 R m5 c5 U m6 c6 V m7 c7) 30)) (.cells #[.func (.func kf) #[] cs] 101)) (lK));have HN:=H_ (m_ (l_ (w.alloc (.cells (E_ (some ⟨O,of,none⟩) C.files.length u (some ⟨bb,o,none⟩) C.frames.length v P m3 c3 Q m4 c4 R m5 c5 U m6 c6 V m7 c7) 30)) (.cells #[.func (.func kf) #[] cs] 101) (w+1) z_) (lK));have HR:=H_ (l_ ((w.alloc (.cells (E_ (some ⟨O,of,none⟩) C.files.length u (some ⟨bb,o,none⟩) C.frames.length v P m3 c3 Q m4 c4 R m5 c5 U m6 c6 V m7 c7) 30)).alloc (.cells #[.func (.func kf) #[] cs] 101)) (lK) (w+1+1) z_);have M:=H_ (b_ (b_ (b_ (aI (w) w) (.cells (E_ (some ⟨O,of,none⟩) C.files.length u (some ⟨bb,o,none⟩) C.frames.length v P m3 c3 Q m4 c4 R m5 c5 U m6 c6 V m7 c7) 30)) (.cells #[.func (.func kf) #[] cs] 101)) (lK));go_enter func46,ntmps46
 go_upto_region 1 with fail
 generalize ((w.alloc (.cells (E_ (some ⟨O,of,none⟩) C.files.length u (some ⟨bb,o,none⟩) C.frames.length v P m3 c3 Q m4 c4 R m5 c5 U m6 c6 V m7 c7) 30)).alloc (.cells #[.func (.func kf) #[] cs] 101)).alloc (lK)=z at HX HN HR M;obtain ⟨x0,x1,x2,x3,x4,x5,x6⟩:=aF HX.out;have ad:=kt9 (M.block _ a4) y0 y1 y2 y3 y4 y5 y6 y7 y8;clear y0 y1 y2 y3 y4 y5 y6 y7 y8;obtain ⟨y0,y1,y2,y3,y4,y5,y6,y7,y8⟩:=ad;obtain ⟨z0,z1,-⟩:=zc (M.block _ a3) a5;have af:O<z:=iS a3 M.size;have ag:bb<z:=iS a4 M.size;have an:=p_ HX;clear a5
 go_upto_region 3 with fail
 have HP:=H_ (m_ (g_ z (.cells (fG (j:Int) x) 85)) (.cells #[I_ y.dev,I_ y.slot] 53));have HL:=H_ (l_ (z.alloc (.cells (fG (j:Int) x) 85)) (.cells #[I_ y.dev,I_ y.slot] 53) (z+1) z_);have H:=H_ (m_ (m_ HN (.cells (fG (j:Int) x) 85)) (.cells #[I_ y.dev,I_ y.slot] 53));have J:=H_ (m_ (m_ HR (.cells (fG (j:Int) x) 85)) (.cells #[I_ y.dev,I_ y.slot] 53));have D:=H_ (b_ (b_ M (.cells (fG (j:Int) x) 85)) (.cells #[I_ y.dev,I_ y.slot] 53));have ac:((z.alloc (.cells (fG (j:Int) x) 85)).alloc (.cells #[I_ y.dev,I_ y.slot] 53)).heap.size=z.heap.size+2:=z_
 generalize (z.alloc (.cells (fG (j:Int) x) 85)).alloc (.cells #[I_ y.dev,I_ y.slot] 53)=V2 at HP HL H J D ac;clear x0 x1 x2 x3 x4 x5 x6 y0 y1 y2 y3 y4 y5 y6 y7 y8 z0 z1 HX HN HR M
 go_upto_region 4 with (go_at_call 45;(with_reducible refine CM (a6 _ D.out) ?_);rintro e w3 ⟨rfl,r⟩)
 have t:=H_ (m_ (m_ (i_ HP r) (.cells #[I_ (fi:Int)] 3)) (.cells #[I_ (co:Int)] 3));have s:=H_ (m_ (m_ (i_ HL r) (.cells #[I_ (fi:Int)] 3)) (.cells #[I_ (co:Int)] 3));have I:=H_ (m_ (m_ (i_ H r) (.cells #[I_ (fi:Int)] 3)) (.cells #[I_ (co:Int)] 3));have L:=H_ (m_ (m_ (i_ J r) (.cells #[I_ (fi:Int)] 3)) (.cells #[I_ (co:Int)] 3));have E:=H_ (b_ (b_ (d_ D r) (.cells #[I_ (fi:Int)] 3)) (.cells #[I_ (co:Int)] 3));have B:=H_ (m_ (g_ w3 (.cells #[I_ (fi:Int)] 3)) (.cells #[I_ (co:Int)] 3));have A:=H_ (l_ (w3.alloc (.cells #[I_ (fi:Int)] 3)) (.cells #[I_ (co:Int)] 3) (w3+1) z_);generalize (w3.alloc (.cells #[I_ (fi:Int)] 3)).alloc (.cells #[I_ (co:Int)] 3)=F at t s I L E B A;clear HP HL H J D r a6;obtain ⟨f0,f1,f2,f3,f4,f5,f6,f7,f8⟩:=sE t.out;have l0:=a_ s 0;have l1:=a_ s 1;have n0:=a_ I 0;have p0:=a_ B 0;have p1:=a_ A 0;simp only[zl] at l0 l1 n0 p0 p1;refine T_ 13 50 [SP.eq (.agg #[I_ y.dev,I_ y.slot]),SP.eq (I_ kind),SP.eq (.pointer (some ⟨z+1,1,none⟩)),SP.eq (I_ y.slot),SP.eq (.pointer (some ⟨z,1,none⟩)),SP.eq (I_ x.page),SP.eq (I_ (y.slot*18+2+x.page*2)),SP.eq (I_ (fi:Int)),SP.eq (I_ (y.slot*18+2+x.page*2+(fi:Int))),SP.eq (I_ (co:Int)),SP.eq (.func (.func 118) #[] #[P_ (w+1),P_ (w3),P_ (w3+1)]),SP.eq (.agg (bJ 0 0 y.dev kind (y.slot*18+2+x.page*2+(fi:Int)) (co:Int) dd false false 0)),SP.bx (F) (lK)] s_ s_ rfl ?_
 simp only[vK];refine e_ (fun q k n K p=>?_) (fun v0=>?_)
 ·obtain ⟨q0,q1⟩:=kt2 ((show q_ F q from k).block _ (p_ s.out)) l0 l1;go_simp;exact p _ _ k B_ rfl
 simp only[ly];refine qC fun v1=>qC fun v2=>?_;simp only[ly];refine e_ (fun q k n K p=>?_) (fun v3=>?_)
 ·obtain rfl:v2=_:=n 2 s_;have q0:=(c_ ((show q_ F q from k).block _ (p_ s))).trans l1;go_simp;exact p _ _ k B_ rfl
 simp only[ly];refine qC fun v4=>?_;simp only[ly];refine e_ (fun q k n K p=>?_) (fun v5=>?_)
 ·obtain rfl:v4=_:=n 4 s_;have q0:=(c_ ((show q_ F q from k).block _ (p_ t))).trans f1;go_simp;exact p _ _ k B_ rfl
 simp only[ly];refine e_ (fun q k n K p=>?_) (fun v6=>?_)
 ·obtain rfl:v3=_:=n 3 s_;obtain rfl:v5=_:=n 5 s_;go_simp
  go_at_call 117
  refine (ab q).mono ?_;rintro e w1 ⟨rfl,rfl⟩;exact p _ _ k B_ rfl
 simp only[ly];refine e_ (fun q k n K p=>?_) (fun v7=>?_)
 ·skip
  have q0:=(c_ ((show q_ F q from k).block _ (p_ B))).trans p0;go_simp;exact p _ _ k B_ rfl
 simp only[ly];refine qC fun v8=>?_;simp only[ly];refine e_ (fun q k n K p=>?_) (fun v9=>?_)
 ·skip
  have q0:=(c_ ((show q_ F q from k).block _ (p_ A))).trans p1;go_simp;exact p _ _ k B_ rfl
 simp only[ly];refine qC fun v10=>?_;simp only[ly];refine e_ (fun q k n K p=>?_) (fun v11=>?_)
 ·obtain rfl:v0=_:=n 0 s_;obtain rfl:v1=_:=n 1 s_;obtain rfl:v8=_:=n 8 s_;obtain rfl:v9=_:=n 9 s_;obtain rfl:v10=_:=n 10 s_;have m:q_ F q:=k;go_simp
  go_at_call 75
  refine (uY y.dev y.slot kind _ (co:Int) (.inl ⟨w+1,w3,w3+1,rfl,rfl⟩) dd q (fun q' G=>e4_ (fi:Int) (co:Int) hKK dd ((c_ ((d_ m G).block _ (p_ I))).trans n0) ((c_ ((d_ m G).block _ (p_ B))).trans p0) ((c_ ((d_ m G).block _ (p_ A))).trans p1) (hd0 q' (d_ E (d_ m G))))).mono ?_;rintro e w1 ⟨rfl,a2⟩;exact p _ _ (d_ m a2) a2 rfl
 simp only[ly];refine e_ (fun q k n K p=>?_) (fun v12=>?_)
 ·have m:q_ F q:=k;go_simp;exact p _ _ (b_ m _) (b_ B_ _) ⟨_,rfl,m.size,heap_alloc_new _ _⟩
 simp only[ly];refine aA ?_;intro q k hG;obtain rfl:v11=_:=hG 11 O_;obtain ⟨Z,aa,ah,hZ⟩:=hG 12 O_;obtain rfl:v12=_:=aa;have HC:=H_ (show q_ F q from k);have HZ:=H_ hZ;have W:=H_ (i_ t HC);have X:=H_ (i_ L HC);have a0:=H_ (d_ E HC);have ak:=p_ t;have al:=p_ L;clear hG k hZ f0 f1 f2 f3 f4 f5 f6 f7 f8 l0 l1 n0 p0 p1
 go_upto_region 5 with (refine cV rfl 37 (.tmp 15) (.tmp 45) rfl rfl Z (bJ 0 0 y.dev kind (y.slot*18+2+x.page*2+(fi:Int)) (co:Int) dd false false 0) rfl rfl 37 _ HZ bT rfl (dX) ?_)
 have a1:=H_ (j_ a0 (by have:=E.size;omega:w.heap.size<=Z) (bJ 0 0 y.dev kind (y.slot*18+2+x.page*2+(fi:Int)) (co:Int) dd false false 0));generalize hW9:q.setRow Z (bJ 0 0 y.dev kind (y.slot*18+2+x.page*2+(fi:Int)) (co:Int) dd false false 0)=V6 at a1;have N:=srs hW9 HZ;have a7:=srx hW9 W;have a8:=srx hW9 X;clear hW9;clear HZ W X a0 HC;obtain ⟨f0,f1,f2,f3,f4,f5,f6,f7,f8⟩:=sE a7.out;have u1:=a_ N 1;have ae:=t_ N 1;simp only[zl] at u1
 go_upto_region 6 with fail
 generalize hW9:V6.setCell _ _=V7;have l:=scs hW9 N;have Y:=scx hW9 a8;have a9:=scl hW9 a1;clear hW9;clear u1 ae f0 f1 f2 f3 f4 f5 f6 f7 f8;have u0:=a_ l 0;have u1:=a_ l 1;have u2:=a_ l 2;have u3:=a_ l 3;have u4:=a_ l 4;have u5:=a_ l 5;have u6:=a_ l 6;have u7:=a_ l 7;have u8:=a_ l 8;have u9:=a_ l 9;simp only[zl] at u0 u1 u2 u3 u4 u5 u6 u7 u8 u9
 go_wp2_with (refine cV rfl 37 (.tmp 10) (.tmp 49) rfl rfl (w+1+1) (bJ 0 x.tenant y.dev kind (y.slot*18+2+x.page*2+(fi:Int)) (co:Int) dd false false 0) rfl rfl 37 _ Y bT rfl (dX) ?_)
 show bodyPost prog f46 _ _ _ _
 refine bodyPost_ret (fm_ rfl rfl (setRow_heap _ _ _ _ _ _ Y)) rfl ?_;exact ⟨rfl,j_ a9.out O_ _⟩
end
section
def jt_ (v:Value) (w:World) (e:Ending) (w':World):Prop:=e = .returned v/\q_ w w'
theorem bC_ (n:Int) (w:World) (h:0<=n/\n<=3):C_ 174 #[I_ n] w (nK (.bool true) w):=by
 obtain ⟨h1,h2⟩:=h;go_enter func174,ntmps174;go_wp2;go_ret;exact ⟨rfl,rfl⟩
theorem by_ (d:ByteArray) (v y:Int) (w:World) (ok:jC ⟨d,v,y⟩):C_ 173 #[wV d v y] w (cP true w):=by
 obtain ⟨h1,h2,a,b⟩:=ok
 dsimp only at h1 h2 a b
 have f:((d.size:Int) == 16)=true:=by simp;omega
 have g:(bits .andNot .i64 y v == 0)=true:=by simp [b]
 have hv:=fun w'=>bC_ v w' h2;have c:=fun w'=>bC_ y w' a;clear h1 h2 a b;go_enter func173,ntmps173
 go_wp2_with (first
  | (go_at_call 174;(with_reducible refine CM (hv _) ?_);clear hv;rintro e w1 ⟨rfl,rfl⟩)
  | (go_at_call 174;(with_reducible refine CM (c _) ?_);rintro e w1 ⟨rfl,rfl⟩))
 go_ret;exact ⟨rfl,b_ B_ _⟩
theorem uU (d:ByteArray) (v y n:Int) (w:World) (ok:jC ⟨d,v,y⟩) (h:0<=n/\n<=3):C_ 119 #[wV d v y,I_ n] w (jt_ (I_ 0) w):=by
 have c:=fun w'=>by_ d v y w' ok;have g:=fun w'=>bC_ n w' h;have f:=H_ (b_ (aI (w) w) (.cells #[.string d,I_ v,I_ y] 83));clear ok h;go_enter func119,ntmps119
 go_wp2_with (first
  | (go_at_call 173;(with_reducible refine CM (c _) ?_);rintro e w1 ⟨rfl,a⟩;have b:=lU f a;clear a)
  | (go_at_call 174;(with_reducible refine CM (g _) ?_);rintro e w2 ⟨rfl,rfl⟩))
 go_ret;exact ⟨rfl,b⟩
theorem e8_ (d:ByteArray) (v y s:Int) (w:World) (ok:jC ⟨d,v,y⟩) (hs:0<=s/\s<=3):C_ 49 #[wV d v y,I_ s] w (zG (bR ⟨d,v,y⟩ s) 0 w):=by
 have g:=fun w'=>uU d v y s w' ok hs;have k:=H_ (m_ (g_ w (.cells #[.string d,I_ v,I_ y] 83)) (.cells #[.string ByteArray.empty,I_ 0,I_ 0] 83));have i:=H_ (l_ (w.alloc (.cells #[.string d,I_ v,I_ y] 83)) (.cells #[.string ByteArray.empty,I_ 0,I_ 0] 83) (w+1) z_);have j:=H_ (b_ (b_ (aI (w) w) (.cells #[.string d,I_ v,I_ y] 83)) (.cells #[.string ByteArray.empty,I_ 0,I_ 0] 83));clear ok;go_enter func49,ntmps49
 go_wp2_with (first
  | (go_at_call 119;(with_reducible refine CM (g _) ?_);rintro e w1 ⟨rfl,c⟩;obtain ⟨a,b,f⟩:=bN k i j c;clear c;obtain ⟨x0,o,p⟩:=cL a.out;have l:=t_ a 0;have m:=t_ a 1;have n:=t_ a 2)
  | (refine cV rfl 83 (.tmp 4) (.tmp 19) rfl rfl (w+1) #[.string d,I_ v,I_ (bits .andNot .i64 y s)] rfl rfl 83 _ (aM b.out _ _ z_) dB rfl (eX) ?_))
 show bodyPost prog f49 _ _ _ _
 refine bodyPost_ret (pR rfl rfl rfl (setRow_heap _ _ _ _ _ _ (aM b.out _ _ z_))) rfl ?_;exact ⟨rfl,j_ (bA f.out _ _ (aQ _)) O_ _⟩
theorem gX_ (d:ByteArray) (v y s:Int) (w:World) (ok:jC ⟨d,v,y⟩) (hs:0<=s/\s<=3):C_ 67 #[wV d v y,I_ s] w (zG (aK ⟨d,v,y⟩ s) 0 w):=by
 have g:=fun w'=>uU d v y s w' ok hs;have k:=H_ (m_ (g_ w (.cells #[.string d,I_ v,I_ y] 83)) (.cells #[.string ByteArray.empty,I_ 0,I_ 0] 83));have i:=H_ (l_ (w.alloc (.cells #[.string d,I_ v,I_ y] 83)) (.cells #[.string ByteArray.empty,I_ 0,I_ 0] 83) (w+1) z_);have j:=H_ (b_ (b_ (aI (w) w) (.cells #[.string d,I_ v,I_ y] 83)) (.cells #[.string ByteArray.empty,I_ 0,I_ 0] 83));clear ok;go_enter func67,ntmps67
 go_wp2_with (first
  | (go_at_call 119;(with_reducible refine CM (g _) ?_);rintro e w1 ⟨rfl,c⟩;obtain ⟨a,b,f⟩:=bN k i j c;clear c;obtain ⟨x0,o,p⟩:=cL a.out;have l:=t_ a 0;have m:=t_ a 1;have n:=t_ a 2)
  | (refine cV rfl 83 (.tmp 4) (.tmp 22) rfl rfl (w+1) #[.string d,I_ v,I_ (bits .or .i64 y (bits .and .i64 s v))] rfl rfl 83 _ (aM b.out _ _ z_) dB rfl (eX) ?_))
 show bodyPost prog f67 _ _ _ _
 refine bodyPost_ret (pR rfl rfl rfl (setRow_heap _ _ _ _ _ _ (aM b.out _ _ z_))) rfl ?_;exact ⟨rfl,j_ (bA f.out _ _ (aQ _)) O_ _⟩
theorem bx_ {c e:Int} (w:World) (ok:xH c e):C_ 129 #[erV c e] w (cP true w):=by
 obtain ⟨h1,h2,h3⟩:=ok
 by_cases hc:c=0
 ·have a:=h3.1 hc;subst hc a;clear h3;go_enter func129,ntmps129;go_wp2;go_ret;exact ⟨rfl,b_ B_ _⟩
 ·have a:¬e=0:=fun h=>hc (h3.2 h);have b:(c == 0)=false:=by simp [hc]
  have d:(e == 0)=false:=by simp [a]
  clear h3;go_enter func129,ntmps129;go_wp2;go_ret;exact ⟨rfl,b_ B_ _⟩
theorem di_ {c e:Int}(err:Int) (w:World) (ok:xH c e) (herr:err≠0):C_ 68 #[erV c e,I_ err] w (jk_ (kF c e err) w):=by
 have g:=fun w'=>bx_ w' ok;have l:=H_ (m_ (g_ w (.cells #[I_ c,I_ e] 60)) (.cells #[I_ 0,I_ 0] 60));have j:=H_ (l_ (w.alloc (.cells #[I_ c,I_ e] 60)) (.cells #[I_ 0,I_ 0] 60) (w+1) z_);have k:=H_ (b_ (b_ (aI (w) w) (.cells #[I_ c,I_ e] 60)) (.cells #[I_ 0,I_ 0] 60));have r:(err == 0)=false:=by simp [herr]
 have p:=ok.1;have q:=ok.2.1;clear ok herr
 by_cases hc:c=1000000
 ·have i:=H_ (show kF c e err=(c,e,3) by unfold kF;rw [if_pos hc]);have m:(c == 1000000)=true:=by simp [hc]
  have n:=H_ hc;clear hc;go_enter func68,ntmps68
  go_wp2_with (first
   | (go_at_call 129;(with_reducible refine CM (g _) ?_);rintro e w1 ⟨rfl,b⟩;obtain ⟨f,a,d⟩:=bN l j k b;clear b;obtain ⟨x0,o⟩:=cs2 f.out)
   | (refine cV rfl 60 (.tmp 4) (.tmp 17) rfl rfl (w+1) #[I_ c,I_ e] rfl rfl 60 _ (a) sN rfl (bf_) ?_))
  show bodyPost prog f68 _ _ _ _
  refine bodyPost_ret (b2_ rfl rfl rfl (setRow_heap _ _ _ _ _ _ a)) rfl ?_;rw [i.out];exact ⟨rfl,j_ d.out O_ _⟩
 ·have i:=H_ (show kF c e err=(c+1,err,0) by unfold kF;rw [if_neg hc]);have m:(c == 1000000)=false:=by simp [hc]
  go_enter func68,ntmps68
  go_wp2_with (first
   | (go_at_call 129;(with_reducible refine CM (g _) ?_);rintro e w1 ⟨rfl,b⟩;obtain ⟨f,a,d⟩:=bN l j k b;clear b;obtain ⟨x0,o⟩:=cs2 f.out)
   | (refine cV rfl 60 (.tmp 4) (.tmp 22) rfl rfl (w+1) #[I_ (c+1),I_ err] rfl rfl 60 _ (a) sN rfl (bf_) ?_))
  show bodyPost prog f68 _ _ _ _
  refine bodyPost_ret (b2_ rfl rfl rfl (setRow_heap _ _ _ _ _ _ a)) rfl ?_;rw [i.out];exact ⟨rfl,j_ d.out O_ _⟩
end
section
def mC (a b:Int):Int:=if a<b then -1 else if b<a then 1 else 0
theorem gs_ (a:Int) (w:World):C_ 228 #[I_ a] w (nK (.bool false) w):=by
 have d1:(a != a)=false:=z_
 go_enter func228,ntmps228;go_wp2;go_ret;exact ⟨rfl,rfl⟩
theorem tV (a b:Int) (w:World):C_ 223 #[I_ a,I_ b] w (nK (I_ (mC a b)) w):=by
 have d:=fun a w'=>gs_ a w'
 by_cases h1:a<b
 ·have c:=H_ (show mC a b=-1 by unfold mC;rw [if_pos h1]);go_enter func223,ntmps223
  go_wp2_with (go_at_call 228;(with_reducible refine CM (d _ _) ?_);rintro e w1 ⟨rfl,rfl⟩)
  go_ret;exact ⟨by rw [c.out];rfl,rfl⟩
 ·by_cases h2:b<a
  ·have c:=H_ (show mC a b=1 by unfold mC;rw [if_neg h1,if_pos h2]);go_enter func223,ntmps223
   go_wp2_with (go_at_call 228;(with_reducible refine CM (d _ _) ?_);rintro e w1 ⟨rfl,rfl⟩)
   go_ret;exact ⟨by rw [c.out];rfl,rfl⟩
  ·have c:=H_ (show mC a b=0 by unfold mC;rw [if_neg h1,if_neg h2]);go_enter func223,ntmps223
   go_wp2_with (go_at_call 228;(with_reducible refine CM (d _ _) ?_);rintro e w1 ⟨rfl,rfl⟩)
   go_ret;exact ⟨by rw [c.out];rfl,rfl⟩
theorem f9_ (g:Nat) {a b:Int} (w:World) (h0:w.cell? ⟨g,0,none⟩=some (I_ a)) (h1:w.cell? ⟨g,1,none⟩=some (I_ b)) (hr:a=-1\/a=0/\b=-1):C_ 222 #[S_ (some ⟨g,0,none⟩) 2 2] w (sB (-1) w):=by
 rcases hr with rfl | ⟨rfl,rfl⟩
 all_goals
  go_enter func222,ntmps222;go_wp2;refine wp_loop_rounds 3 ?_
  (rw [rounds_succ];go_wp2)
  try (rw [rounds_succ];go_wp2)
  go_ret;exact ⟨rfl,aI _ _⟩
theorem bB_ (a b c:Int) (d e:Bool) (w:World) (h:oW ⟨a,b,c,d,e⟩):C_ 208 #[ptV a b c d e] w (cP true w):=by
 obtain ⟨h1,h2,h3,h4,h5,h6⟩:=h
 dsimp only at h1 h2 h3 h4 h5 h6
 go_enter func208,ntmps208;go_wp2;go_ret;exact ⟨rfl,b_ B_ _⟩
def SP.row2 (a b:Int):SP:=⟨fun v w=>∃g,v = S_ (some ⟨g,0,none⟩) 2 2/\w.heap[g]?=some (.cells #[I_ a,I_ b] 3 (0,0)),fun v w w' hb ⟨g,h1,h2⟩=>⟨g,h1,i_ h2 hb⟩⟩
theorem bw_ (a b c:Int) (d e:Bool) (a' b' c':Int) (d' e':Bool) (w:World) (h:bW ⟨a,b,c,d,e⟩ ⟨a',b',c',d',e'⟩=true):C_ 209 #[ptV a b c d e,ptV a' b' c' d' e'] w (sB (-1) w):=by
 have z:mC a a'=-1\/mC a a'=0/\mC b b'=-1:=by
  have h':a<a'\/(a=a'/\b<b'):=by simpa [bW] using h
  rcases h' with h' | ⟨h1,h2⟩
  ·exact .inl (by unfold mC;rw [if_pos h'])
  ·subst h1;exact .inr ⟨by unfold mC;rw [if_neg O_,if_neg O_],by unfold mC;rw [if_pos h2]⟩
 have k:=m_ (g_ w (.cells #[I_ a,I_ b,I_ c,.bool d,.bool e] 164)) (.cells #[I_ a',I_ b',I_ c',.bool d',.bool e'] 164);have l:=l_ (w.alloc (.cells #[I_ a,I_ b,I_ c,.bool d,.bool e] 164)) (.cells #[I_ a',I_ b',I_ c',.bool d',.bool e'] 164) (w+1) z_;have p:=H_ (b_ (b_ (aI (w) w) (.cells #[I_ a,I_ b,I_ c,.bool d,.bool e] 164)) (.cells #[I_ a',I_ b',I_ c',.bool d',.bool e'] 164));clear h;go_enter func209,ntmps209
 go_upto_region 1 with fail
 generalize (w.alloc _).alloc _=W at k l p;have x0:=a_ k 0;have r:=a_ k 1;have s:=a_ l 0;have t:=a_ l 1;simp only[zl] at x0 r s t;refine T_ 12 17 [SP.eq (P_ (w)),SP.eq (I_ a),SP.eq (P_ (w+1)),SP.eq (I_ a'),SP.eq (I_ (mC a a')),SP.eq (.pointer (some ⟨w,1,none⟩)),SP.eq (I_ b),SP.eq (.pointer (some ⟨w+1,1,none⟩)),SP.eq (I_ b'),SP.eq (I_ (mC b b')),SP.row2 (mC a a') (mC b b'),SP.eq (I_ (-1))] s_ s_ rfl ?_;simp only[vK];refine qC fun v0=>?_;simp only[ly];refine e_ (fun x f i K j=>?_) (fun v1=>?_)
 ·obtain rfl:v0=_:=i 0 s_;have o:=(c_ ((show q_ W x from f).block _ (p_ k))).trans x0;go_simp;exact j _ _ f B_ rfl
 simp only[ly];refine qC fun v2=>?_;simp only[ly];refine e_ (fun x f i K j=>?_) (fun v3=>?_)
 ·obtain rfl:v2=_:=i 2 s_;have o:=(c_ ((show q_ W x from f).block _ (p_ l))).trans s;go_simp;exact j _ _ f B_ rfl
 simp only[ly];refine e_ (fun x f i K j=>?_) (fun v4=>?_)
 ·obtain rfl:v1=_:=i 1 s_;obtain rfl:v3=_:=i 3 s_;go_simp
  go_at_call 223
  refine (tV a a' x).mono ?_;rintro e w1 ⟨rfl,rfl⟩;exact j _ _ f B_ rfl
 simp only[ly];refine qC fun v5=>?_;simp only[ly];refine e_ (fun x f i K j=>?_) (fun v6=>?_)
 ·obtain rfl:v5=_:=i 5 s_;have o:=(c_ ((show q_ W x from f).block _ (p_ k))).trans r;go_simp;exact j _ _ f B_ rfl
 simp only[ly];refine qC fun v7=>?_;simp only[ly];refine e_ (fun x f i K j=>?_) (fun v8=>?_)
 ·obtain rfl:v7=_:=i 7 s_;have o:=(c_ ((show q_ W x from f).block _ (p_ l))).trans t;go_simp;exact j _ _ f B_ rfl
 simp only[ly];refine e_ (fun x f i K j=>?_) (fun v9=>?_)
 ·obtain rfl:v6=_:=i 6 s_;obtain rfl:v8=_:=i 8 s_;go_simp
  go_at_call 223
  refine (tV b b' x).mono ?_;rintro e w1 ⟨rfl,rfl⟩;exact j _ _ f B_ rfl
 simp only[ly];refine e_ (fun x f i K j=>?_) (fun v10=>?_)
 ·obtain rfl:v4=_:=i 4 s_;obtain rfl:v9=_:=i 9 s_;go_simp;exact j _ _ (b_ f _) (b_ B_ _) ⟨_,rfl,heap_alloc_new _ _⟩
 simp only[ly];refine e_ (fun x f i K j=>?_) (fun v11=>?_)
 ·obtain ⟨g,n,y⟩:=i 10 s_;obtain rfl:v10=_:=n;obtain ⟨g0,v⟩:=cs2 y;go_simp
  go_at_call 222
  refine (f9_ g x g0 v z).mono ?_;rintro e w1 ⟨rfl,m⟩;exact j _ _ (d_ f m) m rfl
 simp only[ly];refine aA ?_;intro x f q;obtain rfl:v11=_:=q 11 O_;have u:=H_ (show q_ W x from f);clear q f;go_wp2;go_ret;exact ⟨rfl,d_ p u⟩
theorem aE_ (h:LA sA w S v L) (ok:eD L):C_ 176 #[v] w (cP true w):=by
 obtain ⟨A,cap,rfl,hc,hm⟩:=h.form;have a1:=ok.len;have H:=H_ h;have OK:=H_ ok.each;have J:=H_ ok.asc;unfold maxLen at hm;clear h ok;go_enter func176,ntmps176;go_wp2
 go_loopw [7] (fun i wx=>∃k:Nat,i = I_ k/\k<=L.length/\q_ w wx) (fun i _=>L.length - (intOf i).toNat)
 case atStart=>exact ⟨0,rfl,O_,aI _ _⟩
 case round=>
  obtain ⟨k,rfl,hk,hb⟩:=hrel;have l:=H_ hb;clear hb
  by_cases r:k<L.length
  ·obtain ⟨x,s⟩:∃x,L[k]?=some x:=⟨_,cU r⟩;obtain ⟨b,o,rfl,q,c0,c1,c2,u,B⟩:=PtA.cells (H.step l.out) s;have C:=fun w'=>bB_ x.proc x.page x.frame x.wr x.acc w' (OK x (fF s));have a2:(0:Int)<=(k:Int):=O_
   have a3:(k:Int)<(L.length:Int):=O_
   cases k with
   | zero=>
    rw [Nat.zero_mul,Nat.add_zero] at c0 c1 c2 u B;obtain ⟨g,f,fr,a,d⟩:=x
    dsimp only at c0 c1 c2 u B C
    clear s
    go_upto_region 4 with fail
    obtain ⟨V,p⟩:=aZ (wr.alloc (.cells #[I_ g,I_ f,I_ fr,.bool a,.bool d] 164));have c:=H_ (b_ l.out (.cells #[I_ g,I_ f,I_ fr,.bool a,.bool d] 164));have j:=g_ wr (.cells #[I_ g,I_ f,I_ fr,.bool a,.bool d] 164);rw [<-p] at c j ⊢;clear p;obtain ⟨z0,z1,z2,z3,z4⟩:=cs5 j;have U:=p_ j;have xe:=aG V;refine y_ s_ s_ ?_
    repeat (go_big_quiet_step ((with_reducible exact aB (C _))))
    refine wpQuiet_nil ?_;rintro w' ⟨z,rfl⟩;go_wp2;go_roundw
    case rel=>exact ⟨1,rfl,O_,d_ c.out (n_ _ _)⟩
    case measure=>exact bH
   | succ m=>
    obtain ⟨y,R⟩:∃y,L[m]?=some y:=⟨_,cU O_⟩;obtain ⟨b',o',O,_,D,E,F,G,I⟩:=PtA.cells (H.step l.out) R;injection O with O
    injection O with e4 e5
    subst e4 e5;have t:bW y x=true:=by
     have:=List.pairwise_iff_getElem.1 J.out m (m+1) O_ r O_;rw [<-(List.getElem?_eq_some_iff.1 R).2,<-(List.getElem?_eq_some_iff.1 s).2];exact this
    obtain ⟨g,f,fr,a,d⟩:=x;obtain ⟨X,W,P,Z,N⟩:=y;have Q:=fun w'=>bw_ X W P Z N g f fr a d w' t
    dsimp only at c0 c1 c2 u B D E F G I C
    have w1:i64.wrap (m:Int)=(m:Int):=fA O_;have g0:(0:Int)<(m:Int)+1:=O_
    have b0:(0:Int)<=(m:Int)+1:=O_
    have b1:(m:Int)+1<(L.length:Int):=O_
    have b2:((m:Int)+1).toNat=m+1:=O_
    have b3:m<L.length:=O_
    have b4:(m:Int)<(L.length:Int):=O_
    clear s R t
    go_upto_region 4 with fail
    obtain ⟨V,p⟩:=aZ (wr.alloc (.cells #[I_ g,I_ f,I_ fr,.bool a,.bool d] 164));have c:=H_ (b_ l.out (.cells #[I_ g,I_ f,I_ fr,.bool a,.bool d] 164));have M:=H_ (b_ (aI (wr) wr) (.cells #[I_ g,I_ f,I_ fr,.bool a,.bool d] 164));have j:=g_ wr (.cells #[I_ g,I_ f,I_ fr,.bool a,.bool d] 164);rw [<-p] at c j M ⊢;clear p;obtain ⟨z0,z1,z2,z3,z4⟩:=cs5 j;have Y:=kt5 (M.block _ q) D E F G I;clear D E F G I;obtain ⟨D,E,F,G,I⟩:=Y;have U:=p_ j;have a0:b<V:=iS q M.size;have xe:=aG V;clear c0 c1 c2 u B;refine y_ s_ s_ ?_
    repeat (first | (refine wpQuiet_step (fun K n=>?_);go_simp;(with_reducible refine n _ ?_);clear n K) | (refine wpQuiet_step (fun K n=>?_);go_simp;apply Exists.intro;refine ⟨fun _=>?_,n _ ?_⟩;(first | (with_reducible exact aB (C _)) | (with_reducible exact aB (Q _)));clear n K))
    refine wpQuiet_nil ?_;rintro w' ⟨z,rfl⟩;go_wp2;go_roundw
    case rel=>exact ⟨m+2,by go_num,O_,d_ c.out (n_ _ _)⟩
    case measure=>exact bH
  ·obtain rfl:k=L.length:=O_
   go_wp2;go_ret
   exact ⟨rfl,l.out⟩
end
section
open Go.RowKit Go.Shelf
attribute [local go_sem] Oper.semAt_some
theorem cY_ (v:Value) (f:Int) (hv:v.oneCell'=true) (A:Option Addr) (n c:Nat) (e:v = S_ A n c):C_ 120 #[v,I_ f] w fun e w'=>e = .returned (.func (.func 175) #[] #[P_ (w),P_ (w+1)])/\w'=(w.alloc (.cells #[v] 28)).alloc (.cells #[I_ f] 3):=by
 subst e;go_enter func120,ntmps120;go_wp2;go_ret;exact ⟨rfl,rfl⟩
def upF (L:List Pt) (f:Int):(k:Nat)->k<=L.length->List (Fin L.length)
 | 0,_=>[]
 | k+1,h=>upF L f k O_ ++ (if (L[k]'h).frame=f then [⟨k,h⟩] else [])
theorem cy_ (L:List Pt) (f:Int):∀(k:Nat) (h:k<=L.length),(upF L f k h).length<=k
 | 0,_=>aQ _
 | k+1,h=>by
  have:=cy_ L f k O_;unfold upF;rw [aL_]
  split <;> simp <;> omega
theorem cz_ (L:List Pt) (f:Int):∀(k:Nat) (h:k<=L.length) (i:Fin L.length),i ∈ upF L f k h↔i.1<k/\(L[i.1]'i.2).frame=f
 | 0,_,i=>by simp [upF]
 | k+1,h,i=>by
  unfold upF;rw [List.mem_append,cz_ L f k O_ i]
  constructor
  ·rintro (⟨h1,h2⟩ | h1)
   ·exact ⟨O_,h2⟩
   ·split at h1
    ·rename_i hf
     obtain rfl:i=⟨k,h⟩:=by simpa using h1
     exact ⟨by show k<k+1;omega,hf⟩
    ·simp at h1
  ·rintro ⟨h1,h2⟩
   by_cases a:i.1<k
   ·exact .inl ⟨a,h2⟩
   ·obtain rfl:i=⟨k,h⟩:=Fin.ext (by show i.1=k;omega);exact .inr (by rw [if_pos h2];simp)
def oA (L:List Pt) (pre:List (Fin L.length)):List Pt:=(List.finRange L.length).map fun i=>if i ∈ pre then {L[i.1]'i.2 with wr:=false} else L[i.1]'i.2
theorem eJ (L:List Pt) (pre:List (Fin L.length)):(oA L pre).length=L.length:=by simp [oA]
theorem nG (L:List Pt) (pre:List (Fin L.length)) (i:Fin L.length):(oA L pre)[i.1]?=some (if i ∈ pre then {L[i.1]'i.2 with wr:=false} else L[i.1]'i.2):=by
 rw [cU (by rw [eJ];exact i.2)];simp [oA]
theorem do_ (L:List Pt):oA L []=L:=by
 apply List.ext_getElem
 ·exact eJ L []
 ·intro i h1 h2;simp [oA]
theorem bF_ (L:List Pt) (pre:List (Fin L.length)) (i:Fin L.length):oA L (pre ++ [i])=(oA L pre).set i.1 {L[i.1]'i.2 with wr:=false}:=by
 apply List.ext_getElem?;intro j;rw [List.getElem?_set]
 by_cases a:j<L.length
 ·have h1:=nG L (pre ++ [i]) ⟨j,a⟩;have h2:=nG L pre ⟨j,a⟩
  dsimp only at h1 h2
  rw [h1]
  by_cases e:i.1=j
  ·subst e;simp [eJ]
  ·rw [if_neg e,h2];have b:(⟨j,a⟩:Fin L.length)≠i:=fun h=>e (by rw [<-h]);simp [b]
 ·rw [xX (by rw [eJ];omega),if_neg O_,xX (by rw [eJ];omega)]
theorem dn_ (L:List Pt) (f:Int):oA L (upF L f L.length (aQ _))=L.map (mP f):=by
 apply List.ext_getElem?;intro j
 by_cases hj:j<L.length
 ·have h1:=nG L (upF L f L.length (aQ _)) ⟨j,hj⟩
  dsimp only at h1
  rw [h1,gP_,cU hj];simp only[cz_,Option.map_some];unfold mP
  by_cases hf:(L[j]'hj).frame=f
  ·simp [hf,hj]
  ·simp [hf]
 ·rw [xX (by rw [eJ];omega),xX (by simp;omega)]
def ff_ (x:Pt):Value:= .agg #[I_ x.proc,I_ x.page,I_ x.frame,.bool x.wr,.bool x.acc]
def il_ (L:List Pt) (i:Fin L.length):Array Value:=#[I_ (i.1:Int),ff_ (L[i.1]'i.2)]
theorem vO (n:Nat) (hn:3<=n) (f:Int) (cap Bl Bf:Nat) (Sx:Nat->Prop) (w:World) (ok:eD L) (hl:Sx Bl) (hf:Sx Bf) (hlt:Bl<w.heap.size/\Bf<w.heap.size)
  (A:Option Addr) (h1:w.cell? ⟨Bl,0,none⟩=some (S_ A L.length cap)) (h2:w.cell? ⟨Bf,0,none⟩=some (I_ f)) (hLA:LA sA w (fun z=>Sx z/\z<w.heap.size) (S_ A L.length cap) L) :
  SeqStopsK Fence.wide n prog 175 #[P_ Bl,P_ Bf] (il_ L) (r_ Sx) (fun xs=>xs=upF L f L.length (aQ _)) (fun _=>True) L.length w:=fun l J Jx W s K R U h0=>by
 have g:=(s.cell (p:=⟨Bl,0,none⟩) hlt.1).trans h1;have j:=(s.cell (p:=⟨Bf,0,none⟩) hlt.2).trans h2;have y:=hLA.step s;have O:=ok.len;have X:1<=n:=O_
 refine callsIn_of_wp func175 rfl trivial ?_ rfl;simp only[ntmps175,List.size_toArray,cL_,List.length_nil,Nat.reduceAdd,Nat.reduceSub,Array.replicate_succ,Array.replicate_zero,List.push_toArray,List.append_toArray,List.nil_append,List.cons_append]
 gi_wp2_with (refine ⟨trivial,?_⟩;gi_at_call 176;refine (callsIn_wide.2 (aE_ y ok)).mono ?_;rintro e w1 ⟨rfl,b⟩;have M:=(b.cell (p:=⟨Bl,0,none⟩) (iS hlt.1 s.size)).trans g)
 gi_loopw [11] (fun i wr=>∃k:Nat,∃h:k<=L.length,i = I_ k/\J (upF L f k h) wr/\W.heap.size<=wr.heap.size/\r_ (fun z=>Sx z/\z<w.heap.size) W wr)
  (fun i _=>L.length - (intOf i).toNat)
 case atStart=>exact ⟨0,Nat.zero_le _,rfl,K _ _ _ none h0 (bV b none) (fun r e=>by cases e),b.size,(r_.of_below b)⟩
 case round=>
  obtain ⟨k,E,rfl,u,G,o⟩:=hrel
  by_cases hlt2:k<L.length
  ·obtain ⟨x,B⟩:∃x,L[k]'hlt2=x:=⟨_,rfl⟩;have q:L[k]?=some x:=by rw [cU hlt2,B]
   obtain ⟨b',o',rfl,V,c0,c1,c2,c3,c4⟩:=PtA.cells (y.kept o) q;have F:wr.heap[Bf]?=W.heap[Bf]?:=o.2 Bf ⟨hf,hlt.2⟩ (iS hlt.2 s.size);have N:wr.cell? ⟨Bf,0,none⟩=some (I_ f):=(c_ F).trans j;have I:Bf<wr.heap.size:=iS (iS hlt.2 s.size) G;have t:J (upF L f k E) (wr.alloc (.cells #[I_ x.proc,I_ x.page,I_ x.frame,.bool x.wr,.bool x.acc] 164)):=K _ _ _ none u (gA_ _ _ none) (fun r e=>by cases e);have d:r_ (fun z=>Sx z/\z<w.heap.size) W (wr.alloc (.cells #[I_ x.proc,I_ x.page,I_ x.frame,.bool x.wr,.bool x.acc] 164)):=o.trans (r_.of_alloc _ _);have a0:(0:Int)<=(k:Int):=O_
   have a1:(k:Int)<(L.length:Int):=O_
   have c:upF L f (k+1) hlt2=upF L f k E ++ (if x.frame=f then [⟨k,hlt2⟩] else []):=by rw [<-B];rfl
   by_cases a:x.frame=f
   ·rw [if_pos a] at c;obtain ⟨fn,P,C,H,Y,S⟩:=U _ ⟨k,hlt2⟩ _ t (by have:=cy_ L f k E;omega);simp only[il_,ff_,B] at Y;have Q:(x.frame == f)=true:=by simp [a]
    clear B a q h1 h2 g j
    gi_wp2
    refine S.mono ?_;rintro e W3 (⟨rfl,D,m⟩ | ⟨rfl,v⟩)
    ·gi_wp2
     go_roundw
     case rel=>exact ⟨k+1,hlt2,by go_num,by rw [c];exact D,by have:=m.1;simp at this;omega,d.trans ⟨m.1,fun z Z hl=>m.2 z Z.1 hl⟩⟩
     case measure=>exact bH
    ·gi_wp2
     refine bodyPost_ret (results_none rfl _ _ _) rfl ?_;exact ⟨⟨_,rfl⟩,.inr ⟨_,trivial,v⟩⟩
   ·rw [if_neg a,List.append_nil] at c;have Q:(x.frame == f)=false:=by simp [a]
    clear B a q h1 h2 g j
    gi_wp2
    refine ⟨fun _ h=>(by cases h),?_⟩
    gi_wp2
    go_roundw
    case rel=>exact ⟨k+1,hlt2,by go_num,by rw [c];exact t,by simp;omega,d⟩
    case measure=>exact bH
  ·obtain rfl:k=L.length:=O_
   gi_wp2
   go_end0
   exact ⟨⟨_,rfl⟩,.inl ⟨_,rfl,u⟩⟩
theorem c4_ (hS:∀z,S z->z<B) (W:World) (l:Nat) (o o':Obj) (hl:B<=l) (_:W.heap[l]?=some o) (_:o.isCells=false) (_:o.isWalk=false):r_ S W (W.putObj l o'):=
 ⟨z_,fun z hz _=>World.putObj_heap_other (fun e=>by have:=hS z hz;omega)⟩
theorem LW.own {α:Type} {k:Nat} {f:α->List Value} {hf:∀a,(f a).length=k/\∀u ∈ f a,u.oneCell'=true} {A B:World} {g:Nat} {L:List α} (h:LW (RR.flat f hf) A S g L) (hk:∀o,A.heap[g]?=some o->o.isCells=true->B.heap[g]?=A.heap[g]?) (h0:0<L.length) (h1:0<k) (hs:A.heap.size<=B.heap.size):LW (RR.flat f hf) B S g L:=by
 obtain ⟨j,rows,d,i⟩:=h;have n:=i.len;obtain ⟨r,b⟩:∃r,rows[0]?=some r:=⟨_,cU O_⟩;have m:=(d.2.2.1 r (fF b)).1;have hc:=d.2.2.2 0 r 0 _ b (cU O_);obtain ⟨o,l,c⟩:=cells_of_cell hc;exact ⟨j,rows,d.block (hk o l c) hs,i⟩
theorem bz_ (f:Int) (h:LA sA w S v L) (ok:eD L) (hS:∀b,w.heap.size<=b->S b):C_ 50 #[v,I_ f] w (hw_ (L.map (mP f)) S w):=by
 obtain ⟨A,cap,rfl,hc,hm⟩:=h.form;have ab:=wC S h (by have:=ok.len;omega);have H:=H_ h;have OK:=H_ ok;have ae:=ok.len;clear h ok;refine (callsIn_wide (n:=9)).1 ?_;refine callsIn_of_wp_marks func50 rfl trivial ?_ rfl;simp only[ntmps50,List.size_toArray,cL_,List.length_nil,Nat.reduceAdd,Nat.reduceSub,Array.replicate_succ,Array.replicate_zero,List.push_toArray,List.append_toArray,List.nil_append,List.cons_append]
 gi_wp2_with (first
  | (refine ⟨trivial,?_⟩;gi_at_call 113;refine (callsIn_wide.2 ab).mono ?_;rintro e w1 ⟨v1,rfl,J,a0⟩;obtain ⟨I,n1,c1,rfl⟩:=J.cap)
  | (refine ⟨trivial,?_⟩;gi_at_call 120;refine (callsIn_wide.2 (cY_ (S_ A L.length cap) f rfl A L.length cap rfl)).mono ?_;rintro e w2 ⟨rfl,rfl⟩))
 have E:=a0;obtain ⟨j,S2,a2,q,X,a8⟩:∃(j:Nat) (S2:Nat->Prop),(w<=j/\j<=w1)/\(0<L.length->LW sA w1 S2 j L)/\(0<L.length->I=some ⟨j,0,none⟩/\n1=L.length)/\(∀z,S2 z->S z):=by
  by_cases h0:0<L.length
  ·obtain ⟨g,cp,hv,_,_,a9,G⟩:=J.lw h0;injection hv with e1 e2 e3
   exact ⟨g,_,⟨a9,Nat.le_of_lt G.lt⟩,fun _=>G,fun _=>⟨e1,e2⟩,fun z O=>O.1.1⟩
  ·exact ⟨w1,fun _=>False,⟨a0.size,aQ _⟩,fun h=>absurd h h0,fun h=>absurd h h0,fun z h=>h.elim⟩
 have t:=(J.la (S':=gL) (fun _ _ _=>trivial) (fun _ _=>trivial)).form;obtain ⟨ag,a3,t,a1,F⟩:=t;have ac:n1=L.length:=by injection t
 have aa:c1=a3:=by injection t
 subst ac aa;clear t;obtain ⟨d,a⟩:=aZ (((w1.alloc (.cells #[S_ I L.length c1] 28)).alloc (.cells #[S_ A L.length cap] 28)).alloc (.cells #[I_ f] 3));have Y:q_ w1 d:=by rw [a];exact ((((aI _ w1).alloc (aQ _) _).alloc z_ _).alloc (by simp;omega) _)
 have a6:d.heap[w1.heap.size]?=some (.cells #[S_ I L.length c1] 28 (0,0)):=by rw [a];exact m_ (m_ (g_ _ _) _) _
 have a5:d.heap[w1.heap.size+1]?=some (.cells #[S_ A L.length cap] 28 (0,0)):=by rw [a];exact m_ (l_ _ _ _ z_) _
 have a4:d.heap[w1.heap.size+1+1]?=some (.cells #[I_ f] 3 (0,0)):=by rw [a];exact l_ _ _ _ z_
 have af:d.heap.size=w1.heap.size+1+1+1:=by rw [a];simp
 rw [<-a];clear a;have y:q_ w d:=E.trans (Y.mono E.size);have a7:LA sA d (fun z=>(z<d.heap.size/\z≠j)/\z<d.heap.size) (S_ A L.length cap) L:=((H.weak (S':=fun z=>z<w.heap.size) (fun z O _=>O)).step y).weak (fun z O h=>⟨⟨O,O_⟩,O⟩);have U:=a_ a5 0;have V:=a_ a4 0;have Q:=a_ a6 0;simp only[zl] at U V Q;have N:0<L.length->LW sA d S2 j L:=fun h=>(q h).step Y;refine wpIn_rangeFunc_ownF rfl O_ (gf:=175) (lb:=#[P_ (w1+1),P_ (w1+1+1)]) rfl trivial (enters_of func175 s_ rfl)
  (vO 8 O_ f cap (w1+1) (w1+1+1) (fun z=>z<d.heap.size/\z≠j) d OK.out ⟨O_,O_⟩ ⟨O_,O_⟩ ⟨O_,O_⟩ A U V a7) (fun h k=>r_.trans h k) (c4_ (fun z h=>h.1)) B_ (fun _=>rfl)
  (fun C W=>(W.cell? ⟨w1,0,none⟩=some (S_ I L.length c1)/\(0<L.length->LW sA W S2 j (oA L C)))/\q_ w W)
  (fun _ _ _=>False)
  (OwnFrom.and (Own.from (fun s A B row hs hg P=>⟨_root_.Go.cell_kept hs.1 hg P,fun h0=>LW.own (f:=Pt.row) (hs.2 h0) (fun o J M=>grownBy_keeps_cells hg P J M) (by rw [eJ];exact h0) O_ hg.size⟩) _) (ownFrom_below (aQ _) y.size))
  (fun _ _ _ _ _ hs _ _=>hs)
  ⟨⟨Q,fun h0=>by rw [do_];exact N h0⟩,y⟩
  (fun x=>{tmps:=#[S_ A L.length cap,I_ f,undef,undef,S_ none 0 0,P_ (w1),I_ (x.1:Int),S_ A L.length cap,S_ I L.length c1,S_ A L.length cap,I_ f,.func (.func 175) #[] #[P_ (w1+1),P_ (w1+1+1)],I_ (x.1:Int),ff_ (L[x.1]'x.2),undef,undef,undef,undef,undef],defers:=[]}) ?assign ?body ?done ?stop
 case assign=>
  intro l x W K Z;unfold il_
  gi_wp2
  exact Z
 case body=>
  rintro l C x W ⟨⟨hc,m⟩,hB⟩ _;have h0:0<L.length:=by have:=x.2;omega
  have G:=m h0;obtain ⟨rfl,_⟩:=X h0;have x0:(0:Int)<=(x.1:Int):=O_
  have x1:(x.1:Int)<(L.length:Int):=by have:=x.2;omega
  have hx:=nG L C x;obtain ⟨⟨u,hu⟩,O⟩:=G.slot (i:=x.1) (p:=3) (by rw [eJ];exact x.2) O_;have ad:w1≠j:=fun e=>by have:=(q h0).lt;omega
  gi_wp2
  refine ⟨KeepsOthers.setCell _ _ _,r_.of_setCell _ _ _ (fun h=>h.2 rfl),⟨?_,?_⟩,hB.setCell (p:=⟨j,x.1*5+3,none⟩) a2.1 _⟩
  ·exact (c_ (jO W ⟨j,x.1*5+3,none⟩ (.bool false) (w1) ad)).trans hc
  ·rw [bF_];exact G.setOne hx O_ rfl (fun r P=>by
    have P:r=Pt.row _:=P;subst P
    split <;> rfl)
 case done=>
  rintro D ys W hD rfl ⟨⟨hc,m⟩,hB⟩ Z
  gi_wp2
  refine ⟨z_,.inl ⟨_,_,rfl,run_takeDeferred Z,?_⟩⟩;refine ⟨_,results_tmp rfl _ _ _,S_ I L.length c1,rfl,?_,hB.trans (belowK_b (w:=w) (aQ _) W D _ _ (by have:=y.size;omega) Z rfl rfl)⟩
  by_cases h0:0<L.length
  ·obtain ⟨rfl,_⟩:=X h0;have G:=LW.own (f:=Pt.row) (B:=W.putObj D (.deferred none)) (m h0) (fun o J M=>grownBy_keeps_cells (grownBy_putObj' W D (.deferred none)) (fun r e=>by cases e;exact ⟨_,Z,rfl⟩) J M) (by rw [eJ];exact h0) O_ z_;rw [dn_] at G;have:=LW.la (R:=sA) (S':=S) (cap:=c1) G (hS _ a2.1) (fun z _ h=>a8 z h) (by simp;exact a1) F;rw [mL_] at this;exact this
  ·have e:L=[]:=List.eq_nil_of_length_eq_zero O_;subst e;exact ⟨[],⟨I,c1,rfl,z_,F,vJ.nil,.inl rfl⟩,trivial⟩
 case stop=>
  rintro D c C W _ _ h _;exact h.elim
end
section
theorem fO {p:Addr}:CallsD prog 41 #[.pointer (some p)] .returning w fun e u' w'=>e = .returned (.tuple #[])/\u' = .returning/\w'=w:=by
 refine callsD_of_wpS func41 rfl fun a cs b=>?_;apply wpS_seq;apply wpS_region;simp [wpOpsS,go_sem,recoverD,b,ntmps41,Exit.thenS];refine wpS_cond (t:=false) (by simp [Act.eval,Array.replicate]) ?_;simp only[Bool.false_eq_true,if_false];refine wpS_of_wp (wp_skip ?_)
 cases a
 simp_all [bodyPostS,results,results41]
theorem f5_ (f:Fl) (h:Nat) (A:Option Addr) (cap:Nat) (p:Nat) (hp:p<8) (w:World):C_ 44 #[f.v h A cap,I_ p] w (cP (aC f p) w):=by
 have a:=H_ (fun X=>b_ (aI (w) w) X);have b:=H_ (show aC f p=(bits .and .i64 f.blocks (wrap64 (2 ^ p)) == 0) from rfl);simp only[Fl.v,Fl.rowT,List.toArray];generalize f.blocks=bk at *;go_enter func44,ntmps44
 go_upto_region 1 with fail
 go_region
 go_wp2;go_ret
 exact ⟨by rw [b.out];rfl,(a.out _).drew⟩
theorem St.grown {l:List (Nat × Obj)} {B:Nat} (h:St W l w) {r:Option Nat} (hg:w.grownBy w' r) (hr:∀k,r=some k->B<=k) (hl:∀g o,(g,o) ∈ l->g<B) (hB:W.heap.size<=B):St W l w':=
 ⟨fun g o hm=>(hg.block g (p_ (h.bk g o hm)) (fun e=>by have:=hr g e.symm;have:=hl g o hm;omega)).trans (h.bk g o hm),h.below.grown hg h.below.size (fun k e=>by have:=hr k e;omega)⟩
theorem bQ_.mono {S':Nat->Prop} {en:Ending} (h:bQ_ C S w en w') (hS:∀z,S z->S' z):bQ_ C S' w en w':=by
 obtain ⟨X,gf,nf,cf,gr,nr,cr,c,d,e,f,g,h1,h2,h3⟩:=h;exact ⟨X,gf,nf,cf,gr,nr,cr,c,d,e,f,g,h1,h2.weak (fun z _=>hS z),h3⟩
end
section
theorem rI {a:Addr} (w:World) (h:w.cell? a=some v):(loadVar 38 a).run prog w = .ok v w:=by
 simp [loadVar,isAgg,run_underlying underlying38,go_sem,h]
theorem hM_ (h:fn.results=#[.cell p 30,.cell r 37,.cell q 38]) (tmps:Array Value) {g g2:Nat}(g3:Nat) {cs2:Array Value}
  (hp:tmps.getD p undef = P_ g) (hr:tmps.getD r undef = P_ g2) (hq:tmps.getD q undef = P_ g3) (hg:w.heap[g]?=some (.cells cs 30 (0,0))) (hg2:w.heap[g2]?=some (.cells cs2 37 (0,0))) (hg3:w.cell? ⟨g3,0,none⟩=some u) (hs:cs.size=7) (hs2:cs2.size=10) :
  (results fn tmps).run prog w = .ok (.tuple #[.agg cs,.agg cs2,u]) w:=by
 have a:tmps[p]?.getD undef = P_ g:=by simpa using hp
 have c:tmps[r]?.getD undef = P_ g2:=by simpa using hr
 have b:tmps[q]?.getD undef = P_ g3:=by simpa using hq
 simp [results,h,a,c,b,asAddr,run_loadVar_row w g _ 30 cs (0,0) _ hg underlying30 rfl (by rw [hs];exact fI),run_loadVar_row w g2 _ 37 cs2 (0,0) _ hg2 underlying37 rfl (by rw [hs2];exact bT),rI w hg3]
def S4 (S:Nat->Prop) (n:Nat):Nat->Prop:=fun z=>S z/\z≠n/\z≠n+1/\z≠n+1+1/\z≠n+1+1+1
theorem a7_ (h:fn.results=#[.cell p 30,.cell r 37,.cell q 38]) (err:Int)
  (hp:tmps.getD p undef = P_ (w+1)) (hr:tmps.getD r undef = P_ (w+1+1)) (hq:tmps.getD q undef = P_ (w+1+1+1))
  (HR:∃cs0,V.heap[w.heap.size+1]?=some (.cells cs0 30 (0,0))) (HQ:∃cs0,V.heap[w.heap.size+1+1]?=some (.cells cs0 37 (0,0))) (HE:∃u,V.heap[w.heap.size+1+1+1]?=some (.cells #[u] 38 (0,0)))
  (hB:Bd V (S4 S (w)) B X gf nf cf gr nr cr c d e f g C) (hcs:cs=#[S_ (some ⟨gf,0,none⟩) nf cf,S_ (some ⟨gr,0,none⟩) nr cr,c,d,e,f,g]) (hrq:rq.size=10) (hb:q_ w V) (hP:Pr C (.agg rq) err) :
  Leaves prog fn tmps (lT Pr S w) [] .returning (((V.setRow (w+1) cs).setRow (w+1+1) rq).setCell ⟨w+1+1+1,0,none⟩ (I_ err)):=by
 subst hcs;obtain ⟨cs0,HR⟩:=HR;obtain ⟨xV,HQ⟩:=HQ;obtain ⟨u,HE⟩:=HE;have a:=(setRow_other (V.setRow (w+1) #[S_ (some ⟨gf,0,none⟩) nf cf,S_ (some ⟨gr,0,none⟩) nr cr,c,d,e,f,g]) (w+1+1) (w+1+1+1) rq O_).trans ((setRow_other V (w+1) (w+1+1+1) #[S_ (some ⟨gf,0,none⟩) nf cf,S_ (some ⟨gr,0,none⟩) nr cr,c,d,e,f,g] O_).trans HE);have i:((V.setRow (w+1) #[S_ (some ⟨gf,0,none⟩) nf cf,S_ (some ⟨gr,0,none⟩) nr cr,c,d,e,f,g]).setRow (w+1+1) rq).heap[w.heap.size+1]?=some (.cells #[S_ (some ⟨gf,0,none⟩) nf cf,S_ (some ⟨gr,0,none⟩) nr cr,c,d,e,f,g] 30 (0,0)):=(setRow_other (V.setRow (w+1) #[S_ (some ⟨gf,0,none⟩) nf cf,S_ (some ⟨gr,0,none⟩) nr cr,c,d,e,f,g]) (w+1+1) (w+1) rq O_).trans (setRow_heap _ _ _ _ _ _ HR);have b:((V.setRow (w+1) #[S_ (some ⟨gf,0,none⟩) nf cf,S_ (some ⟨gr,0,none⟩) nr cr,c,d,e,f,g]).setRow (w+1+1) rq).heap[w.heap.size+1+1]?=some (.cells rq 37 (0,0)):=setRow_heap _ _ _ _ _ _ ((setRow_other V (w+1) (w+1+1) _ O_).trans HQ);have j:=((hB.at_.kept (r_.of_setRow V (w+1) #[S_ (some ⟨gf,0,none⟩) nf cf,S_ (some ⟨gr,0,none⟩) nr cr,c,d,e,f,g] (fun h=>h.2.2.1 rfl))).kept (r_.of_setRow _ (w+1+1) rq (fun h=>h.2.2.2.1 rfl))).kept (r_.of_setCell _ ⟨w+1+1+1,0,none⟩ (I_ err) (fun h=>h.2.2.2.2 rfl));refine ⟨_,hM_ h tmps (w+1+1+1) hp hr hq (aM i _ _ (by show w.heap.size+1≠w.heap.size+1+1+1;omega)) (aM b _ _ (by show w.heap.size+1+1≠w.heap.size+1+1+1;omega)) (a_ (R_ a _) 0) rfl hrq,?_⟩;exact ⟨C,err,_,_,_,_,_,_,_,_,hP,rfl,j.weak (fun z _ k=>k.1),bA (j_ (j_ hb O_ _) O_ _) _ _ (by show w.heap.size<=w.heap.size+1+1+1;omega)⟩
theorem e6_ (n:Int) (h:x_ w S a b c d e f g C) (ok:lS C) (hus:∀w',q_ w w'->C_ 43 #[cI a b c d e f g,I_ n] w' (cP false w')) (hS:∀z,w.heap.size<=z->S z) :
  C_ 10 #[cI a b c d e f g,I_ n] w (lT (fun C' rq err=>C'=C/\rq=rq0/\err=2) S w):=by
 have U:=fun w' (hb:q_ w w') (hlt:w.heap.size+1+1+1<w'.heap.size)=>vT C a b c d e f g (S4 S (w)) w' ((h.weak (fun z hz hs=>⟨hs,O_,O_,O_,O_⟩)).step hb) ok (fun z hz=>⟨hS z O_,O_,O_,O_,O_⟩);obtain ⟨F,W,c1,G,Y,c2,H,Z,N,I,m4,O,J,m5,P,K,m6,Q,L,m7,R,rfl,rfl,rfl,rfl,rfl,rfl,rfl⟩:=x_.caps h;clear h ok;have o:=H_ (show St w [(w.heap.size,.cells (E_ F W c1 G Y c2 H Z N I m4 O J m5 P K m6 Q L m7 R) 30 (0,0)),(w.heap.size+1,cG),(w.heap.size+1+1,lK),(w.heap.size+1+1+1,.cells #[I_ 0] 38 (0,0))] ((((w.alloc (.cells (E_ F W c1 G Y c2 H Z N I m4 O J m5 P K m6 Q L m7 R) 30)).alloc (cG)).alloc (lK)).alloc (.cells #[I_ 0] 38)) from (((St.nil w).push _ _ rfl).push _ (w+1) z_).push _ (w+1+1) z_ |>.push _ (w+1+1+1) z_)
 go_enter_defers func10,ntmps10
 go_upto_region 2 with fail
 generalize (((w.alloc (.cells (E_ F W c1 G Y c2 H Z N I m4 O J m5 P K m6 Q L m7 R) 30)).alloc (cG)).alloc (lK)).alloc (.cells #[I_ 0] 38)=V at o;have t:=o.bk _ _ cO;obtain ⟨x0,x,y,A,B,D,E⟩:=aF t
 go_upto_region 3 with (go_at_call 42;refine CM (U _ o.below (p_ (o.bk _ _ tI))) ?_;rintro e w1 ⟨X,gf,nf,cf,gr,nr,cr,c',d',e',f',g',rfl,l,v⟩)
 have i:=H_ (o.step v);have p:=H_ l;obtain ⟨E3,e3,k3,rfl⟩:=l.zones.cap;obtain ⟨E4,e4,k4,rfl⟩:=l.groups.cap;obtain ⟨E5,e5,k5,rfl⟩:=l.lists.cap;obtain ⟨E6,e6,k6,rfl⟩:=l.clocks.cap;obtain ⟨E7,e7,k7,rfl⟩:=l.ptes.cap;clear x0 x y A B D E t l v o;have u:=i.bk _ _ cO;obtain ⟨x0,x,y,A,B,D,E⟩:=aF u
 go_upto_region 4 with (go_at_call 43;refine CM (hus _ i.below) ?_;rintro e w2 ⟨rfl,m⟩)
 have j:=H_ (i.step m);have q:=H_ (p.step m);clear x0 x y A B D E u m i p;have M:=q.box;obtain ⟨x0,x,y,A,B,D,E⟩:=aF M;have s:=j.bk _ _ jQ;have r:=j.bk _ _ jB;have k:=j.bk _ _ tI;have e0:((w2.setRow (w+1) (E_ (o_ gf) nf cf (o_ gr) nr cr E3 e3 k3 E4 e4 k4 E5 e5 k5 E6 e6 k6 E7 e7 k7)).setRow (w+1+1) lO).cell? ⟨w+1+1+1,0,none⟩=some (I_ 0):=(c_ ((setRow_other _ (w+1+1) (w+1+1+1) _ O_).trans (setRow_other _ (w+1) (w+1+1+1) _ O_))).trans (a_ k 0);have ez:((w2.setRow (w+1) (E_ (o_ gf) nf cf (o_ gr) nr cr E3 e3 k3 E4 e4 k4 E5 e5 k5 E6 e6 k6 E7 e7 k7)).setRow (w+1+1) lO).frozen? ⟨w+1+1+1,0,none⟩=false:=(World.frozen?_of_block (a:=⟨w+1+1+1,0,none⟩) ((setRow_other _ (w+1+1) (w+1+1+1) _ O_).trans (setRow_other _ (w+1) (w+1+1+1) _ O_))).trans (t_ k 0)
 go_wp2_with (first
  | (refine aJ rfl (.tmp 4) (.tmp 22) rfl rfl rfl rfl s rfl ?_)
  | (refine cV rfl 37 (.tmp 5) (.tmp 23) rfl rfl (w+1+1) lO rfl rfl 37 _ ((setRow_other _ (w+1) (w+1+1) _ O_).trans r) bT rfl (dX) ?_))
 refine leaves_cons (f:=41) (args:=#[P_ (w+1+1+1)]) z_ (by simp [go_sem]) ?_;refine (fO).mono ?_;rintro e u' a0 ⟨rfl,rfl,rfl⟩;exact a7_ rfl 2 rfl rfl rfl ⟨_,s⟩ ⟨_,r⟩ ⟨_,k⟩ q.out rfl rfl j.below ⟨rfl,rfl,rfl⟩
end
section
theorem St.setRow4 {o0 o1 o3:Obj} {t:TypeId} (cs':Array Value) (h:St W [(W.heap.size,o0),(W.heap.size+1,o1),(W.heap.size+1+1,.cells cs t (0,0)),(W.heap.size+1+1+1,o3)] w):St W [(W.heap.size,o0),(W.heap.size+1,o1),(W.heap.size+1+1,.cells cs' t (0,0)),(W.heap.size+1+1+1,o3)] (w.setRow (W+1+1) cs'):=by
 refine ⟨fun g o a=>?_,j_ h.below O_ _⟩;have h0:=h.bk _ _ cO;have h1:=h.bk _ _ jQ;have h2:=h.bk _ _ jB;have h3:=h.bk _ _ tI;simp only[qJ,List.not_mem_nil,or_false,Prod.mk.injEq] at a
 rcases a with ⟨rfl,rfl⟩ | ⟨rfl,rfl⟩ | ⟨rfl,rfl⟩ | ⟨rfl,rfl⟩
 ·exact (setRow_other _ _ _ _ O_).trans h0
 ·exact (setRow_other _ _ _ _ O_).trans h1
 ·exact setRow_heap _ _ _ _ _ _ h2
 ·exact (setRow_other _ _ _ _ O_).trans h3
theorem Bd.boxRow (h:Bd w S B X gf nf cf gr nr cr c d e f g C) {Z:Nat} (hZ:Z<B) (hS:¬S Z) (cs:Array Value):Bd (w.setRow Z cs) S B X gf nf cf gr nr cr c d e f g C:=
 h.kept (r_.of_setRow w Z cs (fun hz=>hS hz.1)) (setRow_other _ _ _ _ (by have:=h.o0;omega)) (setRow_other _ _ _ _ (by have:=h.o1;omega)) (setRow_other _ _ _ _ (by have:=h.o2;omega))
theorem LW.page {g:Nat} {L:List Fr} (h:LW rM w S g L) (hi:L[i]?=some x) (p:Pg):LW rM (w.setCells g (i*9+2) [.string p.data,I_ p.valid,I_ p.dirty]) S g (L.set i {x with pg:=p}):=
 h.setPart (p:=2) hi (by show 2+3<=9;omega) (fun u hu=>by simp at hu;rcases hu with rfl | rfl | rfl <;> rfl) (fun r hr=>by
  have hr:r=x.row:=hr;subst hr
  rfl)
theorem LW.writing {g:Nat} {L:List Fr} (h:LW rM w S g L) (hi:L[i]?=some x) (v:Int):LW rM (w.setCell ⟨g,i*9+8,none⟩ (I_ v)) S g (L.set i {x with writing:=v}):=
 h.setOne (p:=8) hi O_ rfl (fun r hr=>by
  have hr:r=x.row:=hr;subst hr
  rfl)
def S3 (n:Nat):Nat->Prop:=fun z=>z≠n+1/\z≠n+1+1/\z≠n+1+1+1
def xE (w V:World) (cs rq:Array Value) (err:Int) (d:Nat->Bool) (wx:World):Prop:=r_ (S3 (w)) V wx/\q_ w wx/\wx.heap[w.heap.size+1+1]?=some (.cells rq 37 (0,0))/\(∃c0,wx.heap[w.heap.size+1]?=some (.cells c0 30 (0,0))/\c0.size=7/\(d 5=true->c0=cs))/\(∃u,wx.heap[w.heap.size+1+1+1]?=some (.cells #[u] 38 (0,0))/\(d 7=true->u = I_ err))
def G3d (A B D:Value):Nat->Value->Prop
 | 0,v=>v=A
 | 1,v=>v=A
 | 2,v=>v=A
 | 3,v=>v=B
 | 4,v=>v=D
 | _+5,_=>True
section
variable {w V wx:World} {cs rq:Array Value} {err:Int} {d:Nat->Bool}
theorem xE.start {c0:Array Value} (hb:q_ w V) (h1:V.heap[w.heap.size+1]?=some (.cells c0 30 (0,0))) (h7:c0.size=7) (h2:V.heap[w.heap.size+1+1]?=some (.cells rq 37 (0,0))) (h3:V.heap[w.heap.size+1+1+1]?=some (.cells #[u] 38 (0,0))):xE w V cs rq err (fun _=>false) V:=
 ⟨r_.refl V,hb,h2,⟨c0,h1,h7,fun h=>by cases h⟩,⟨u,h3,fun h=>by cases h⟩⟩
theorem xE.drew (h:xE w V cs rq err d wx):xE w V cs rq err d {wx with drawn:=wx.drawn+1}:=⟨h.1,h.2.1.drew,h.2.2⟩
theorem xE.more (h:xE w V cs rq err d wx) {i:Nat} (h5:i≠5) (h7:i≠7):xE w V cs rq err (Y_ d i) wx:=by
 obtain ⟨a,b,c,⟨c0,j,k,l⟩,⟨u,m,n⟩⟩:=h;have f:Y_ d i 5=d 5:=by unfold Y_;rw [beq_eq_false_iff_ne.2 (Ne.symm h5),Bool.or_false]
 have g:Y_ d i 7=d 7:=by unfold Y_;rw [beq_eq_false_iff_ne.2 (Ne.symm h7),Bool.or_false]
 exact ⟨a,b,c,⟨c0,j,k,fun e=>l (by rw [<-f];exact e)⟩,⟨u,m,fun e=>n (by rw [<-g];exact e)⟩⟩
theorem xE.cache (h:xE w V cs rq err d wx) (hcs:cs.size=7):xE w V cs rq err (Y_ d 5) (wx.setRow (w+1) cs):=by
 obtain ⟨a,b,c,⟨c0,i,l,m⟩,⟨u,j,k⟩⟩:=h;have f:Y_ d 5 7=d 7:=by unfold Y_;simp
 exact ⟨a.trans (r_.of_setRow _ _ _ (fun g=>g.1 rfl)),j_ b O_ _,(setRow_other _ _ _ _ O_).trans c,⟨_,setRow_heap _ _ _ _ _ _ i,hcs,fun _=>rfl⟩,⟨u,(setRow_other _ _ _ _ O_).trans j,fun e=>k (by rw [<-f];exact e)⟩⟩
theorem xE.req (h:xE w V cs rq err d wx):xE w V cs rq err (Y_ d 6) (wx.setRow (w+1+1) rq):=by
 obtain ⟨a,b,c,⟨c0,g,j,k⟩,⟨u,l,m⟩⟩:=h.more (i:=6) bX bX;exact ⟨a.trans (r_.of_setRow _ _ _ (fun f=>f.2.1 rfl)),j_ b O_ _,setRow_heap _ _ _ _ _ _ c,⟨c0,(setRow_other _ _ _ _ O_).trans g,j,k⟩,⟨u,(setRow_other _ _ _ _ O_).trans l,m⟩⟩
theorem xE.er (h:xE w V cs rq err d wx):xE w V cs rq err (Y_ d 7) (wx.setCell ⟨w+1+1+1,0,none⟩ (I_ err)):=by
 obtain ⟨a,b,c,⟨c0,i,j,k⟩,⟨u,l,m⟩⟩:=h;have f:Y_ d 7 5=d 5:=by unfold Y_;simp
 exact ⟨a.trans (r_.of_setCell _ ⟨_,0,none⟩ _ (fun g=>g.2.2 rfl)),bA b _ _ (by show w.heap.size<=w.heap.size+1+1+1;omega),aM c _ _ (by show w.heap.size+1+1≠w.heap.size+1+1+1;omega),⟨c0,aM i _ _ (by show w.heap.size+1≠w.heap.size+1+1+1;omega),j,fun e=>k (by rw [<-f];exact e)⟩,⟨_,R_ l _,fun _=>rfl⟩⟩
end
theorem r_.weak {S S':Nat->Prop} (h:r_ S w w') (hs:∀z,S' z->S z):r_ S' w w':=⟨h.1,fun z hz=>h.2 z (hs z hz)⟩
theorem ib_ (h:fn.results=#[.cell p 30,.cell r 37,.cell q 38]) (err:Int)
  (hp:tmps.getD p undef = P_ (w+1)) (hr:tmps.getD r undef = P_ (w+1+1)) (hq:tmps.getD q undef = P_ (w+1+1+1))
  (HR:V.heap[w.heap.size+1]?=some (.cells cs 30 (0,0))) (HQ:V.heap[w.heap.size+1+1]?=some (.cells rq 37 (0,0))) (HE:V.heap[w.heap.size+1+1+1]?=some (.cells #[I_ err] 38 (0,0)))
  (hB:Bd V (S4 S (w)) B X gf nf cf gr nr cr c d e f g C) (hcs:cs=#[S_ (some ⟨gf,0,none⟩) nf cf,S_ (some ⟨gr,0,none⟩) nr cr,c,d,e,f,g]) (hrq:rq.size=10) (hb:q_ w V) (hP:Pr C (.agg rq) err) :
  Leaves prog fn tmps (lT Pr S w) [] .returning V:=by
 subst hcs;refine ⟨_,hM_ h tmps (w+1+1+1) hp hr hq HR HQ (a_ HE 0) rfl hrq,?_⟩;exact ⟨C,err,_,_,_,_,_,_,_,_,hP,rfl,hB.at_.weak (fun z _ hz=>hz.1),hb⟩
theorem ofi (h:dE C i x j y):decide (0<=x.file)=true:=dT (by rw [h.ix];omega)
theorem e7_ (s:Nat) (h:x_ w S a b c d e f g C) (ok:lS C) (hu:dE C i x j y) (hs:y.slot=s) (hs7:s<7) (hpt:eD C.ptes) (hv:0<D_ y.c x.page) (hdb:qM w) (hS:∀z,w.heap.size<=z->S z) :
  C_ 10 #[cI a b c d e f g,I_ ((i:Int)+1)] w (lT (jR C i j x y) S w):=by
 have ch:=fun w' (hb:q_ w w') (hlt:w.heap.size+1+1+1<w'.heap.size)=>vT C a b c d e f g (S4 S (w)) w' ((h.weak (fun z hz hs=>⟨hs,O_,O_,O_,O_⟩)).step hb) ok (fun z hz=>⟨hS z O_,O_,O_,O_,O_⟩);have bj:=fun w' (hb:q_ w w')=>pT i x (h.step hb) hu.fr ok.ok.frames.2;rw [ofi hu] at bj;have H:=H_ h;obtain ⟨A1,m1,c1,A2,m2,c2,A3,m3,c3,A4,m4,c4,A5,m5,c5,A6,m6,c6,A7,m7,c7,rfl,rfl,rfl,rfl,rfl,rfl,rfl⟩:=x_.caps h;obtain ⟨bb,o,rfl,cy,y0,y1,y2,y3,y4,y5,y6,y7,y8⟩:=FrA.cells h.frames hu.fr;obtain ⟨bf,of,kt,KB,kc,rfl,cc,k1,k2,k3,k4,d1⟩:=FlA.cells h.files hu.fl;have dq:=bK hu.fr;have dr:=bK hu.fl;have d8:m2=C.frames.length:=by obtain ⟨_,_,e,_⟩:=h.frames.form;injection e
 have d7:m1=C.files.length:=by obtain ⟨_,_,e,_⟩:=h.files.form;injection e
 subst d7 d8;have i2:(i:Int)<(C.frames.length:Int):=O_
 have i4:(i:Int)+1<=100:=by have:=ok.ok.frames.2;omega
 have j2:(j:Int)<(C.files.length:Int):=O_
 have j0:(0:Int)<=(j:Int):=O_
 obtain ⟨HU,br,bp,cu,HV,cp⟩:=h6_ hu ok hdb hs hv hpt;rw [hu.ix] at y0;clear h ok hu hdb hs k1 k2 k3 k4 hv hpt;have HS:=H_ (show St w [(w.heap.size,.cells (E_ (some ⟨bf,of,none⟩) C.files.length c1 (some ⟨bb,o,none⟩) C.frames.length c2 A3 m3 c3 A4 m4 c4 A5 m5 c5 A6 m6 c6 A7 m7 c7) 30 (0,0)),(w.heap.size+1,cG),(w.heap.size+1+1,lK),(w.heap.size+1+1+1,.cells #[I_ 0] 38 (0,0))] ((((w.alloc (.cells (E_ (some ⟨bf,of,none⟩) C.files.length c1 (some ⟨bb,o,none⟩) C.frames.length c2 A3 m3 c3 A4 m4 c4 A5 m5 c5 A6 m6 c6 A7 m7 c7) 30)).alloc (cG)).alloc (lK)).alloc (.cells #[I_ 0] 38)) from (((St.nil w).push _ _ rfl).push _ (w+1) z_).push _ (w+1+1) z_ |>.push _ (w+1+1+1) z_)
 go_enter_defers func10,ntmps10
 go_upto_region 2 with fail
 generalize (((w.alloc (.cells (E_ (some ⟨bf,of,none⟩) C.files.length c1 (some ⟨bb,o,none⟩) C.frames.length c2 A3 m3 c3 A4 m4 c4 A5 m5 c5 A6 m6 c6 A7 m7 c7) 30)).alloc (cG)).alloc (lK)).alloc (.cells #[I_ 0] 38)=V at HS;have bw:=HS.bk _ _ cO;obtain ⟨x0,G,I,J,L,M,N⟩:=aF bw
 go_upto_region 3 with (go_at_call 42;refine CM (ch _ HS.below (p_ (HS.bk _ _ tI))) ?_;rintro e w1 ⟨X,gf,nf,cf,gr,nr,cr,c',d',e',f',g',rfl,hB,m⟩)
 have cw:w.heap.size+4<=V.heap.size:=p_ (HS.bk _ _ tI);have ar:=H_ (HS.step m);have b2:=H_ hB;obtain ⟨B1,c9⟩:=aZ V.heap.size;rw [<-c9] at b2 cw;obtain ⟨E3,e3,k3,rfl⟩:=hB.zones.cap;obtain ⟨E4,e4,k4,rfl⟩:=hB.groups.cap;obtain ⟨E5,e5,k5,rfl⟩:=hB.lists.cap;obtain ⟨E6,e6,k6,rfl⟩:=hB.clocks.cap;obtain ⟨E7,e7,k7,rfl⟩:=hB.ptes.cap;clear x0 G I J L M N bw hB m HS c9 ch;have bx:=ar.bk _ _ cO;obtain ⟨x0,G,I,J,L,M,N⟩:=aF bx
 go_upto_region 5 with (go_at_call 43;refine CM (bj _ ar.below) ?_;rintro e w2 ⟨rfl,ak⟩;have au:=H_ (ar.step ak);have bm:=H_ (b2.step ak))
 clear x0 G I J L M N bx ak ar b2 bj;have bz:=au.bk _ _ cO;obtain ⟨x0,G,I,J,L,M,N⟩:=aF bz;have av:=H_ au.below;have aq:=kt9 (av.block _ cy) y0 y1 y2 y3 y4 y5 y6 y7 y8;clear y0 y1 y2 y3 y4 y5 y6 y7 y8;obtain ⟨y0,y1,y2,y3,y4,y5,y6,y7,y8⟩:=aq
 go_upto_region 6 with fail
 have HF:=H_ (g_ w2 (.cells (fG (j:Int) x) 85));have u:=H_ (au.alloc (.cells (fG (j:Int) x) 85));have a0:=H_ (bm.step (b_ B_ (.cells (fG (j:Int) x) 85)));generalize w2.alloc (.cells (fG (j:Int) x) 85)=V3 at HF u a0;clear x0 G I J L M N y0 y1 y2 y3 y4 y5 y6 y7 y8 bz au bm av;obtain ⟨f0,f1,f2,f3,f4,f5,f6,f7,f8⟩:=sE HF.out
 by_cases Y:x.writing=0
 ·have d3:(x.writing != 0)=false:=by rw [Y];rfl
  by_cases ab:x.pg.dirty=0
  ·have d4:(x.pg.dirty == 0)=true:=by rw [ab];rfl
   have HB:=H_ (show jR C i j x y C rq0 4 by unfold jR;rw [if_neg (fun h=>h Y),if_pos ab];exact ⟨rfl,rfl,rfl⟩);clear ab Y;have a2:=a0.box;obtain ⟨x0,G,I,J,L,M,N⟩:=aF a2;have af:=u.bk _ _ jQ;have a5:=u.bk _ _ jB;have a4:=u.bk _ _ tI;have e0:((V3.setRow (w+1) (E_ (o_ gf) nf cf (o_ gr) nr cr E3 e3 k3 E4 e4 k4 E5 e5 k5 E6 e6 k6 E7 e7 k7)).setRow (w+1+1) lO).cell? ⟨w+1+1+1,0,none⟩=some (I_ 0):=(c_ ((setRow_other _ (w+1+1) (w+1+1+1) _ O_).trans (setRow_other _ (w+1) (w+1+1+1) _ O_))).trans (a_ a4 0);have ez:((V3.setRow (w+1) (E_ (o_ gf) nf cf (o_ gr) nr cr E3 e3 k3 E4 e4 k4 E5 e5 k5 E6 e6 k6 E7 e7 k7)).setRow (w+1+1) lO).frozen? ⟨w+1+1+1,0,none⟩=false:=(World.frozen?_of_block (a:=⟨w+1+1+1,0,none⟩) ((setRow_other _ (w+1+1) (w+1+1+1) _ O_).trans (setRow_other _ (w+1) (w+1+1+1) _ O_))).trans (t_ a4 0)
   go_wp2_with (first
    | (refine aJ rfl (.tmp 4) (.tmp 45) rfl rfl rfl rfl af rfl ?_)
    | (refine cV rfl 37 (.tmp 5) (.tmp 46) rfl rfl (w+1+1) lO rfl rfl 37 _ ((setRow_other _ (w+1) (w+1+1) _ O_).trans a5) bT rfl (dX) ?_))
   refine leaves_cons (f:=41) (args:=#[P_ (w+1+1+1)]) z_ (by simp [go_sem]) ?_;refine (fO).mono ?_;rintro e u' az ⟨rfl,rfl,rfl⟩;exact a7_ rfl 4 rfl rfl rfl ⟨_,af⟩ ⟨_,a5⟩ ⟨_,a4⟩ a0.out rfl rfl u.below HB.out
  ·have d4:(x.pg.dirty == 0)=false:=beq_eq_false_iff_ne.2 ab;have dd:=HU.ok.pg.d;have d5:1<=x.pg.dirty/\x.pg.dirty<=3:=O_
   have D5:=H_ d5;have cm:=H_ (show jR C i j x y (qR C i j x y (iA x y)) (rqP x y (iA x y) 2 (iL x (iA x y))) 0 by unfold jR;rw [if_neg (fun h=>h Y),if_neg ab];exact ⟨rfl,rfl,rfl⟩);clear ab dd d5 Y;obtain ⟨p,hp⟩:∃p:Nat,x.page=p:=⟨x.page.toNat,by have:=HU.ok.page;omega⟩;have da:p<8:=by have:=HU.ok.page;omega
   have HP:=H_ hp;have bv:=H_ (show iA x y=if aC y p=true then 3 else x.pg.dirty by unfold iA aC;rw [hp];rfl);clear hp;have a6:=fun w'=>f5_ y kt KB kc p da w';simp only[Fl.v,Fl.rowT,List.toArray] at a6;have b6:=H_ u.below;obtain ⟨z0,z1,z2,z3,z4,z5,z6,z7,z8,z9,za,zb,zc,zd,ze⟩:=zc (b6.block _ cc) d1
   have dj:bf<V3:=iS cc b6.size;have dp:=p_ HF;have b7:=u.bk _ _ cO;have ds:=p_ b7;obtain ⟨x0,G,I,J,L,M,N⟩:=aF b7;rw [HP.out] at f1
   go_upto_region 11 with fail
   go_cut [56] from 47 to 55 (fun s56 wx=>∃t:Bool,s56 = .bool t/\t=(!aC y p)/\St w [(w.heap.size,.cells (E_ (some ⟨bf,of,none⟩) C.files.length c1 (some ⟨bb,o,none⟩) C.frames.length c2 A3 m3 c3 A4 m4 c4 A5 m5 c5 A6 m6 c6 A7 m7 c7) 30 (0,0)),(w.heap.size+1,cG),(w.heap.size+1+1,lK),(w.heap.size+1+1+1,.cells #[I_ 0] 38 (0,0))] wx/\Bd wx (S4 S (w)) B1 X gf nf cf gr nr cr (S_ E3 e3 k3) (S_ E4 e4 k4) (S_ E5 e5 k5) (S_ E6 e6 k6) (S_ E7 e7 k7) C/\aW wx (w2) (fG (j:Int) x) 85)
   case first=>
    have xe:=aG V3;refine y_ s_ s_ ?_
    repeat (first | (refine wpQuiet_step (fun K hK=>?_);go_simp;(with_reducible refine hK _ ?_);clear hK K) | (refine wpQuiet_step (fun K hK=>?_);go_simp;apply Exists.intro;refine ⟨fun _=>?_,hK _ ?_⟩;(with_reducible exact aB (a6 _));clear hK K))
    refine wpQuiet_nil ?_;rintro w' ⟨z,rfl⟩;go_wp2;go_meet
    case rel=>exact ⟨_,rfl,rfl,u.step (n_ _ _),a0.step (n_ _ _),i_ HF (n_ _ _)⟩
   case rest=>
    obtain ⟨t,rfl,ht,aj,ah,ai⟩:=hcut;obtain ⟨HT,aa,ac,a9⟩:=sP ht aj ah ai;clear ht aj ah ai a6 u a0 HF b6 x0 G I J L M N f0 f1 f2 f3 f4 f5 f6 f7 f8 z0 z1 z2 z3 z4 z5 z6 z7 z8 z9 za zb zc zd ze b7 d3 d4
    go_upto_if 56 with fail
    go_cut [9,10,11] from 57 to 68 (fun s9 s10 s11 wx=>∃r:Int,s9 = I_ r/\r=iA x y/\(r=1\/r=2\/r=3)/\St w [(w.heap.size,.cells (E_ (some ⟨bf,of,none⟩) C.files.length c1 (some ⟨bb,o,none⟩) C.frames.length c2 A3 m3 c3 A4 m4 c4 A5 m5 c5 A6 m6 c6 A7 m7 c7) 30 (0,0)),(w.heap.size+1,cG),(w.heap.size+1+1,lK),(w.heap.size+1+1+1,.cells #[I_ 0] 38 (0,0))] wx/\Bd wx (S4 S (w)) B1 X gf nf cf gr nr cr (S_ E3 e3 k3) (S_ E4 e4 k4) (S_ E5 e5 k5) (S_ E6 e6 k6) (S_ E7 e7 k7) C/\aW wx (w2) (fG (j:Int) x) 85)
    case first=>
     cases hho:aC y p with
     | true=>
      have e:t=false:=by rw [HT.out,hho];rfl
      have U:iA x y=3:=by rw [bv.out,if_pos hho]
      have R:=H_ U;subst e;clear hho U;go_wp2;go_meet
      case rel=>exact ⟨3,rfl,R.symm,.inr (.inr rfl),aa,ac.out,a9⟩
     | false=>
      have e:t=true:=by rw [HT.out,hho];rfl
      have U:iA x y=x.pg.dirty:=by rw [bv.out,if_neg (by rw [hho];simp)]
      have R:=H_ U;subst e;clear hho U;have f4:=a_ a9 4;simp only[zl] at f4;obtain ⟨dy,be⟩:=aZ x.pg.dirty;rw [<-be] at f4;have b3:=H_ be;have d2:dy=1\/dy=2\/dy=3:=by have:=D5.out;omega
      have am:=bp.step aa.below;clear be
      rcases d2 with rfl | rfl | rfl
      ·have W:=fun w' (hb:q_ wc w')=>sY 1 0 1 (am.step hb) (.inl ⟨rfl,rfl,rfl⟩)
       go_wp2_with (go_at_call 45;(with_reducible refine CM (W _ B_) ?_);rintro e w1 ⟨rfl,m⟩)
       go_meet
       case rel=>exact ⟨1,rfl,by rw [R.out,<-b3.out],.inl rfl,aa.step m,ac.step m,i_ a9.out m⟩
      ·have W:=fun w' (hb:q_ wc w')=>sY 2 1 1 (am.step hb) (.inr (.inl ⟨rfl,rfl,rfl⟩))
       go_wp2_with (go_at_call 45;(with_reducible refine CM (W _ B_) ?_);rintro e w1 ⟨rfl,m⟩)
       go_meet
       case rel=>exact ⟨2,rfl,by rw [R.out,<-b3.out],.inr (.inl rfl),aa.step m,ac.step m,i_ a9.out m⟩
      ·have W:=fun w' (hb:q_ wc w')=>sY 3 0 2 (am.step hb) (.inr (.inr ⟨rfl,rfl,rfl⟩))
       go_wp2_with (go_at_call 45;(with_reducible refine CM (W _ B_) ?_);rintro e w1 ⟨rfl,m⟩)
       go_meet
       case rel=>exact ⟨3,rfl,by rw [R.out,<-b3.out],.inr (.inr rfl),aa.step m,ac.step m,i_ a9.out m⟩
    case rest=>
     obtain ⟨r,rfl,U,db,aj,ah,ai⟩:=hcut;obtain ⟨ct,ag,bn,bq⟩:=sP U aj ah ai;clear U aj ah ai aa ac a9 HT;obtain ⟨D,F,bg,ba,W⟩:∃D F:Nat,(dR r).1=D/\(dR r).2=F/\((r=1/\(D:Int)=0/\(F:Int)=1)\/(r=2/\(D:Int)=1/\(F:Int)=1)\/(r=3/\(D:Int)=0/\(F:Int)=2)):=by
      rcases db with rfl | rfl | rfl
      ·exact ⟨0,1,rfl,rfl,.inl ⟨rfl,rfl,rfl⟩⟩
      ·exact ⟨1,1,rfl,rfl,.inr (.inl ⟨rfl,rfl,rfl⟩)⟩
      ·exact ⟨0,2,rfl,rfl,.inr (.inr ⟨rfl,rfl,rfl⟩)⟩
     obtain ⟨dd,bc⟩:=aZ (x.pg.data.extract (D*8) ((D+F)*8));have cn:=H_ (show iL x r=dd by unfold iL;rw [bg,ba,bc];rfl);have cq:=H_ (show rqP x y r 2 dd = .agg (bJ 0 x.tenant y.dev 2 (y.slot*18+2+x.page*2+(D:Int)) (F:Int) dd false false 0) by unfold rqP;rw [bg,ba]);have ci:=fun w' (hb:q_ w w') (ak:aW w' (w2) (fG (j:Int) x) 85)=>cm_ i j x y 2 r D F dd (.inl ⟨w2,rfl,rfl⟩) (H.step hb) HU.fr HU.ix HU.fl br.ok.frames.2 (by rw [cu.out];omega) HU.ok.page (bp.step hb) W (fun az cx=>by
      rw [bc];have d0:=a_ (i_ ak cx) 2;exact dY_ D F (w2) #[] x.pg.data az d0 O_ O_ HU.ok.pg.len)
     have dm:0<=D:=Nat.zero_le _;clear bg ba bc;have c8:=ag.bk _ _ cO;obtain ⟨x0,G,I,J,L,M,N⟩:=aF c8;have bs:=ag.bk _ _ jB
     go_upto_region 15 with (first
      | (go_at_call 46;refine CM (ci _ ag.below bq) ?_;rintro e w5 ⟨rfl,aw⟩)
      | (refine cV rfl 37 (.tmp 5) (.tmp 73) rfl rfl (w+1+1) (bJ 0 x.tenant y.dev 2 (y.slot*18+2+x.page*2+(D:Int)) (F:Int) dd false false 0) rfl rfl 37 _ (i_ bs aw) bT rfl (dX) ?_))
     have b4:=H_ ((ag.step aw).setRow4 (bJ 0 x.tenant y.dev 2 (y.slot*18+2+x.page*2+(D:Int)) (F:Int) dd false false 0));have ad:=H_ ((bn.step aw).boxRow (Z:=w.heap.size+1+1) O_ (fun h=>h.2.2.2.1 rfl) (bJ 0 x.tenant y.dev 2 (y.slot*18+2+x.page*2+(D:Int)) (F:Int) dd false false 0));generalize w5.setRow (w+1+1) (bJ 0 x.tenant y.dev 2 (y.slot*18+2+x.page*2+(D:Int)) (F:Int) dd false false 0)=V6 at b4 ad;clear ag bn bq c8 bs x0 G I J L M N aw ci W;have an:C.frames[i]?=some x:=HU.fr;have cg:nr<=100:=by have:=ad.er;have:=br.ok.frames.2;omega
     have ce:=jU i x ad.out an cg
     go_upto_region 16 with (go_at_call 48;refine CM ce ?_;rintro e w7 ⟨rfl,b9⟩)
     have bu:=H_ (b4.step b9);have O:=H_ (ad.step b9);clear b4 ad b9 ce;have ax:∀(g':Nat) (ob:Obj),(g',ob) ∈ ([(w.heap.size,.cells (E_ (some ⟨bf,of,none⟩) C.files.length c1 (some ⟨bb,o,none⟩) C.frames.length c2 A3 m3 c3 A4 m4 c4 A5 m5 c5 A6 m6 c6 A7 m7 c7) 30 (0,0)),(w.heap.size+1,cG),(w.heap.size+1+1,.cells (bJ 0 x.tenant y.dev 2 (y.slot*18+2+x.page*2+(D:Int)) (F:Int) dd false false 0) 37 (0,0)),(w.heap.size+1+1+1,.cells #[I_ 0] 38 (0,0))]:List (Nat × Obj))->g'<B1:=fun g' ob hm=>by
      simp only[qJ,List.not_mem_nil,or_false,Prod.mk.injEq] at hm
      rcases hm with ⟨rfl,_⟩ | ⟨rfl,_⟩ | ⟨rfl,_⟩ | ⟨rfl,_⟩ <;> omega
     have ay:w.heap.size<=B1:=O_
     have r2:=O.frames.frame_at an 2 _ rfl;have r3:=O.frames.frame_at an 3 _ rfl;have r4:=O.frames.frame_at an 4 _ rfl;have cd:=fun w'=>e8_ x.pg.data x.pg.valid x.pg.dirty r w' HU.ok.pg O_
     go_upto_region 17 with (first
      | (go_at_call 49;(with_reducible refine CM (cd _) ?_);rintro e w8 ⟨rfl,al⟩;have cl:=(O.step al).frames.there (i:=i) (p:=2) (n:=3) O_ O_)
      | (refine pF rfl 83 (.tmp 88) (.tmp 85) rfl gr (i*9+2) #[.string (bR x.pg r).data,I_ (bR x.pg r).valid,I_ (bR x.pg r).dirty] rfl rfl cl dB (eX) ?_))
     have a1:=H_ ((O.step al).putFrames (J_ w8 gr (i*9+2) _) ((O.step al).frames.page an (bR x.pg r)) z_);have b5:=H_ ((bu.step al).grown (J_ w8 gr (i*9+2) [.string (bR x.pg r).data,I_ (bR x.pg r).valid,I_ (bR x.pg r).dirty]) (fun k e=>by cases e;exact O.o2) ax ay);generalize w8.setCells gr (i*9+2) _=V8 at a1 b5;clear O bu cl al cd r2 r3 r4;obtain ⟨xa,ao⟩:=aZ ({x with pg:=bR x.pg r})
     rw [<-ao] at a1;have d6:(C.frames.set i xa)[i]?=some xa:=nU O_;obtain ⟨⟨u8,de⟩,dh⟩:=a1.frames.slot (i:=i) (p:=8) (by simp;omega) O_
     go_upto_region 18 with fail
     have B:=H_ (a1.putFrames (v_ V8 ⟨gr,i*9+8,none⟩ (I_ r)) (a1.frames.writing d6 r) z_);have E:=H_ (b5.grown (v_ V8 ⟨gr,i*9+8,none⟩ (I_ r)) (fun k e=>by cases e;exact a1.o2) ax ay);generalize V8.setCell ⟨gr,i*9+8,none⟩ (I_ r)=V9 at B E;clear a1 b5 de dh;obtain ⟨xb,ap⟩:=aZ ({xa with writing:=r})
     rw [<-ap] at B;have ae:=B.box;obtain ⟨x0,G,I,J,L,M,N⟩:=aF ae;have cj:=bz_ ((i:Int)+1) B.ptes cp (fun z hz=>⟨⟨hS z (by have:=E.below.size;omega),by have:=E.below.size;have:=p_ (E.bk _ _ tI);omega,by have:=p_ (E.bk _ _ tI);omega,by have:=p_ (E.bk _ _ tI);omega,by have:=p_ (E.bk _ _ tI);omega⟩,by have:=p_ ae;omega,by have:=B.files.lt;omega,by have:=B.frames.lt;omega⟩)
     go_upto_region 19 with (go_at_call 50;refine CM cj ?_;rintro e w10 ⟨pv,rfl,bi,a8⟩;obtain ⟨P8,n8,r8,rfl⟩:=bi.cap;have a3:=(B.step a8).box;have o6:=a_ a3 6;have di:=t_ a3 6)
     have a7:=H_ ((B.step a8).putPtes bi);have P:=H_ ((E.step a8).grown (v_ w10 ⟨X,6,none⟩ (S_ P8 n8 r8)) (fun k e=>by cases e;exact B.o0) ax ay);generalize w10.setCell ⟨X,6,none⟩ (S_ P8 n8 r8)=cv at a7 P;clear B E bi a8 a3 o6 di x0 G I J L M N ae cj;have bh:i<(C.frames.set i xa).length:=by simp;omega
     have dg:xb.file=j:=by rw [ap,ao];exact HU.ix
     have d9:zE xb y:=by
      refine ⟨?_,?_⟩
      ·rw [ap,ao];exact HU.ok.page
      ·rw [ap,ao];exact HV
     have ck:=fun w' (hb:q_ cv w')=>oJ i j xb y (a7.step hb) (nU bh) cg dg HU.fl d9 (fun z hz=>by have:=P.below.size;have:=hb.size;have:=p_ (P.bk _ _ tI);exact ⟨hS z O_,O_,O_,O_,O_⟩)
     go_upto_region 20 with (go_at_call 51;refine CM (ck _ B_) ?_;rintro e w12 ⟨⟨v12,rfl⟩,b0,b1⟩)
     have l:=H_ b0;have Q:=H_ (P.grown b1 (fun k e=>by cases e;exact a7.o1) ax ay);clear a7 P b0 b1 ck;have a2:=l.box;obtain ⟨x0,G,I,J,L,M,N⟩:=aF a2;have HQ:=Q.bk _ _ jB;have u0:=a_ HQ 0;have u1:=a_ HQ 1;have u2:=a_ HQ 2;have u3:=a_ HQ 3;have u4:=a_ HQ 4;have u5:=a_ HQ 5;have u6:=a_ HQ 6;have u7:=a_ HQ 7;have u8:=a_ HQ 8;have u9:=a_ HQ 9;simp only[zl] at u0 u1 u2 u3 u4 u5 u6 u7 u8 u9;have cb:=p_ a2;have dl:=p_ HQ;have bo:=(xE.start (rq:=(bJ 0 x.tenant y.dev 2 (y.slot*18+2+x.page*2+(D:Int)) (F:Int) dd false false 0)) (cs:=(E_ (o_ gf) nf cf (o_ gr) nr cr E3 e3 k3 E4 e4 k4 E5 e5 k5 E6 e6 k6 P8 n8 r8)) (err:=0) Q.below (Q.bk _ _ jQ) rfl HQ (Q.bk _ _ tI)).drew;have ca:S3 (w) X:=⟨by have:=l.o0;omega,by have:=l.o0;omega,by have:=l.o0;omega⟩;refine bU (Γ:=Unit) 112 6 (fun i=>decide (i<=5)) (fun _ d wx=>xE w w12 (E_ (o_ gf) nf cf (o_ gr) nr cr E3 e3 k3 E4 e4 k4 E5 e5 k5 E6 e6 k6 P8 n8 r8) (bJ 0 x.tenant y.dev 2 (y.slot*18+2+x.page*2+(D:Int)) (F:Int) dd false false 0) 0 d wx) (fun _ j v _=>G3d (P_ X) (.agg (E_ (o_ gf) nf cf (o_ gr) nr cr E3 e3 k3 E4 e4 k4 E5 e5 k5 E6 e6 k6 P8 n8 r8)) (.agg (bJ 0 x.tenant y.dev 2 (y.slot*18+2+x.page*2+(D:Int)) (F:Int) dd false false 0)) j v) () s_ s_ rfl bo (fun ii oo ho hd _ v _ hg=>by
      match ii with
      | 0=>obtain rfl:=aP ho;cases hd
      | 1=>obtain rfl:=aP ho;cases hd
      | 2=>obtain rfl:=aP ho;cases hd
      | 3=>obtain rfl:=aP ho;cases hd
      | 4=>obtain rfl:=aP ho;cases hd
      | _+5=>trivial) ?_
     refine qE fun v0=>qE fun v1=>qE fun v2=>?_;simp only[ly];refine h_ (fun _ dn q _ _ A hd K hK=>?_) (fun v3=>?_)
     ·obtain rfl:v2=_:=hd 2 s_;have hq:=A.1.2 X ca cb;have aq:=kt7 hq x0 G I J L M N;clear x0 G I J L M N;obtain ⟨x0,G,I,J,L,M,N⟩:=aq;go_simp;exact hK () _ _ (A.more bX bX) (fun _ _ h=>h) rfl
     simp only[ly];refine h_ (fun _ dn q _ _ A hd K hK=>?_) (fun v4=>?_)
     ·have hq:=A.2.2.1.trans HQ.symm;have aq:=jN_ hq u0 u1 u2 u3 u4 u5 u6 u7 u8 u9;clear u0 u1 u2 u3 u4 u5 u6 u7 u8 u9;obtain ⟨u0,u1,u2,u3,u4,u5,u6,u7,u8,u9⟩:=aq;go_simp;exact hK () _ _ (A.more bX bX) (fun _ _ h=>h) rfl
     simp only[ly];refine h_ (fun _ dn q _ _ A hd K hK=>?_) (fun v5=>?_)
     ·obtain rfl:v3=_:=hd 3 s_;obtain ⟨c0,c5,dc,_⟩:=A.2.2.2.1;refine cK rfl 30 (.tmp 4) (.tmp 110) rfl rfl (E_ (o_ gf) nf cf (o_ gr) nr cr E3 e3 k3 E4 e4 k4 E5 e5 k5 E6 e6 k6 P8 n8 r8) rfl rfl 30 c0 c5 fI (by rw [dc];rfl) (tR) ?_;exact hK () undef _ (A.cache rfl) (fun _ _ h=>h) trivial
     simp only[ly];refine h_ (fun _ dn q _ _ A hd K hK=>?_) (fun v6=>?_)
     ·obtain rfl:v4=_:=hd 4 s_;refine cK rfl 37 (.tmp 5) (.tmp 111) rfl rfl (bJ 0 x.tenant y.dev 2 (y.slot*18+2+x.page*2+(D:Int)) (F:Int) dd false false 0) rfl rfl 37 _ A.2.2.1 bT rfl (dX) ?_;exact hK () undef _ A.req (fun _ _ h=>h) trivial
     simp only[ly];refine h_ (fun _ dn q _ _ A hd K hK=>?_) (fun v7=>?_)
     ·obtain ⟨uu,c7,_⟩:=A.2.2.2.2;have e0:=a_ c7 0;have ez:=t_ c7 0;go_simp;exact hK () undef _ A.er (fun _ _ h=>h) trivial
     simp only[ly];refine dD ?_;intro _ dn q bd A _;have bl:=H_ (l.kept (A.1.weak (fun z hz=>⟨hz.1.2.2.1,hz.1.2.2.2.1,hz.1.2.2.2.2⟩)) (A.1.2 X ca cb) (A.1.2 gf ⟨by have:=l.o1;omega,by have:=l.o1;omega,by have:=l.o1;omega⟩ l.files.lt) (A.1.2 gr ⟨by have:=l.o2;omega,by have:=l.o2;omega,by have:=l.o2;omega⟩ l.frames.lt));obtain ⟨c0,hR,_,cz⟩:=A.2.2.2.1;obtain ⟨uu,hE,df⟩:=A.2.2.2.2;obtain rfl:=cz (bd 5 bX);obtain rfl:=df (bd 7 bX);have a5:=A.2.2.1;have av:=A.2.1;clear A bd x0 G I J L M N u0 u1 u2 u3 u4 u5 u6 u7 u8 u9 l Q a2 HQ bo;go_wp2;refine leaves_cons (f:=41) (args:=#[P_ (w+1+1+1)]) z_ (by simp [go_sem]) ?_;refine (fO).mono ?_;rintro e u' az ⟨rfl,rfl,rfl⟩;refine ib_ rfl 0 rfl rfl rfl hR a5 hE bl.out rfl rfl av ?_;have b8:=cm.out;rw [<-ct.out,cn.out,cq.out] at b8;have ec:qR C i j x y r={C with frames:=(C.frames.set i xa).set i xb,ptes:=C.ptes.map (mP ((i:Int)+1)),files:=eW C.files j y xb}:=by
      rw [List.set_set,ap,ao]
      rfl
     rw [ec] at b8;exact b8
 ·have d3:(x.writing != 0)=true:=bne_iff_ne.2 Y;have HB:=H_ (show jR C i j x y C rq0 7 by unfold jR;rw [if_pos Y];exact ⟨rfl,rfl,rfl⟩);clear Y;have a2:=a0.box;obtain ⟨x0,G,I,J,L,M,N⟩:=aF a2;have af:=u.bk _ _ jQ;have a5:=u.bk _ _ jB;have a4:=u.bk _ _ tI;have e0:((V3.setRow (w+1) (E_ (o_ gf) nf cf (o_ gr) nr cr E3 e3 k3 E4 e4 k4 E5 e5 k5 E6 e6 k6 E7 e7 k7)).setRow (w+1+1) lO).cell? ⟨w+1+1+1,0,none⟩=some (I_ 0):=(c_ ((setRow_other _ (w+1+1) (w+1+1+1) _ O_).trans (setRow_other _ (w+1) (w+1+1+1) _ O_))).trans (a_ a4 0);have ez:((V3.setRow (w+1) (E_ (o_ gf) nf cf (o_ gr) nr cr E3 e3 k3 E4 e4 k4 E5 e5 k5 E6 e6 k6 E7 e7 k7)).setRow (w+1+1) lO).frozen? ⟨w+1+1+1,0,none⟩=false:=(World.frozen?_of_block (a:=⟨w+1+1+1,0,none⟩) ((setRow_other _ (w+1+1) (w+1+1+1) _ O_).trans (setRow_other _ (w+1) (w+1+1+1) _ O_))).trans (t_ a4 0)
  go_wp2_with (first
   | (refine aJ rfl (.tmp 4) (.tmp 36) rfl rfl rfl rfl af rfl ?_)
   | (refine cV rfl 37 (.tmp 5) (.tmp 37) rfl rfl (w+1+1) lO rfl rfl 37 _ ((setRow_other _ (w+1) (w+1+1) _ O_).trans a5) bT rfl (dX) ?_))
  refine leaves_cons (f:=41) (args:=#[P_ (w+1+1+1)]) z_ (by simp [go_sem]) ?_;refine (fO).mono ?_;rintro e u' az ⟨rfl,rfl,rfl⟩;exact a7_ rfl 7 rfl rfl rfl ⟨_,af⟩ ⟨_,a5⟩ ⟨_,a4⟩ a0.out rfl rfl u.below HB.out
end
end Go.Proofs.YtehfhnbpnaiogaaGreatDoor
