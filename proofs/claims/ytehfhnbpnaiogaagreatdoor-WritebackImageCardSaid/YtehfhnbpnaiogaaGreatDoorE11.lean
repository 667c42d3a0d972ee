/-
  Lemmas and contracts for the laws of this seat, part 11; several texts joined by a program.
-/
import Derived.Test.YtehfhnbpnaiogaaGreatDoorE09
import Derived.Test.YtehfhnbpnaiogaaGreatDoorE00
namespace Go.Proofs.YtehfhnbpnaiogaaGreatDoor
set_option linter.unusedVariables false
set_option linter.unusedSimpArgs false
set_option maxRecDepth 100000
set_option maxHeartbeats 16000000
open Go.RowKit Go.Proofs.Tryz IntKind
variable {C:Ck} {cu wh:Int} {j k n off p sz:Nat} {may:Bool} {y:Fl}
section
variable {F G Z:Nat}
def a8_ (w:Int) (p:Nat):Bool:=bits .and .i64 w (wrap64 (2 ^ p)) != 0
theorem tN:∀(w:Fin 256) (p q:Fin 8),(a8_ (bits .or .i64 (w.val:Int) (wrap64 (2 ^ p.val))) q.val=(decide (q=p)||a8_ (w.val:Int) q.val))/\0<=bits .or .i64 (w.val:Int) (wrap64 (2 ^ p.val))/\bits .or .i64 (w.val:Int) (wrap64 (2 ^ p.val))<256:=by decide +kernel
theorem dZ_ {w:Int} (hw:0<=w/\w<256) {q:Nat} (hp:p<8) (hq:q<8):a8_ (bits .or .i64 w (wrap64 (2 ^ p))) q=(decide (q=p)||a8_ w q):=by
 obtain ⟨n,rfl⟩:∃n:Nat,w=n:=⟨w.toNat,O_⟩;have:=(tN ⟨n,O_⟩ ⟨p,hp⟩ ⟨q,hq⟩).1;rw [this];simp
theorem tO {w:Int} (hw:0<=w/\w<256) (hp:p<8):0<=bits .or .i64 w (wrap64 (2 ^ p))/\bits .or .i64 w (wrap64 (2 ^ p))<256:=by
 obtain ⟨n,rfl⟩:∃n:Nat,w=n:=⟨w.toNat,O_⟩;exact (tN ⟨n,O_⟩ ⟨p,hp⟩ ⟨0,O_⟩).2
theorem zO:∀q:Fin 8,a8_ 0 q.val=false:=by decide +kernel
def oG (off n sz q:Nat):Bool:=decide ((bD q off n).1=0/\(q:Int)*16+(bD q off n).2=min (sz:Int) (((q:Int)+1)*16))
structure ClS (C:Ck) (j:Nat) (y:Fl) (off n sz k:Nat) (wh cu:Int) (may:Bool):Prop where
 w:0<=wh/\wh<256
 c:0<=cu/\cu<256
 wb:∀q,q<8->(a8_ wh q=true↔∃m,m<k/\off / 16+m=q/\oG off n sz q=true)
 cb:∀q,q<8->(a8_ cu q=true↔∃m,m<k/\off / 16+m=q/\oG off n sz q=false)
 ok:may=true->∀m,m<k->oG off n sz (off / 16+m)=false->kU C j y off n true ((off / 16+m:Nat):Int)
 idl:may=true->∀m,m<k->oG off n sz (off / 16+m)=true->D_ y.c ((off / 16+m:Nat):Int)<=0\/∃(i:Nat) (x:Fr),D_ y.c ((off / 16+m:Nat):Int)=(i:Int)+1/\C.frames[i]?=some x/\ak_ x=true
theorem ClS.zero (C:Ck) (j:Nat) (y:Fl) (off n sz:Nat):ClS C j y off n sz 0 0 0 true:=
 ⟨⟨O_,O_⟩,⟨O_,O_⟩,fun q hq=>by rw [zO ⟨q,hq⟩];simp,fun q hq=>by rw [zO ⟨q,hq⟩];simp,fun _ m hm=>by omega,fun _ m hm=>by omega⟩
theorem ClS.whole (h:ClS C j y off n sz k wh cu may) (hp:p=off / 16+k) (hp8:p<8) (hw:oG off n sz p=true) (m':Bool) (hm:m'=true->may=true) (hq:m'=true->D_ y.c (p:Int)<=0\/∃(i:Nat) (x:Fr),D_ y.c (p:Int)=(i:Int)+1/\C.frames[i]?=some x/\ak_ x=true):ClS C j y off n sz (k+1) (bits .or .i64 wh (wrap64 (2 ^ p))) cu m':=by
 refine ⟨tO h.w hp8,h.c,fun q hq=>?_,fun q hq=>?_,fun b m a hf=>?_,fun b m a hf=>(Nat.lt_succ_iff_lt_or_eq.1 a).elim (fun e=>h.idl (hm b) m e hf) (fun e=>by subst e;rw [<-hp];exact hq b)⟩
 ·rw [dZ_ h.w hp8 hq];simp only[Bool.or_eq_true,decide_eq_true_eq];rw [h.wb q hq]
  constructor
  ·rintro (rfl | ⟨m,h1,h2,h3⟩)
   ·exact ⟨k,O_,hp.symm,hw⟩
   ·exact ⟨m,O_,h2,h3⟩
  ·rintro ⟨m,h1,h2,h3⟩
   by_cases e:m=k
   ·subst e;exact .inl O_
   ·exact .inr ⟨m,O_,h2,h3⟩
 ·rw [h.cb q hq]
  constructor
  ·rintro ⟨m,h1,h2,h3⟩;exact ⟨m,O_,h2,h3⟩
  ·rintro ⟨m,h1,h2,h3⟩
   by_cases e:m=k
   ·subst e;rw [show q=p by omega,hw] at h3
    cases h3
   ·exact ⟨m,O_,h2,h3⟩
 ·by_cases e:m=k
  ·subst e;rw [<-hp,hw] at hf
   cases hf
  ·exact h.ok (hm b) m O_ hf
theorem ClS.cut (h:ClS C j y off n sz k wh cu may) (hp:p=off / 16+k) (hp8:p<8) (hw:oG off n sz p=false) (m':Bool) (hm:m'=true->may=true/\kU C j y off n true (p:Int)):ClS C j y off n sz (k+1) wh (bits .or .i64 cu (wrap64 (2 ^ p))) m':=by
 refine ⟨h.w,tO h.c hp8,fun q b=>?_,fun q b=>?_,fun d m a hf=>?_,fun d m a hf=>(Nat.lt_succ_iff_lt_or_eq.1 a).elim (fun e=>h.idl (hm d).1 m e hf) (fun e=>by subst e;rw [<-hp,hw] at hf;cases hf)⟩
 ·rw [h.wb q b]
  constructor
  ·rintro ⟨m,h1,h2,h3⟩;exact ⟨m,O_,h2,h3⟩
  ·rintro ⟨m,h1,h2,h3⟩
   by_cases e:m=k
   ·subst e;rw [show q=p by omega,hw] at h3
    cases h3
   ·exact ⟨m,O_,h2,h3⟩
 ·rw [dZ_ h.c hp8 b];simp only[Bool.or_eq_true,decide_eq_true_eq];rw [h.cb q b]
  constructor
  ·rintro (rfl | ⟨m,h1,h2,h3⟩)
   ·exact ⟨k,O_,hp.symm,hw⟩
   ·exact ⟨m,O_,h2,h3⟩
  ·rintro ⟨m,h1,h2,h3⟩
   by_cases e:m=k
   ·subst e;exact .inl O_
   ·exact .inr ⟨m,O_,h2,h3⟩
 ·by_cases e:m=k
  ·subst e;rw [<-hp];exact (hm d).2
  ·exact h.ok (hm d).1 m O_ hf
def bI (off n sz:Nat):Nat:=min n (sz - off)
def ji_ (C:Ck) (j:Nat) (y:Fl) (off n sz:Nat) (w:World) (en:Ending) (w':World):Prop:=∃wh cu may,en = .returned (.tuple #[I_ wh,I_ cu,.bool may])/\ClS C j y off (bI off n sz) sz (if bI off n sz=0 then 0 else (off+bI off n sz+15) / 16 - off / 16) wh cu may/\q_ w w'
theorem aA_ (off:Nat) (S:Nat->Prop) (w:World):C_ 88 #[I_ off,I_ 0] w (pG [] S w):=by
 go_enter func88,ntmps88;go_wp2;go_ret;exact ⟨_,rfl,LA.nil _ _ _,aI _ _⟩
theorem bY_(off n sz:Nat) {a b c d e f g:Value} {S:Nat->Prop} {w:World} (h:x_ w S a b c d e f g C) (hl:qK C) (hj:C.files[j]?=some y) (hsz:y.size=sz) (hs8:sz<=128) (hF:xI C j y) (h2:off+n<=128) :
  C_ 97 #[cI a b c d e f g,I_ j,I_ off,I_ n] w (ji_ C j y off n sz w):=by
 have ba:=bK hj;have b9:=fun w' (X:q_ w w')=>gF j (h.step X) ba;have b5:=fun w'=>mA (off:Int) (n:Int) w' O_ O_ O_ O_;have a6:=fun p w' (X:q_ w w')=>gR j y p (h.step X) hj;obtain ⟨q,al⟩:=aZ (bI off n sz);have ce:q<=n/\(q=0\/off+q<=sz):=by unfold bI at al;omega
 have bd:∀w',C_ 88 #[I_ (off:Int),I_ (q:Int)] w' (pG (if q=0 then [] else W_ off q) gL w'):=fun w'=>by
  by_cases e:q=0
  ·rw [if_pos e,e];exact aA_ off gL w'
  ·rw [if_neg e];exact sW off q gL w' O_ O_ (fun _ _=>trivial)
 have ab:=fun (p:Nat) (hp:p<8) w'=>yG (p:Int) (off:Int) (q:Int) w' ⟨O_,O_⟩ ⟨O_,O_⟩ ⟨O_,O_⟩;obtain ⟨A1,E,rfl,q1,q2⟩:=h.files.form;obtain ⟨A2,m2,c2,rfl⟩:=h.frames.cap;obtain ⟨A3,m3,c3,A4,m4,c4,A5,m5,c5,A6,m6,c6,A7,m7,c7,rfl,rfl,rfl,rfl,rfl⟩:=x_.caps5 h;obtain ⟨V,of,kt,KB,kc,rfl,aj,k1,k2,k3,k4,b6⟩:=FlA.cells h.files hj;have cm:=bK hj;have co:C.files.length<=100:=hl.files.2;have j2:(j:Int)<(C.files.length:Int):=O_
 have j0:(0:Int)<=(j:Int):=O_
 obtain ⟨H,HL,HJ⟩:=eT h hl hj;clear h hl hj k1 k2 k3 k4;obtain ⟨bm,cf,a5⟩:=eT hF hsz al;have t:=H_ (g_ w (.cells (E_ (some ⟨V,of,none⟩) C.files.length E A2 m2 c2 A3 m3 c3 A4 m4 c4 A5 m5 c5 A6 m6 c6 A7 m7 c7) 30));have s:=H_ (b_ (aI (w) w) (.cells (E_ (some ⟨V,of,none⟩) C.files.length E A2 m2 c2 A3 m3 c3 A4 m4 c4 A5 m5 c5 A6 m6 c6 A7 m7 c7) 30));have bj:w.cell? ⟨V,of+j*15+6,none⟩=some (I_ (sz:Int)):=by rw [<-hsz];exact b6 6 _ rfl
 have b0:=H_ bj;clear hF b6 hsz al bj;go_enter func97,ntmps97
 go_upto_region 1 with fail
 generalize w.alloc (.cells (E_ (some ⟨V,of,none⟩) C.files.length E A2 m2 c2 A3 m3 c3 A4 m4 c4 A5 m5 c5 A6 m6 c6 A7 m7 c7) 30)=W at t s;obtain ⟨x0,x1,x2,x3,x4,x5,x6⟩:=aF t.out
 go_upto_region 3 with (first
  | (go_at_call 92;refine CM (b9 _ s) ?_;rintro e w1 ⟨rfl,b2⟩;obtain ⟨ag,af⟩:=gZ t s b2;clear b2)
  | (go_at_call 93;refine CM (b5 _) ?_;rintro e w2 ⟨rfl,rfl⟩)
  | fail)
 clear b9 b5 x0 x1 x2 x3 x4 x5 x6 t s;obtain ⟨x0,x1,x2,x3,x4,x5,x6⟩:=aF ag.out;have z6:w1.cell? ⟨V,of+j*15+6,none⟩=some (I_ (sz:Int)):=(c_ (af.block _ aj)).trans b0
 go_cut [3] (fun s3 wx=>s3 = I_ (q:Int)/\wx=w1)
 case first=>
  by_cases e1:(n:Int)<=(sz:Int) - (off:Int)
  ·have d1:decide ((n:Int)<=(sz:Int) - (off:Int))=true:=dT e1;have d2:decide ((n:Int)<0)=false:=dF O_;have F:q=n:=by have:=a5.out;unfold bI at this;omega
   have Y:=H_ F;clear F;go_wp2;go_meet
   case rel=>exact ⟨by rw [Y.out],rfl⟩
  ·have d1:decide ((n:Int)<=(sz:Int) - (off:Int))=false:=dF e1
   by_cases e2:off<=sz
   ·have d2:decide ((sz:Int) - (off:Int)<0)=false:=dF O_;have F:(q:Int)=(sz:Int) - (off:Int):=by have:=a5.out;unfold bI at this;omega
    have Y:=H_ F;clear F;go_wp2;go_meet
    case rel=>exact ⟨by rw [Y.out],rfl⟩
   ·have d2:decide ((sz:Int) - (off:Int)<0)=true:=dT O_;have F:(q:Int)=0:=by have:=a5.out;unfold bI at this;omega
    have Y:=H_ F;clear F;go_wp2;go_meet
    case rel=>exact ⟨by rw [Y.out],rfl⟩
 case rest=>
  obtain ⟨rfl,rfl⟩:=hcut;clear x0 x1 x2 x3 x4 x5 x6 z6
  go_upto_region 6 with (go_at_call 88;refine CM (bd _) ?_;rintro e w3 ⟨pv,rfl,be,b3⟩;obtain ⟨ah,ax⟩:=gZ ag af b3;have a1:=H_ (be.old);clear be b3)
  obtain ⟨B,hB⟩:=aZ w3.heap.size;rw [<-hB] at a1;have cg:w.heap.size<B:=by rw [hB];exact p_ ah
  obtain ⟨lst,Q⟩:=aZ ((if q=0 then [] else W_ off q));rw [<-Q] at a1;obtain ⟨D,P⟩:=aZ ((if q=0 then 0 else (off+q+15) / 16 - off / 16));have ap:lst.length=D:=by
   rw [Q,P]
   split
   ·rfl
   ·rw [iV]
  have cl:D<=9:=by rw [P];split <;> omega
  obtain ⟨A8,a3,ac,_,_⟩:=a1.form;rw [ap] at ac;subst ac;obtain ⟨HB,ad,bs,ae⟩:=sP hB P Q ap;clear hB P Q bd ap;go_wp2
  go_loopw [11,12,13,15] (fun s11 s12 s13 s15 wx=>∃(k:Nat) (wh cu:Int) (M:Bool),s11 = I_ wh/\s12 = I_ cu/\s13 = .bool M/\s15 = I_ k/\k<=D/\ClS C j y off q sz k wh cu M/\LA M_ wx (fun z=>gL z/\z<B) (S_ A8 D a3) lst/\q_ w wx/\B<=wx.heap.size/\aW wx (w) (E_ (some ⟨V,of,none⟩) C.files.length E A2 m2 c2 A3 m3 c3 A4 m4 c4 A5 m5 c5 A6 m6 c6 A7 m7 c7) 30) (fun _ _ _ s15 _=>100 - (intOf s15).toNat)
  case atStart=>exact ⟨0,0,0,true,rfl,rfl,rfl,rfl,O_,.zero _ _ _ _ _ _,a1.out,ax.out,by rw [HB.out];exact aQ _,ah⟩
  case round=>
   clear a1 ax ah ag af;obtain ⟨k,wh,cu,M,rfl,rfl,rfl,rfl,hk,b7,hp,X,r,hX⟩:=hrel;obtain ⟨R,K,s,t⟩:=sP b7 hp X hX;obtain ⟨x0,x1,x2,x3,x4,x5,x6⟩:=aF hX;clear b7 X hX
   by_cases cp:k<D
   ·have a4:q≠0:=fun e=>by have:=ad.out;rw [if_pos e] at this;omega
    have am:D=(off+q+15) / 16 - off / 16:=by have:=ad.out;rw [if_neg a4] at this;exact this
    have aa:lst=W_ off q:=by have:=bs.out;rw [if_neg a4] at this;exact this
    have G:=gJ off q k O_;rw [<-aa] at G;have bg:=pS (off:=off) (n:=q) (k:=k) O_ O_;obtain ⟨p,ao⟩:=aZ (off / 16+k);rw [<-ao] at G bg;obtain ⟨r1,r2,r3⟩:=bg;have Z:=H_ ao;have a8:=H_ G;obtain ⟨v,L,a7,ch⟩:∃v L:Nat,bD p off q=((v:Int),(L:Int))/\v+L<=16:=by
     obtain ⟨g1,g2,g3,g4⟩:=yF r1 r2;exact ⟨(bD p off q).1.toNat,(bD p off q).2.toNat,Prod.ext (by dsimp only;omega) (by dsimp only;omega),O_⟩
    have aq:∀w',C_ 151 #[I_ (p:Int),I_ (off:Int),I_ (q:Int)] w' (nK (.tuple #[I_ (v:Int),I_ (L:Int)]) w'):=fun w'=>by
     have:=ab p r3 w';rw [a7] at this;exact this
    have bu:=H_ a7;have bi:oG off q sz p=decide ((v:Int)=0/\(p:Int)*16+(L:Int)=min (sz:Int) (((p:Int)+1)*16)):=by unfold oG;rw [a7]
    have a2:=H_ bi;obtain ⟨b8,o8,cc,bh,_,_,ci,cd,l0⟩:=IL.cell hp G;rw [ae.out] at bh;injection bh with e81 e82 e83
    subst e81 e83;clear G ao hp a7 bi aa am ab a4 e82
    go_upto_region 10 with (go_at_call 151;refine CM (aq _) ?_;rintro e w4 ⟨rfl,rfl⟩)
    go_cut [18,19] (fun s18 s19 wx=>(∃(m:Int) (ok:Bool),s18 = I_ m/\s19 = .bool ok/\(ok=false/\D_ y.c p<=0\/ok=true/\∃(i:Nat) (x:Fr),m=(i:Int)+1/\D_ y.c p=(i:Int)+1/\dE C i x j y/\x.page=p))/\LA M_ wx (fun z=>gL z/\z<B) (S_ (some ⟨b8,o8,none⟩) D a3) lst/\q_ w wx/\B<=wx.heap.size/\aW wx (w) (E_ (some ⟨V,of,none⟩) C.files.length E A2 m2 c2 A3 m3 c3 A4 m4 c4 A5 m5 c5 A6 m6 c6 A7 m7 c7) 30)
    case first=>
     have xe:=aG wr;have c1:=p_ t
     by_cases hv:D_ y.c p<=0
     ·have an:∀z,C_ 59 #[cI (S_ (some ⟨V,of,none⟩) C.files.length E) (S_ A2 m2 c2) (S_ A3 m3 c3) (S_ A4 m4 c4) (S_ A5 m5 c5) (S_ A6 m6 c6) (S_ A7 m7 c7),I_ j,I_ p] (ext wr z) (fun e au=>e = .returned (.tuple #[I_ 0,.bool false])/\Below (ext wr z).heap.size (ext wr z) au):=fun z=>by
       have:=a6 p (ext wr z) (d_ s (n_ wr z));unfold eR wG at this;rw [if_pos hv] at this;exact this
      have bw:=H_ hv;clear hv a6;refine y_ s_ s_ ?_
      repeat (go_big_quiet_step ((exact aB (an _))))
      refine wpQuiet_nil ?_;rintro w' ⟨z,rfl⟩;go_wp2;go_meet
      case rel=>exact ⟨⟨0,false,rfl,rfl,.inl ⟨rfl,bw⟩⟩,K.step (n_ wr z),d_ s (n_ wr z),dO r (n_ wr z).size,i_ t (n_ wr z)⟩
     ·obtain ⟨i,x,A,N,J⟩:=bm.out p O_;have an:∀z,C_ 59 #[cI (S_ (some ⟨V,of,none⟩) C.files.length E) (S_ A2 m2 c2) (S_ A3 m3 c3) (S_ A4 m4 c4) (S_ A5 m5 c5) (S_ A6 m6 c6) (S_ A7 m7 c7),I_ j,I_ p] (ext wr z) (fun e au=>e = .returned (.tuple #[I_ ((i:Int)+1),.bool true])/\Below (ext wr z).heap.size (ext wr z) au):=fun z=>by
       have:=a6 p (ext wr z) (d_ s (n_ wr z));unfold eR wG at this;rw [if_neg hv,A] at this;exact this
      obtain ⟨HU,bp,bx⟩:=eT N A J;clear hv a6 N A J;refine y_ s_ s_ ?_
      repeat (go_big_quiet_step ((exact aB (an _))))
      refine wpQuiet_nil ?_;rintro w' ⟨z,rfl⟩;go_wp2;go_meet
      case rel=>exact ⟨⟨_,true,rfl,rfl,.inr ⟨rfl,i,x,rfl,bp,HU,bx⟩⟩,K.step (n_ wr z),d_ s (n_ wr z),dO r (n_ wr z).size,i_ t (n_ wr z)⟩
    case rest=>
     clear x0 x1 x2 x3 x4 x5 x6 l0 K s t;obtain ⟨⟨m,ok,rfl,rfl,bc⟩,hp,X,r,hX⟩:=hcut;obtain ⟨K,s,t,av⟩:=sP hp X hX bc;clear hp X hX bc
     go_upto_region 11 with fail
     go_cut [97] (fun s97 wx=>s97 = .bool (oG off q sz p)/\LA M_ wx (fun z=>gL z/\z<B) (S_ (some ⟨b8,o8,none⟩) D a3) lst/\q_ w wx/\B<=wx.heap.size/\aW wx (w) (E_ (some ⟨V,of,none⟩) C.files.length E A2 m2 c2 A3 m3 c3 A4 m4 c4 A5 m5 c5 A6 m6 c6 A7 m7 c7) 30)
     case first=>
      have xe:=aG wc;have c1:=p_ t;obtain ⟨bz,cb,ai,I,_,_,b4,_,l0⟩:=IL.cell K.out a8.out;rw [ae.out] at I;injection I with ee ee3 ee4
      clear ee3 ee4;injection ee with ee
      injection ee with ee1 ee2
      subst ee1 ee2;have z6:wc.cell? ⟨V,of+j*15+6,none⟩=some (I_ (sz:Int)):=(c_ (s.block _ aj)).trans b0;have cj:V<wc:=iS aj s.size;obtain ⟨x0,x1,x2,x3,x4,x5,x6⟩:=aF t.out;have cq:i64.wrap ((p:Int)*16)=(p:Int)*16:=IntWalk.i64_in _ O_;have cr:i64.wrap ((p:Int)*16+(L:Int))=(p:Int)*16+(L:Int):=IntWalk.i64_in _ O_;have cs:i64.wrap ((p:Int)+1)=(p:Int)+1:=IntWalk.i64_in _ O_;have cv:i64.wrap (((p:Int)+1)*16)=((p:Int)+1)*16:=IntWalk.i64_in _ O_
      by_cases a0:v=0
      ·have d0:((v:Int) == 0)=true:=beq_iff_eq.2 O_
       by_cases hm:(sz:Int)<=((p:Int)+1)*16
       ·have dm:decide ((sz:Int)<=((p:Int)+1)*16)=true:=dT hm
        by_cases he:(p:Int)*16+(L:Int)=(sz:Int)
        ·have de:((p:Int)*16+(L:Int) == (sz:Int))=true:=beq_iff_eq.2 he;have HV:=H_ (show oG off q sz p=true by rw [a2.out];exact decide_eq_true ⟨O_,O_⟩);clear a0 he;refine y_ s_ s_ ?_
         repeat (go_big_quiet_step (fail))
         refine wpQuiet_nil ?_;rintro w' ⟨z,rfl⟩;go_wp2;go_meet
         case rel=>exact ⟨by rw [HV.out],K.step (n_ wc z),d_ s.out (n_ wc z),dO r (n_ wc z).size,i_ t.out (n_ wc z)⟩
        ·have de:((p:Int)*16+(L:Int) == (sz:Int))=false:=beq_eq_false_iff_ne.2 he;have HV:=H_ (show oG off q sz p=false by rw [a2.out];exact dF (fun h=>by omega));clear a0 he;refine y_ s_ s_ ?_
         repeat (go_big_quiet_step (fail))
         refine wpQuiet_nil ?_;rintro w' ⟨z,rfl⟩;go_wp2;go_meet
         case rel=>exact ⟨by rw [HV.out],K.step (n_ wc z),d_ s.out (n_ wc z),dO r (n_ wc z).size,i_ t.out (n_ wc z)⟩
       ·have dm:decide ((sz:Int)<=((p:Int)+1)*16)=false:=dF hm
        by_cases he:(p:Int)*16+(L:Int)=((p:Int)+1)*16
        ·have de:((p:Int)*16+(L:Int) == ((p:Int)+1)*16)=true:=beq_iff_eq.2 he;have HV:=H_ (show oG off q sz p=true by rw [a2.out];exact decide_eq_true ⟨O_,O_⟩);clear a0 he;refine y_ s_ s_ ?_
         repeat (go_big_quiet_step (fail))
         refine wpQuiet_nil ?_;rintro w' ⟨z,rfl⟩;go_wp2;go_meet
         case rel=>exact ⟨by rw [HV.out],K.step (n_ wc z),d_ s.out (n_ wc z),dO r (n_ wc z).size,i_ t.out (n_ wc z)⟩
        ·have de:((p:Int)*16+(L:Int) == ((p:Int)+1)*16)=false:=beq_eq_false_iff_ne.2 he;have HV:=H_ (show oG off q sz p=false by rw [a2.out];exact dF (fun h=>by omega));clear a0 he;refine y_ s_ s_ ?_
         repeat (go_big_quiet_step (fail))
         refine wpQuiet_nil ?_;rintro w' ⟨z,rfl⟩;go_wp2;go_meet
         case rel=>exact ⟨by rw [HV.out],K.step (n_ wc z),d_ s.out (n_ wc z),dO r (n_ wc z).size,i_ t.out (n_ wc z)⟩
      ·have d0:((v:Int) == 0)=false:=beq_eq_false_iff_ne.2 O_;have HV:=H_ (show oG off q sz p=false by rw [a2.out];exact dF (fun h=>by omega));clear a0;refine y_ s_ s_ ?_
       repeat (go_big_quiet_step (fail))
       refine wpQuiet_nil ?_;rintro w' ⟨z,rfl⟩;go_wp2;go_meet
       case rel=>exact ⟨by rw [HV.out],K.step (n_ wc z),d_ s.out (n_ wc z),dO r (n_ wc z).size,i_ t.out (n_ wc z)⟩
     case rest=>
      obtain ⟨rfl,hp,X,r,hX⟩:=hcut;obtain ⟨K,s,t⟩:=eT hp X hX;obtain ⟨bz,cb,ai,I,_,_,b4,_,l0⟩:=IL.cell hp a8.out;rw [ae.out] at I;injection I with ee ee3 ee4
      clear ee3 ee4;injection ee with ee
      injection ee with ee1 ee2
      subst ee1 ee2;obtain ⟨x0,x1,x2,x3,x4,x5,x6⟩:=aF hX;clear hp X hX
      cases hwb:oG off q sz p with
      | true=>
       have U:=H_ hwb;clear hwb
       rcases av.out with ⟨rfl,hg0⟩ | ⟨rfl,i,x,rfl,A,N,J⟩
       ·have bo:=H_ hg0;clear hg0
        cases M
        all_goals
         go_wp2;go_roundw
         case rel=>exact ⟨k+1,_,cu,_,rfl,rfl,rfl,by go_num,O_,R.out.whole Z.out r3 U.out _ (fun h=>by first | exact h | rfl) (fun _=> .inl bo.out),K.out,s.out,r,t.out⟩
         case measure=>exact bH
       ·cases M with
        | false=>
         clear A N J;go_wp2;go_roundw
         case rel=>exact ⟨k+1,_,cu,_,rfl,rfl,rfl,by go_num,O_,R.out.whole Z.out r3 U.out _ (fun h=>h) (fun h=>by cases h),K.out,s.out,r,t.out⟩
         case measure=>exact bH
        | true=>
         obtain ⟨bk,c0,ea,q3,q4⟩:=H.frames.form;injection ea with ea1 ea2 ea3
         subst ea1 ea2 ea3;obtain ⟨bb,o,rfl,ak,y0,y1,y2,y3,y4,y5,y6,y7,y8⟩:=FrA.cells H.frames N.fr;have c8:=bK N.fr;have i2:(i:Int)<(C.frames.length:Int):=O_
         have c9:C.frames.length<=100:=HL.frames.2;have ar:=kt9 (s.block _ ak) y0 y1 y2 y3 y4 y5 y6 y7 y8;clear y0 y1 y2 y3 y4 y5 y6 y7 y8;obtain ⟨y0,y1,y2,y3,y4,y5,y6,y7,y8⟩:=ar;have a9:=fun w'=>ir_ x w';have bq:=H_ A;have bn:=H_ N.fr;clear A N J
         cases hid:ak_ x
         all_goals
          rw [hid] at a9;have br:=H_ hid;clear hid
          go_wp2_with (go_at_call 155;refine CM (a9 _) ?_;rintro e w5 ⟨rfl,l⟩)
          go_roundw
          case rel=>exact ⟨k+1,_,cu,_,rfl,rfl,rfl,by go_num,O_,R.out.whole Z.out r3 U.out _ (fun h=>by first | exact h | rfl) (fun h=>by first | (cases h;done) | exact .inr ⟨i,x,bq,bn,br⟩),K.step l,d_ s l,dO r l.size,i_ t l⟩
          case measure=>exact bH
      | false=>
       have U:=H_ hwb;clear hwb
       rcases av.out with ⟨rfl,hg0⟩ | ⟨rfl,i,x,rfl,A,N,J⟩
       ·clear hg0;go_wp2;go_roundw
        case rel=>exact ⟨k+1,wh,_,_,rfl,rfl,rfl,by go_num,O_,R.out.cut Z.out r3 U.out _ (fun h=>by cases h),K.out,s.out,r,t.out⟩
        case measure=>exact bH
       ·obtain ⟨bk,c0,ea,q3,q4⟩:=H.frames.form;injection ea with ea1 ea2 ea3
        subst ea1 ea2 ea3;obtain ⟨bb,o,rfl,ak,y0,y1,y2,y3,y4,y5,y6,y7,y8⟩:=FrA.cells H.frames N.fr;have c8:=bK N.fr;have i2:(i:Int)<(C.frames.length:Int):=O_
        have c9:C.frames.length<=100:=HL.frames.2;have ar:=kt9 (s.block _ ak) y0 y1 y2 y3 y4 y5 y6 y7 y8;clear y0 y1 y2 y3 y4 y5 y6 y7 y8;obtain ⟨y0,y1,y2,y3,y4,y5,y6,y7,y8⟩:=ar;have ca:=fun w'=>yE x.pg.data x.pg.valid x.pg.dirty (v:Int) (L:Int) true w' N.ok.pg O_ O_ O_ O_;have bv:=H_ (show jK x.pg.valid (v:Int) (L:Int) true=0->kU C j y off q true (p:Int) from fun h0=>⟨i,x,A,N,J,by rw [bu.out];exact h0⟩);have ck:=p_ t;clear A N J
        go_upto_region 18 with fail
        have u:=H_ (l_ wc (oF x) (wc) rfl);have az:=H_ (m_ t (oF x));have O:=b_ (aI (wc) wc) (oF x);have ay:=lU s O;have aw:=H_ (K.step O);have b1:B<=(wc.alloc (oF x)).heap.size:=dO r O.size;clear O;generalize wc.alloc (oF x)=W9 at u az ay aw b1;clear x0 x1 x2 x3 x4 x5 x6 y0 y1 y2 y3 y4 y5 y6 y7 y8 l0;obtain ⟨f0,f1,f2,f3,f4,f5,f6,f7,f8⟩:=sE u.out
        cases M
        all_goals cases hd1:(x.reading == 0)
        all_goals cases hd2:(x.writing == 0)
        all_goals cases hd3:(jK x.pg.valid (v:Int) (L:Int) true == 0)
        all_goals
         have bl:=H_ hd3
         go_wp2_with (go_at_call 152;refine CM (ca _) ?_;rintro e w5 ⟨rfl,l⟩;clear f0 f1 f2 f3 f4 f5 f6 f7 f8;have f0:=a_ (i_ u l) 0;have f1:=a_ (i_ u l) 1;have f2:=a_ (i_ u l) 2;have f3:=a_ (i_ u l) 3;have f4:=a_ (i_ u l) 4;have f5:=a_ (i_ u l) 5;have f6:=a_ (i_ u l) 6;have f7:=a_ (i_ u l) 7;have f8:=a_ (i_ u l) 8;simp only[zl] at f0 f1 f2 f3 f4 f5 f6 f7 f8)
         go_roundw
         case rel=>exact ⟨k+1,wh,_,_,rfl,rfl,rfl,by go_num,O_,R.out.cut Z.out r3 U.out _ (fun h=>by first | (cases h;done) | exact ⟨rfl,bv (beq_iff_eq.1 bl)⟩),aw.step l,d_ ay l,dO b1 l.size,i_ az l⟩
         case measure=>exact bH
   ·obtain rfl:k=D:=O_
    go_wp2
    go_ret3
    exact ⟨wh,cu,M,rfl,by rw [<-a5.out,<-ad.out];exact R,s⟩
end
end Go.Proofs.YtehfhnbpnaiogaaGreatDoor
