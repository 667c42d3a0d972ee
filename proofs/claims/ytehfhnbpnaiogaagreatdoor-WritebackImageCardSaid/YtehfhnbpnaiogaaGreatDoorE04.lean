/-
  Lemmas and contracts for the laws of this seat, part 4; several texts joined by a program.
-/
import Derived.Test.YtehfhnbpnaiogaaGreatDoorE03
import Derived.Test.YtehfhnbpnaiogaaGreatDoorE00
namespace Go.Proofs.YtehfhnbpnaiogaaGreatDoor
set_option linter.unusedVariables false
set_option linter.unusedSimpArgs false
set_option maxRecDepth 100000
set_option maxHeartbeats 16000000
open Go.RowKit Go.Proofs.Tryz IntKind
variable {A:Option Addr} {B a base h k n p:Nat} {S:Nat->Prop} {b fr i m:Int} {c:Cn} {e:En} {l:List En} {t:TypeId} {v:Value} {w w':World}
section
theorem LS.bl {W:World} {L:List En} (h:LS W (S_ none 0 0) B L v w'):q_ W w':=⟨h.gr.os,h.gr.tape,h.gr.output,h.gr.size,fun k hk=>h.gr.block k hk (by simp [Value.ownBlock])⟩
theorem kD_ {b:Nat}:((a:Int) == (b:Int))=decide (a=b):=by
 by_cases h:a=b
 ·subst h;simp
 ·rw [dF h];exact beq_eq_false_iff_ne.2 O_
theorem pV (hI:Int) (t:T) (cap:Nat) (hm:t.kids.length<=maxLen) (hcap:t.kids.length<=cap) (hk:NK w S A t.kids) :
  C_ 159 #[oD hI A t.kids.length cap t.val t.marks] w (cP (dI hI t) w):=by
 by_cases h0:0<=hI
 ·by_cases h4:hI<=4
  ·obtain ⟨h,rfl⟩:=sG h0;have C:=fun w' (hb:q_ w w')=>dr_ h t A cap S w' O_ hcap (hk.step hb)
   cases hrt:bO h t with
   | false=>
    have D:=H_ (show dI h t=false by unfold dI;rw [Int.toNat_natCast,hrt];simp);rw [hrt] at C;obtain ⟨n,q⟩:∃n,t.kids.length=n:=⟨_,rfl⟩;obtain ⟨v,hv⟩:∃v,t.val=v:=⟨_,rfl⟩;obtain ⟨r,a⟩:∃m,t.marks=m:=⟨_,rfl⟩;rw [q,hv,a] at C ⊢;clear hrt q hv a hk hm hcap;have z:=H_ (g_ w (.cells #[I_ (h:Int),S_ A n cap,I_ v,I_ r] 58));have g:=H_ (b_ (aI (w) w) (.cells #[I_ (h:Int),S_ A n cap,I_ v,I_ r] 58));go_enter func159,ntmps159
    go_wp2_with (go_at_call 202;(with_reducible refine CM (C _ fD) ?_);rintro e w1 ⟨rfl,u⟩;obtain ⟨l,k⟩:=gZ z g u;obtain ⟨x0,N,O,P⟩:=iH l.out)
    go_ret;exact ⟨A_ D.symm,k⟩
   | true=>
    obtain ⟨c,hl,X,rfl⟩:=nT h hrt;have hp:4 ^ h<=256:=show 4 ^ h<=4 ^ 4 from Nat.pow_le_pow_right O_ O_;have x:=fun w' (hb:q_ w w')=>cu_ h c A cap (S_ none 0 0) (w) [] 0 w' O_ O_ (by simp;omega) hcap hb.size ((hk.step hb).weak fun _ _ _=>by simp [Value.ownBlock]) (World.ownsRow_nil _ _ _ _);rw [List.nil_append] at x;have y:=bM_ (h:=h) O_ hl X;rw [hrt] at C;obtain ⟨n,q⟩:∃n,(f_ h c).kids.length=n:=⟨_,rfl⟩;obtain ⟨v,hv⟩:∃v,(f_ h c).val=v:=⟨_,rfl⟩;obtain ⟨r,a⟩:∃m,(f_ h c).marks=m:=⟨_,rfl⟩;rw [q,hv,a] at C x ⊢;generalize dI h (f_ h c)=res at y ⊢;have B:=jV 0 (4 ^ h) c;generalize aH 0 (4 ^ h) c=es at y x B;generalize 4 ^ h=p at hp B;have F:=H_ y;clear hrt q hv a hk hm hcap hl X y;have z:=H_ (g_ w (.cells #[I_ (h:Int),S_ A n cap,I_ v,I_ r] 58));have g:=H_ (b_ (aI (w) w) (.cells #[I_ (h:Int),S_ A n cap,I_ v,I_ r] 58));go_enter func159,ntmps159
    go_upto_region 3 with (go_at_call 202;(with_reducible refine CM (C _ fD) ?_);rintro e w1 ⟨rfl,u⟩;obtain ⟨l,k⟩:=gZ z g u;obtain ⟨x0,N,O,P⟩:=iH l.out)
    go_cut [1,3] (fun s1 s3 wx=>s1 = P_ w.heap.size/\aW wx (w) #[I_ (h:Int),S_ A n cap,I_ v,I_ r] 58/\EA wx gL s3 es/\q_ w wx)
    case first=>
     go_wp2_with (go_at_call 160;(with_reducible refine CM (x _ k.out) ?_);rintro e w2 ⟨vv,rfl,K⟩)
     go_meet
     case rel=>exact ⟨rfl,K.bk l.out (by simp [Value.ownBlock]),EA.of_own K.own (fun _ _=>trivial),d_ k.out K.bl⟩
    case rest=>
     clear z g l k x0 N O P u;obtain ⟨rfl,V,I,U⟩:=hcut;have z:=H_ V;have g:=H_ U;have J:=I;obtain ⟨A',cap',rfl,_,_,_⟩:=J;have Z:=H_ I;obtain ⟨x0,N,O,P⟩:=iH z.out;clear V U I
     rcases F.out with ⟨rfl,hr1⟩ | ⟨l',j,xx,yy,rfl,hj,hr1⟩
     ·have E:=H_ hr1;clear hr1
      by_cases W:h=0
      ·subst W;go_wp2;go_ret;exact ⟨A_ (by rw [E.out];rfl),g⟩
      ·have Q:((h:Int) == 0)=false:=beq_eq_false_iff_ne.2 O_;have R:decide ((h:Int)=0)=false:=dF O_;have Y:=H_ (dF W);go_wp2;go_ret;exact ⟨A_ (by rw [E.out,Y.out]),g.out⟩
     ·have E:=H_ hr1;clear hr1;have f:(l' ++ [((j:Int),xx,yy)]).length=l'.length+1:=z_
      obtain ⟨b,o,G,d,s,c',H,_,_,a1,L,c0,c1,c2⟩:=Z.at_ (i:=l'.length) (by rw [f];omega);injection H with H Q R
      subst H R;rw [List.getElem?_append_right O_,Nat.sub_self] at L;simp only[List.getElem?_cons_zero,Option.some.injEq,Prod.mk.injEq] at L;obtain ⟨rfl,rfl,rfl⟩:=L;rw [f] at B;have M:=fun w=>rT j w hj;have Q:((l'.length:Int)+1 == 0)=false:=beq_eq_false_iff_ne.2 O_;have i0:i64.wrap ((l'.length:Int)+1 - 1)=(l'.length:Int):=by rw [show (l'.length:Int)+1 - 1=l'.length by omega];exact fA O_
      have i1:(0:Int)<=(l'.length:Int):=O_
      have i2:(l'.length:Int)<(l'.length:Int)+1:=O_
      have a0:=H_ f;rw [f];clear f;generalize l'.length=n' at *;have lX:=p_ z
      go_upto_region 6 with fail
      go_quiet ((go_at_call 203;exact Calls.quiet_of_eq (M _)));go_wp2;go_ret;exact ⟨A_ (by rw [E.out];exact kD_),below_drewN g _⟩
  ·have D:=H_ (show dI hI t=false by unfold dI;rw [dF O_];rfl);obtain ⟨n,q⟩:∃n,t.kids.length=n:=⟨_,rfl⟩;obtain ⟨v,hv⟩:∃v,t.val=v:=⟨_,rfl⟩;obtain ⟨r,a⟩:∃m,t.marks=m:=⟨_,rfl⟩;rw [q,hv,a];have g:=H_ (b_ (aI (w) w) (.cells #[I_ hI,S_ A n cap,I_ v,I_ r] 58));clear q hv a hk hm hcap;go_enter func159,ntmps159;go_wp2;go_ret;exact ⟨A_ D.symm,g⟩
 ·have D:=H_ (show dI hI t=false by unfold dI;rw [dF O_];rfl);obtain ⟨n,q⟩:∃n,t.kids.length=n:=⟨_,rfl⟩;obtain ⟨v,hv⟩:∃v,t.val=v:=⟨_,rfl⟩;obtain ⟨r,a⟩:∃m,t.marks=m:=⟨_,rfl⟩;rw [q,hv,a];have g:=H_ (b_ (aI (w) w) (.cells #[I_ hI,S_ A n cap,I_ v,I_ r] 58));clear q hv a hk hm hcap;go_enter func159,ntmps159;go_wp2;go_ret;exact ⟨A_ D.symm,g⟩
theorem iX (cap:Nat) (hl:aX c) (ht:X_ h c) (hcap:(f_ h c).kids.length<=cap) (hk:NK w S A (f_ h c).kids) :
  C_ 102 #[oD h A (f_ h c).kids.length cap (f_ h c).val (f_ h c).marks] w (dN_ (aH 0 (4 ^ h) c) w):=by
 have i:=ht.1;have r:4 ^ h<=256:=show 4 ^ h<=4 ^ 4 from Nat.pow_le_pow_right O_ i;have b:=fun w' (hb:q_ w w')=>pV h (f_ h c) cap (eA _ _) hcap (hk.step hb);rw [fX hl ht] at b;have a:=fun w' (hb:q_ w w')=>cu_ h c A cap (S_ none 0 0) (w) [] 0 w' i O_ (by simp;omega) hcap hb.size ((hk.step hb).weak fun _ _ _=>by simp [Value.ownBlock]) (World.ownsRow_nil _ _ _ _);rw [List.nil_append] at a;obtain ⟨n,k⟩:∃n,(f_ h c).kids.length=n:=⟨_,rfl⟩;obtain ⟨v,hv⟩:∃v,(f_ h c).val=v:=⟨_,rfl⟩;obtain ⟨l,j⟩:∃m,(f_ h c).marks=m:=⟨_,rfl⟩;rw [k,hv,j] at b a ⊢;have p:=H_ (g_ w (.cells #[I_ (h:Int),S_ A n cap,I_ v,I_ l] 58));have o:=H_ (b_ (aI (w) w) (.cells #[I_ (h:Int),S_ A n cap,I_ v,I_ l] 58));generalize aH 0 (4 ^ h) c=s at a ⊢;clear k hv j hk hl ht hcap r;go_enter func102,ntmps102
 go_wp2_with (first
  | (go_at_call 159;(with_reducible refine CM (b _ fD) ?_);rintro e w1 ⟨rfl,g⟩;obtain ⟨f,d⟩:=gZ p o g;obtain ⟨x0,u,x,y⟩:=iH f.out)
  | (go_at_call 160;(with_reducible refine CM (a _ d.out) ?_);rintro e w2 ⟨t,rfl,q⟩))
 go_ret;exact dN_.of d q
end
section
def iB (l:List En) (i:Int):Int:=match l.findIdx? (fun e=>e.1 == i) with | some k=>(k:Int) | none=>-1
theorem ad_ {v:Int} (h:l[k]?=some (i,v,m)) (hn:∀j d s c,j<k->l[j]?=some (d,s,c)->d≠i):iB l i=(k:Int):=by
 unfold iB;have:l.findIdx? (fun e=>e.1 == i)=some k:=by
  rw [List.findIdx?_eq_some_iff_getElem];have a:=List.getElem?_eq_some_iff.1 h;refine ⟨a.1,by rw [a.2];simp,fun j b=>?_⟩;have:=hn j _ _ _ b (cU (by have:=a.1;omega))
  simpa using this
 rw [this]
theorem em_ (hn:∀(j:Nat) d s c,l[j]?=some (d,s,c)->d≠i):iB l i=-1:=by
 unfold iB;have:l.findIdx? (fun e=>e.1 == i)=none:=by
  rw [List.findIdx?_eq_none_iff];intro x b;obtain ⟨j,a⟩:=List.getElem?_of_mem b;obtain ⟨d,s,c⟩:=x;have:=hn j d s c a
  simpa using this
 rw [this]
theorem ct_ (i:Int) (hE:EA w S v l):C_ 184 #[v,I_ i] w fun e w'=>e = .returned (I_ (iB l i))/\w=w':=by
 have p:=hE;obtain ⟨A,cap,rfl,hc,E,_⟩:=p;have z:=H_ hE;unfold maxLen at E;clear hE;go_enter func184,ntmps184;go_wp2
 go_loop [5] (fun s5=>∃k:Nat,k<=l.length/\s5 = I_ k/\∀(j:Nat) d s c,j<k->l[j]?=some (d,s,c)->d≠i) (fun s5=>l.length - (intOf s5).toNat)
 case atStart=>exact ⟨0,O_,rfl,fun j d s c h=>by omega⟩
 case round=>
  obtain ⟨k,H,rfl,y⟩:=hrel;have g:=H_ y;clear y
  by_cases t:k<l.length
  ·obtain ⟨b,o,cap',d,s,c,n,_,_,D,x,c0,c1,c2⟩:=z.at_ t;injection n with n _ e2
   subst n;have u:=H_ x;have I:(0:Int)<=(k:Int):=O_
   have J:(k:Int)<(l.length:Int):=O_
   clear x e2 c1 c2
   by_cases e:d=i
   ·subst e;have f:=H_ (ad_ u.out g);go_wp2;go_ret;exact ⟨by rw [f.out];rfl,rfl⟩
   ·have G:(d == i)=false:=beq_eq_false_iff_ne.2 e;have m:=H_ e;clear e;go_wp2
    go_round
    case rel=>
     refine ⟨k+1,O_,by go_num,fun j C F B q a=>?_⟩
     by_cases r:j=k
     ·subst r;rw [u.out] at a;injection a with a
      injection a with h1 _
      rw [<-h1];exact m
     ·exact g.out j C F B O_ a
    case measure=>exact bH
  ·obtain rfl:k=l.length:=O_
   have f:=H_ (em_ fun j d s c q=>g j d s c (bK q) q);go_wp2;go_ret;exact ⟨by rw [f.out];rfl,rfl⟩
theorem rS (l:List En) (i:Int):iB l i=-1\/∃k:Nat,iB l i=(k:Int)/\k<l.length/\∃v m,l[k]?=some (i,v,m):=by
 unfold iB
 cases h:l.findIdx? (fun e=>e.1 == i) with
 | none=>exact .inl rfl
 | some k=>
  rw [List.findIdx?_eq_some_iff_getElem] at h;obtain ⟨h1,h2,_⟩:=h;refine .inr ⟨k,rfl,h1,l[k].2.1,l[k].2.2,?_⟩;rw [cU h1,<-show l[k].1=i by simpa using h2]
def kR (l:List En) (i:Int):Int × Int:=match l.find? (fun e=>e.1 == i) with | some e=>e.2 | none=>(0,0)
theorem bo_ {v:Int} (hf:iB l i=(k:Int)) (h:l[k]?=some (i,v,m)):kR l i=(v,m):=by
 unfold iB at hf;unfold kR
 cases h1:l.findIdx? (fun e=>e.1 == i) with
 | none=>rw [h1] at hf;simp at hf
 | some k'=>
  rw [h1] at hf;obtain rfl:k'=k:=by simp only at hf;omega
  rw [List.findIdx?_eq_some_iff_getElem] at h1;obtain ⟨a,b,c⟩:=h1;have:l.find? (fun e=>e.1 == i)=some l[k']:=by
   rw [List.find?_eq_some_iff_getElem];exact ⟨b,k',a,rfl,fun j d=>by have:=c j d;simpa using this⟩
  rw [this];rw [cU a] at h;injection h with h
  simp only[h]
theorem eL_ (hf:iB l i=-1):kR l i=(0,0):=by
 unfold iB at hf;unfold kR
 cases h1:l.findIdx? (fun e=>e.1 == i) with
 | some k=>rw [h1] at hf;simp at hf
 | none=>
  have:l.find? (fun e=>e.1 == i)=none:=by
   rw [List.find?_eq_none];rw [List.findIdx?_eq_none_iff] at h1;intro x a
   simpa using h1 x a
  rw [this]
theorem fQ:e ∈ aH base n c↔∃j,j<n/\c j≠(0,0)/\e=(((base+j:Nat):Int),(c j).1,(c j).2):=by
 unfold aH;rw [List.mem_filterMap]
 constructor
 ·rintro ⟨j,b,h⟩
  split at h
  ·cases h
  ·next a=>exact ⟨j,List.mem_range.1 b,a,by simpa using h.symm⟩
 ·rintro ⟨j,b,a,rfl⟩;exact ⟨j,List.mem_range.2 b,by rw [if_neg a]⟩
theorem as_ (hz:∀i,n<=i->c i=(0,0)) (i:Int):kR (aH 0 n c) i=if 0<=i then c i.toNat else (0,0):=by
 unfold kR
 cases h:(aH 0 n c).find? (fun e=>e.1 == i) with
 | some e=>
  obtain ⟨j,b,a,rfl⟩:=fQ.1 (List.mem_of_find?_eq_some h);have h1:=List.find?_some h;have h2:(((0+j:Nat)):Int)=i:=by simpa using h1
  rw [if_pos O_,show i.toNat=j by omega]
 | none=>
  rw [List.find?_eq_none] at h
  by_cases h0:0<=i
  ·rw [if_pos h0];apply Eq.symm;apply Classical.byContradiction;intro a
   rcases Nat.lt_or_ge i.toNat n with hlt | hge
   ·have:=h _ (fQ.2 ⟨i.toNat,hlt,a,rfl⟩);apply this;rw [beq_iff_eq]
    show (((0+i.toNat:Nat)):Int)=i
    omega
   ·exact a (hz _ hge)
  ·rw [if_neg h0]
def mkB (x m:Int):Bool:=m == 0||(dH m&&gX x m != 0)
def iZ (fr m:Int) (e:En):Bool:=decide (fr<=e.1)&&(decide (0<e.2.1)&&mkB e.2.2 m)
def aE (l:List En) (fr m:Int):Int × Bool:=match l.find? (iZ fr m) with | some e=>(e.1,true) | none=>(0,false)
def ga_ (m:Int) (e:En):Bool:=decide (0<e.2.1)&&mkB e.2.2 m
def fJ (l:List En) (m:Int):Nat:=l.countP (ga_ m)
theorem jT_ (m:Int) (w:World):C_ 226 #[I_ m] w fun e w'=>e = .returned (.bool (dH m))/\w=w':=jU_ m w
def hT_ (x:Value) (l:List En) (w:World):Prop:=∀w',q_ w w'->C_ 102 #[x] w' (dN_ l w')
section
variable (hI:Int) (A:Option Addr) (n cap:Nat) (v mm:Int) (l:List En) (w:World) (hes:hT_ (oD hI A n cap v mm) l w)
include hes
theorem iK_ (i:Int):C_ 127 #[oD hI A n cap v mm,I_ i] w (sB (kR l i).1 w):=by
 have x:=H_ (b_ (aI (w) w) (.cells #[I_ hI,S_ A n cap,I_ v,I_ mm] 58));unfold hT_ at hes;go_enter func127,ntmps127
 go_upto_region 2 with (go_at_call 102;(with_reducible refine CM (hes _ fD) ?_);rintro e w1 ⟨D,rfl,f,m⟩)
 have u:=EA.of_own (S:=gL) f (fun _ _=>trivial);have p:=H_ u;have j:=lU x m;obtain ⟨A',cap',rfl,_,z,_⟩:=u;have a:=fun w' (h:EA w' gL (S_ A' l.length cap') l)=>ct_ i h;unfold maxLen at z;clear f m
 rcases rS l i with hf | ⟨k,hf,hk,vx,mx,hat⟩
 ·rw [hf] at a;have q:=H_ (eL_ hf);clear hf
  go_wp2_with (go_at_call 184;(with_reducible refine CM (a _ p.out) ?_);rintro e w2 ⟨rfl,rfl⟩)
  go_ret;exact ⟨by rw [q.out];rfl,j⟩
 ·rw [hf] at a;have q:=H_ (bo_ hf hat);obtain ⟨b,o,r,d,s,c,t,_,_,y,g,c0,c1,c2⟩:=p.at_ hk;injection t with t _ e2
  subst t;rw [hat] at g;injection g with g
  injection g with h1 g
  injection g with h2 h3
  subst h2 h3;have B:(0:Int)<=(k:Int):=O_
  have C:(k:Int)<(l.length:Int):=O_
  clear hf hat h1 e2 c0 c2
  go_wp2_with (go_at_call 184;(with_reducible refine CM (a _ p.out) ?_);rintro e w2 ⟨rfl,rfl⟩)
  go_ret;exact ⟨by rw [q.out];rfl,j⟩
end
end
section
theorem eX_:∀(a b:Fin 8),(bits .or .i64 (a.val:Int) (b.val:Int):Int)=((a.val ||| b.val:Nat):Int):=by decide +kernel
theorem mS:∀(a:Fin 8) (b:Fin 8),(bits .and .i64 (a.val:Int) (b.val:Int):Int)=((a.val &&& b.val:Nat):Int):=by decide +kernel
theorem eZ_:∀(a b m:Fin 8),(m.val=1\/m.val=2\/m.val=4)->(((a.val ||| b.val) &&& m.val=0)↔(a.val &&& m.val=0/\b.val &&& m.val=0))/\(a.val ||| b.val)<8:=by decide +kernel
def yY (x:Int):Prop:=0<=x/\x<=7
theorem mZ {x:Int} (h:yY x):∃a:Fin 8,x=(a.val:Int):=⟨⟨x.toNat,by have:=h.1;have:=h.2;omega⟩,by have:=h.1;simp;omega⟩
theorem lH (h:dH m=true):∃a:Fin 8,m=(a.val:Int)/\(a.val=1\/a.val=2\/a.val=4):=by
 have:m=1\/m=2\/m=4:=by simpa [dH] using h
 rcases this with rfl | rfl | rfl
 ·exact ⟨1,rfl,bX⟩
 ·exact ⟨2,rfl,bX⟩
 ·exact ⟨4,rfl,bX⟩
theorem cl_ {a:Int} (ha:yY a) (hb:yY b):yY (uP a b):=by
 obtain ⟨x,rfl⟩:=mZ ha;obtain ⟨y,rfl⟩:=mZ hb
 show yY (bits .or .i64 _ _)
 rw [eX_];have:=(eZ_ x y 1 (.inl rfl)).2;exact ⟨O_,O_⟩
theorem eW_ {a:Int} (ha:yY a) (hb:yY b) (hm:dH m=true):gX (uP a b) m=0↔gX a m=0/\gX b m=0:=by
 obtain ⟨x,rfl⟩:=mZ ha;obtain ⟨y,rfl⟩:=mZ hb;obtain ⟨z,rfl,c⟩:=lH hm
 show bits .and .i64 (bits .or .i64 _ _) _=0↔bits .and .i64 _ _=0/\bits .and .i64 _ _=0
 rw [eX_,mS,mS];have h1:=eZ_ x y z c;have h2:=mS ⟨x.val ||| y.val,h1.2⟩ z;simp only at h2;rw [h2];have h3:=h1.1;omega
theorem qZ {x:Int × Int} (h:eH_ x):yY x.2:=by
 rcases h with rfl | ⟨_,h1,h2,_⟩
 ·exact ⟨O_,O_⟩
 ·exact ⟨h1,h2⟩
theorem ay_ (m:Int) (hm:dH m=true):∀(ks:List T) (a:Int),yY a->(∀k ∈ ks,yY k.marks)->yY (ks.foldl (fun a k=>uP a k.marks) a)/\(gX (ks.foldl (fun a k=>uP a k.marks) a) m=0↔gX a m=0/\∀k ∈ ks,gX k.marks m=0)
 | [],a,ha,_=>⟨ha,z_⟩
 | k :: ks,a,ha,hk=>by
  have h1:=cl_ ha (hk k z_);obtain ⟨h2,h3⟩:=ay_ m hm ks (uP a k.marks) h1 (fun x b=>hk x (by simp [b]));refine ⟨h2,?_⟩
  show gX (ks.foldl (fun a k=>uP a k.marks) (uP a k.marks)) m=0↔_
  rw [h3,eW_ ha (hk k z_) hm];simp only[qJ,forall_eq_or_imp]
  constructor
  ·rintro ⟨⟨a1,a2⟩,a3⟩;exact ⟨a1,a2,a3⟩
  ·rintro ⟨a1,a2,a3⟩;exact ⟨⟨a1,a2⟩,a3⟩
theorem lE (hm:dH m=true):∀(h:Nat) {c:Cn},aX c->yY (f_ h c).marks/\(gX (f_ h c).marks m=0↔∀j,j<4 ^ h->gX (c j).2 m=0)
 | 0,c,hc=>by
  refine ⟨qZ (hc 0),?_⟩
  show gX (c 0).2 m=0↔_
  constructor
  ·intro h j hj;obtain rfl:j=0:=by simpa using hj
   exact h
  ·intro h;exact h 0 z_
 | h+1,c,hc=>by
  have h0:gX 0 m=0:=by
   obtain ⟨z,rfl,l⟩:=lH hm;have:=mS 0 z;rw [show (((0:Fin 8).val:Int))=0 from rfl] at this
   show bits .and .i64 0 _=0
   rw [this];simp
  cases hn:bP (4 ^ (h+1)) c with
  | true=>
   rw [dL hn];refine ⟨⟨by show (0:Int)<=0;omega,by show (0:Int)<=7;omega⟩,?_⟩
   show gX 0 m=0↔_
   exact ⟨fun _ j hj=>by rw [aU.1 hn j hj];exact h0,fun _=>h0⟩
  | false=>
   rw [bE,hn,if_neg z_]
   show yY (kS (N_ h c))/\(gX (kS (N_ h c)) m=0↔_)
   have a:∀k ∈ N_ h c,yY k.marks:=fun k a=>by
    unfold N_ at a;obtain ⟨i,b,rfl⟩:=List.mem_map.1 a;exact (lE hm h (hc.sh _)).1
   obtain ⟨h1,h2⟩:=ay_ m hm (N_ h c) 0 ⟨O_,O_⟩ a;refine ⟨h1,?_⟩
   show gX (List.foldl _ 0 _) m=0↔_
   rw [h2]
   constructor
   ·rintro ⟨_,h3⟩ j hj;obtain ⟨d,f,g⟩:=rG hj;have:=(lE hm h (hc.sh (j / 4 ^ h*4 ^ h))).2.1 (h3 _ (fF (dN d))) _ g;simp only[sh] at this;rw [f] at this;exact this
   ·intro h3;refine ⟨h0,fun k a=>?_⟩;unfold N_ at a;obtain ⟨i,b,rfl⟩:=List.mem_map.1 a;exact (lE hm h (hc.sh _)).2.2 fun j hj=>h3 _ (uS (List.mem_range.1 b) hj)
theorem rB (l l':List En) (fr m:Int):aE (l ++ l') fr m=if (aE l fr m).2 then aE l fr m else aE l' fr m:=by
 unfold aE;rw [List.find?_append]
 cases l.find? (iZ fr m) <;> simp
theorem oT (h:∀e ∈ l,iZ fr m e=false):aE l fr m=(0,false):=by
 unfold aE;rw [List.find?_eq_none.2 fun x hx=>by rw [h x hx];simp]
theorem xA {c:Cn} {fr m:Int} (h:(base:Int)+(n:Int)<=fr):aE (aH base n c) fr m=(0,false):=oT fun e he=>by
 obtain ⟨j,hj,_,rfl⟩:=fQ.1 he;unfold iZ;rw [dF (show ¬fr<=(((base+j:Nat)):Int) by omega)]
 rfl
theorem oC {base h:Nat} {fr m:Int} (hl:aX c) (hm:dH m=true) (hz:gX (f_ h c).marks m=0):aE (aH base (4 ^ h) c) fr m=(0,false):=oT fun e a=>by
 obtain ⟨j,b,_,rfl⟩:=fQ.1 a;have h1:=(lE hm h hl).2.1 hz j b;have h2:(m == 0)=false:=by
  obtain ⟨z,rfl,hz⟩:=lH hm;exact beq_eq_false_iff_ne.2 O_
 unfold iZ mkB;simp only[h1,h2];simp
theorem dp_ {base:Nat} {c:Cn} {fr m:Int} (hn:bP 1 c=false) (hf:¬(base:Int)+1<=fr) (hm:m=0\/(dH m=true/\gX (c 0).2 m≠0)):aE (aH base 1 c) fr m=if decide (0<(c 0).1) then ((base:Int),true) else (0,false):=by
 rw [uD hn];have a:mkB (c 0).2 m=true:=by
  unfold mkB
  rcases hm with rfl | ⟨h1,h2⟩
  ·rfl
  ·rw [h1,bne_iff_ne.2 h2];simp
 have b:iZ fr m ((base:Int),(c 0).1,(c 0).2)=decide (0<(c 0).1):=by
  unfold iZ;simp only[a,dT (show fr<=(base:Int) by omega)];simp
 unfold aE;rw [List.find?_singleton,b]
 cases decide (0<(c 0).1) <;> rfl
def qO (l:List En) (fr m:Int) (w:World) (e:Ending) (w':World):Prop:=∃i:Int,e = .returned (.tuple #[I_ i,.bool (aE l fr m).2])/\((aE l fr m).2=true->i=(aE l fr m).1)/\q_ w w'
theorem qO.no (h:aE l fr m=(0,false)) (hb:q_ w w'):qO l fr m w (.returned (.tuple #[I_ i,.bool false])) w':=⟨i,by rw [h],(fun e=>by rw [h] at e;cases e),hb⟩
theorem qO.leaf {b:Bool} (h:aE l fr m=if b then (i,true) else (0,false)) (hb:q_ w w'):qO l fr m w (.returned (.tuple #[I_ i,.bool b])) w':=by
 cases b
 ·exact .no h hb
 ·exact ⟨i,by rw [h];rfl,(fun _=>by rw [h];rfl),hb⟩
theorem uZ {x:Int × Bool} (hk:k+1<=4) (h:aE (aH base ((k+1)*p) c) fr m=x) (ht:x.2=true):aE (aH base (4*p) c) fr m=x:=by
 obtain ⟨d,hd⟩:∃d,4*p=(k+1)*p+d:=⟨4*p - (k+1)*p,by have:=Nat.mul_le_mul_right p hk;omega⟩;rw [hd,uC,rB,h,if_pos ht]
theorem iO_:∀(h:Nat) (c:Cn) (A:Option Addr) (cap:Nat) (S:Nat->Prop) (base:Nat) (fr m:Int) (w:World),h<=4->aX c->base+4 ^ h<=256->(m=0\/dH m=true)->(f_ h c).kids.length<=cap->NK w S A (f_ h c).kids->
  C_ 193 #[lG A (f_ h c).kids.length cap (f_ h c).val (f_ h c).marks,I_ base,I_ ((4 ^ h:Nat):Int),I_ fr,I_ m] w (qO (aH base (4 ^ h) c) fr m w):=by
 intro h
 induction h with
 | zero=>
  intro c A cap S base fr m w hh hl N C a3 hk;have G:=fun w=>fK A 0 cap (c 0).1 (c 0).2 w;rw [show rP 0 (c 0).1 (c 0).2=(f_ 0 c).emB from rfl,cH,show 4 ^ 0=1 from rfl] at G;have f:=fun (hm1:dH m=true) (D:gX (f_ 0 c).marks m=0)=>oC (base:=base) (fr:=fr) hl hm1 D;rw [show (f_ 0 c).marks=(c 0).2 from rfl,show 4 ^ 0=1 from rfl] at f;rw [show (f_ 0 c).kids.length=0 from rfl,show (f_ 0 c).val=(c 0).1 from rfl,show (f_ 0 c).marks=(c 0).2 from rfl,show 4 ^ 0=1 from rfl];rw [show 4 ^ 0=1 from rfl] at N;have ac:=H_ (fun g hf C=>dp_ (base:=base) (c:=c) (fr:=fr) (m:=m) g hf C);have V:=H_ (g_ w (.cells #[S_ A 0 cap,I_ (c 0).1,I_ (c 0).2] 56));have U:=H_ (b_ (aI (w) w) (.cells #[S_ A 0 cap,I_ (c 0).1,I_ (c 0).2] 56))
  cases g:bP 1 c with
  | true=>
   rw [g] at G;have K:=H_ (show aE (aH base 1 c) fr m=(0,false) by rw [jW g];rfl);clear g f;generalize (c 0).1=y at *;generalize (c 0).2=Q at *;go_enter func193,ntmps193
   go_wp2_with (go_at_call 217;(with_reducible refine CM (G _) ?_);rintro e w1 ⟨rfl,d⟩;obtain ⟨a,b⟩:=gZ V U d;obtain ⟨x0,x1,x2⟩:=cL a.out)
   go_ret2
   exact qO.no K b
  | false=>
   rw [g] at G;have HN:=H_ g
   by_cases hf:(base:Int)+1<=fr
   ·have K:=H_ (xA (c:=c) (m:=m) (show (base:Int)+((1:Nat):Int)<=fr from hf));clear g f;generalize (c 0).1=y at *;generalize (c 0).2=Q at *;go_enter func193,ntmps193
    go_wp2_with (go_at_call 217;(with_reducible refine CM (G _) ?_);rintro e w1 ⟨rfl,d⟩;obtain ⟨a,b⟩:=gZ V U d;obtain ⟨x0,x1,x2⟩:=cL a.out)
    go_ret2
    exact qO.no K b
   ·rcases C with rfl | C
    ·have K:=H_ (ac g hf (.inl rfl));clear g f;generalize (c 0).1=y at *;generalize (c 0).2=Q at *;go_enter func193,ntmps193
     go_upto_region 4 with (go_at_call 217;(with_reducible refine CM (G _) ?_);rintro e w1 ⟨rfl,d⟩;obtain ⟨a,b⟩:=gZ V U d;obtain ⟨x0,x1,x2⟩:=cL a.out)
     have lX:=p_ a;go_quiet (fail);go_wp2
     go_ret2
     exact qO.leaf K (below_drewN b _)
    ·have q1:(m == 0)=false:=by
      obtain ⟨z,rfl,D⟩:=lH C;exact beq_eq_false_iff_ne.2 O_
     have q2:(m != 0)=true:=by
      obtain ⟨z,rfl,D⟩:=lH C;exact bne_iff_ne.2 O_
     by_cases D:gX (c 0).2 m=0
     ·have K:=H_ (f C D);have q3:(gX (c 0).2 m == 0)=true:=beq_iff_eq.2 D;clear g f D C;generalize (c 0).1=y at *;generalize (c 0).2=Q at *;go_enter func193,ntmps193
      go_wp2_with (go_at_call 217;(with_reducible refine CM (G _) ?_);rintro e w1 ⟨rfl,d⟩;obtain ⟨a,b⟩:=gZ V U d;obtain ⟨x0,x1,x2⟩:=cL a.out)
      go_ret2
      exact qO.no K b
     ·have K:=H_ (ac g hf (.inr ⟨C,D⟩));have q3:(gX (c 0).2 m == 0)=false:=beq_eq_false_iff_ne.2 D;clear g f D C;generalize (c 0).1=y at *;generalize (c 0).2=Q at *;go_enter func193,ntmps193
      go_upto_region 4 with (go_at_call 217;(with_reducible refine CM (G _) ?_);rintro e w1 ⟨rfl,d⟩;obtain ⟨a,b⟩:=gZ V U d;obtain ⟨x0,x1,x2⟩:=cL a.out)
      have lX:=p_ a;go_quiet (fail);go_wp2
      go_ret2
      exact qO.leaf K (below_drewN b _)
 | succ h ih=>
  intro c A cap S base fr m w hh hl N C a3 hk;have f:=fun (hm1:dH m=true) (D:gX (f_ (h+1) c).marks m=0)=>oC (base:=base) (fr:=fr) hl hm1 D;obtain ⟨n,g⟩:∃n,(f_ (h+1) c).kids.length=n:=⟨_,rfl⟩;obtain ⟨y,hy⟩:∃v,(f_ (h+1) c).val=v:=⟨_,rfl⟩;obtain ⟨Q,a1⟩:∃m,(f_ (h+1) c).marks=m:=⟨_,rfl⟩;have ak:4 ^ h<=64:=show 4 ^ h<=4 ^ 3 from Nat.pow_le_pow_right O_ O_;have aj:1<=4 ^ h:=Nat.pow_pos O_;have a5:=H_ (show 4 ^ (h+1)=4*4 ^ h by rw [Nat.pow_succ];omega);rw [g] at a3;have ab:=H_ (show bP (4 ^ (h+1)) c=false->(f_ (h+1) c).kids=N_ h c from fun g=>by rw [bE,g];rfl);have aa:=H_ (fun k=>wE base (4 ^ h) k c);have G:=fun w=>fK A n cap y Q w;rw [show rP n y Q=bP (4 ^ (h+1)) c by rw [<-g,<-hy,<-a1];exact cH (h+1) c] at G;rw [a1,a5.out] at f;rw [a5.out] at G N ab;rw [g,hy,a1,a5.out];have V:=H_ (g_ w (.cells #[S_ A n cap,I_ y,I_ Q] 56));have U:=H_ (b_ (aI (w) w) (.cells #[S_ A n cap,I_ y,I_ Q] 56));have ad:=H_ (fun w' (hb:q_ w w')=>hk.step hb);obtain ⟨Hn,Hl,Hm⟩:=eT g hl C;generalize hp:4 ^ h=p at *;have Hp:=H_ hp;clear g hy a1 hk hp
  cases g:bP (4*p) c with
  | true=>
   rw [g] at G;have K:=H_ (show aE (aH base (4*p) c) fr m=(0,false) by rw [jW g];rfl);clear g f C;go_enter func193,ntmps193
   go_wp2_with (go_at_call 217;(with_reducible refine CM (G _) ?_);rintro e w1 ⟨rfl,d⟩;obtain ⟨a,b⟩:=gZ V U d;obtain ⟨x0,x1,x2⟩:=cL a.out)
   go_ret2
   exact qO.no K b
  | false=>
   rw [g] at G
   by_cases hf:(base:Int)+((4*p:Nat):Int)<=fr
   ·have K:=H_ (xA (c:=c) (m:=m) hf);have ag:(base:Int)+4*(p:Int)<=fr:=O_
    clear g f C;go_enter func193,ntmps193
    go_wp2_with (go_at_call 217;(with_reducible refine CM (G _) ?_);rintro e w1 ⟨rfl,d⟩;obtain ⟨a,b⟩:=gZ V U d;obtain ⟨x0,x1,x2⟩:=cL a.out)
    go_ret2
    exact qO.no K b
   ·have a7:=ab g;have h4:n=4:=by rw [<-Hn.out,a7,Q_]
    subst h4;have a2:=H_ (fun w' (hb:q_ w w')=>show NK w' S A (N_ h c) by rw [<-a7];exact ad w' hb);have ag:¬(base:Int)+4*(p:Int)<=fr:=O_
    have r4:(((4*p:Nat):Int) == 1)=false:=beq_eq_false_iff_ne.2 O_;have r7:=fA (x:=(p:Int)) O_;clear g a7 ad
    rcases C with rfl | C
    ·clear f;go_enter func193,ntmps193
     go_upto_region 5 with (go_at_call 217;(with_reducible refine CM (G _) ?_);rintro e w1 ⟨rfl,d⟩;obtain ⟨a,b⟩:=gZ V U d;obtain ⟨x0,x1,x2⟩:=cL a.out)
     go_cut [2,5] (fun s2 s5 wx=>s2 = I_ (p:Int)/\s5 = P_ w.heap.size/\w1=wx)
     case first=>
      go_wp2;go_meet
      case rel=>exact ⟨rfl,rfl,by first | rfl | trivial⟩
     case rest=>
      obtain ⟨rfl,rfl,rfl⟩:=hcut;clear r4;go_wp2;clear x0 x1 x2
      go_loopw [47] (fun s47 wx=>∃(k:Nat),k<=4/\s47 = I_ k/\(aE (aH base (k*p) c) fr 0).2=false/\q_ w wx) (fun s47 _=>4 - (intOf s47).toNat)
      case atStart=>exact ⟨0,O_,rfl,by rw [Nat.zero_mul,qV];rfl,b⟩
      case round=>
       obtain ⟨k,ah,rfl,a0,hW⟩:=hrel;have E:=H_ hW;have J:=H_ a0;clear hW a0
       by_cases Z:k<4
       ·obtain ⟨b',o,t,A',cap',rfl,ai,af,F,W,X,P,B⟩:=(a2.out _ E.out).at_ (i:=k) (by rw [Q_];exact Z);rw [dN Z,Hp.out] at F;injection F with F
        subst F;have Y:k*p+p<=4*p:=by
         have:=Nat.mul_le_mul_right p (show k+1<=4 by omega);rw [Nat.add_mul,Nat.one_mul] at this;exact this
        have l:=H_ (aa k);have s:=J.out;obtain ⟨q,hq⟩:∃q,k*p=q:=⟨_,rfl⟩;have ae:i64.wrap ((k:Int)*(p:Int))=(q:Int):=by
         rw [<-Int.natCast_mul,hq];exact fA O_
        have a8:(k:Int)*(p:Int)=(q:Int):=by rw [<-Int.natCast_mul,hq]
        rw [hq] at l s Y W X P B;have I:=H_ (show aE (aH base ((k+1)*p) c) fr 0=aE (aH (base+q) p (sh c q)) fr 0 by rw [l.out,rB,s];rfl);have a6:base+q+p<=256:=O_
        have O:=fun w' a9=>ih (sh c q) A' cap' S (base+q) fr 0 w' O_ (Hl.sh q) a6 (by first | exact Hm.out | exact .inl rfl) P a9;rw [show (((base+q:Nat)):Int)=(base:Int)+(q:Int) by omega] at O;have k0:(0:Int)<=(k:Int):=O_
        have k1:(k:Int)<(4:Int):=O_
        have k2:(k:Int)<(cap:Int):=O_
        have b0:(0:Int)<=(base:Int)+(q:Int):=O_
        have b1:(base:Int)+(q:Int)<=256:=O_
        obtain ⟨c0,c1,c2⟩:=W;have H:=H_ B;clear hq B X P Y l s;generalize (f_ h (sh c q)).kids.length=kn at *;generalize (f_ h (sh c q)).val=kv at *;generalize (f_ h (sh c q)).marks=km at *;have r:=H_ (show (aE (aH (base+q) p (sh c q)) fr 0).2=true->aE (aH base (4*p) c) fr 0=aE (aH (base+q) p (sh c q)) fr 0 from fun ht=>uZ O_ I.out ht);obtain ⟨NX,L⟩:∃x,aE (aH (base+q) p (sh c q)) fr 0=x:=⟨_,rfl⟩;rw [L] at r I;have R:=H_ L;clear L
        cases hnx:NX.2 with
        | true=>
         have HT:=H_ (r hnx);have j:=H_ hnx;clear hnx
         go_wp2_with (go_at_call 193;(with_reducible refine CM (O _ (H.out.alloc _)) ?_);rintro e w2 ⟨ii,rfl,u,M⟩;rw [R.out] at u ⊢;rw [j.out];have a4:=H_ (u j);clear u)
         go_ret2
         exact ⟨ii,by rw [HT.out,j.out];rfl,(fun _=>by rw [HT.out];exact a4),d_ (b_ E _) M⟩
        | false=>
         have j:=H_ hnx;clear hnx
         go_wp2_with (go_at_call 193;(with_reducible refine CM (O _ (H.out.alloc _)) ?_);rintro e w2 ⟨ii,rfl,u,M⟩;rw [R.out];rw [j.out];clear u)
         go_roundw
         case rel=>exact ⟨k+1,O_,by go_num,by rw [I.out];exact j,d_ (b_ E _) M⟩
         case measure=>exact bH
       ·obtain rfl:k=4:=O_
        go_wp2
        go_ret2
        exact ⟨0,by rw [J.out];rfl,(fun e=>by rw [J.out] at e;cases e),E.out⟩
    ·have q1:(m == 0)=false:=by
      obtain ⟨z,rfl,D⟩:=lH C;exact beq_eq_false_iff_ne.2 O_
     have q2:(m != 0)=true:=by
      obtain ⟨z,rfl,D⟩:=lH C;exact bne_iff_ne.2 O_
     by_cases D:gX Q m=0
     ·have K:=H_ (f C D);have q3:(gX Q m == 0)=true:=beq_iff_eq.2 D;clear f D C r4 r7;go_enter func193,ntmps193
      go_wp2_with (go_at_call 217;(with_reducible refine CM (G _) ?_);rintro e w1 ⟨rfl,d⟩;obtain ⟨a,b⟩:=gZ V U d;obtain ⟨x0,x1,x2⟩:=cL a.out)
      go_ret2
      exact qO.no K b
     ·have q3:(gX Q m == 0)=false:=beq_eq_false_iff_ne.2 D;clear f D C;go_enter func193,ntmps193
      go_upto_region 5 with (go_at_call 217;(with_reducible refine CM (G _) ?_);rintro e w1 ⟨rfl,d⟩;obtain ⟨a,b⟩:=gZ V U d;obtain ⟨x0,x1,x2⟩:=cL a.out)
      go_cut [2,5] (fun s2 s5 wx=>s2 = I_ (p:Int)/\s5 = P_ w.heap.size/\w1=wx)
      case first=>
       go_wp2;go_meet
       case rel=>exact ⟨rfl,rfl,by first | rfl | trivial⟩
      case rest=>
       obtain ⟨rfl,rfl,rfl⟩:=hcut;clear r4;go_wp2;clear x0 x1 x2
       go_loopw [47] (fun s47 wx=>∃(k:Nat),k<=4/\s47 = I_ k/\(aE (aH base (k*p) c) fr m).2=false/\q_ w wx) (fun s47 _=>4 - (intOf s47).toNat)
       case atStart=>exact ⟨0,O_,rfl,by rw [Nat.zero_mul,qV];rfl,b⟩
       case round=>
        obtain ⟨k,ah,rfl,a0,hW⟩:=hrel;have E:=H_ hW;have J:=H_ a0;clear hW a0
        by_cases Z:k<4
        ·obtain ⟨b',o,t,A',cap',rfl,ai,af,F,W,X,P,B⟩:=(a2.out _ E.out).at_ (i:=k) (by rw [Q_];exact Z);rw [dN Z,Hp.out] at F;injection F with F
         subst F;have Y:k*p+p<=4*p:=by
          have:=Nat.mul_le_mul_right p (show k+1<=4 by omega);rw [Nat.add_mul,Nat.one_mul] at this;exact this
         have l:=H_ (aa k);have s:=J.out;obtain ⟨q,hq⟩:∃q,k*p=q:=⟨_,rfl⟩;have ae:i64.wrap ((k:Int)*(p:Int))=(q:Int):=by
          rw [<-Int.natCast_mul,hq];exact fA O_
         have a8:(k:Int)*(p:Int)=(q:Int):=by rw [<-Int.natCast_mul,hq]
         rw [hq] at l s Y W X P B;have I:=H_ (show aE (aH base ((k+1)*p) c) fr m=aE (aH (base+q) p (sh c q)) fr m by rw [l.out,rB,s];rfl);have a6:base+q+p<=256:=O_
         have O:=fun w' a9=>ih (sh c q) A' cap' S (base+q) fr m w' O_ (Hl.sh q) a6 (by first | exact Hm.out | exact .inl rfl) P a9;rw [show (((base+q:Nat)):Int)=(base:Int)+(q:Int) by omega] at O;have k0:(0:Int)<=(k:Int):=O_
         have k1:(k:Int)<(4:Int):=O_
         have k2:(k:Int)<(cap:Int):=O_
         have b0:(0:Int)<=(base:Int)+(q:Int):=O_
         have b1:(base:Int)+(q:Int)<=256:=O_
         obtain ⟨c0,c1,c2⟩:=W;have H:=H_ B;clear hq B X P Y l s;generalize (f_ h (sh c q)).kids.length=kn at *;generalize (f_ h (sh c q)).val=kv at *;generalize (f_ h (sh c q)).marks=km at *;have r:=H_ (show (aE (aH (base+q) p (sh c q)) fr m).2=true->aE (aH base (4*p) c) fr m=aE (aH (base+q) p (sh c q)) fr m from fun ht=>uZ O_ I.out ht);obtain ⟨NX,L⟩:∃x,aE (aH (base+q) p (sh c q)) fr m=x:=⟨_,rfl⟩;rw [L] at r I;have R:=H_ L;clear L
         cases hnx:NX.2 with
         | true=>
          have HT:=H_ (r hnx);have j:=H_ hnx;clear hnx
          go_wp2_with (go_at_call 193;(with_reducible refine CM (O _ (H.out.alloc _)) ?_);rintro e w2 ⟨ii,rfl,u,M⟩;rw [R.out] at u ⊢;rw [j.out];have a4:=H_ (u j);clear u)
          go_ret2
          exact ⟨ii,by rw [HT.out,j.out];rfl,(fun _=>by rw [HT.out];exact a4),d_ (b_ E _) M⟩
         | false=>
          have j:=H_ hnx;clear hnx
          go_wp2_with (go_at_call 193;(with_reducible refine CM (O _ (H.out.alloc _)) ?_);rintro e w2 ⟨ii,rfl,u,M⟩;rw [R.out];rw [j.out];clear u)
          go_roundw
          case rel=>exact ⟨k+1,O_,by go_num,by rw [I.out];exact j,d_ (b_ E _) M⟩
          case measure=>exact bH
        ·obtain rfl:k=4:=O_
         go_wp2
         go_ret2
         exact ⟨0,by rw [J.out];rfl,(fun e=>by rw [J.out] at e;cases e),E.out⟩
end
section
theorem vR {l:List En} {fr m:Int} (h0:m≠0) (hm:dH m=false):aE l fr m=(0,false):=oT fun e he=>by
 have h1:(m == 0)=false:=beq_eq_false_iff_ne.2 h0;unfold iZ mkB;rw [h1,hm];simp
def js_ (l:List En) (fr m:Int) (w:World) (e:Ending) (w':World):Prop:=e = .returned (.tuple #[I_ (aE l fr m).1,.bool (aE l fr m).2])/\q_ w w'
def SP.sk (x:Int × Bool):SP:=⟨fun v _=>∃ii:Int,v = .tuple #[I_ ii,.bool x.2]/\(x.2=true->ii=x.1),fun _ _ _ _ h=>h⟩
def SP.ii (x:Int × Bool):SP:=⟨fun v _=>∃ii:Int,v = I_ ii/\(x.2=true->ii=x.1),fun _ _ _ _ h=>h⟩
theorem wN {l:List En} {fr m:Int} (h:(aE l fr m).2=false):aE l fr m=(0,false):=by
 unfold aE at h ⊢
 cases hf:l.find? (iZ fr m) with
 | none=>rfl
 | some e=>rw [hf] at h;cases h
theorem fn_ (cap:Nat) (fr m:Int) (hl:aX c) (ht:X_ h c) (hcap:(f_ h c).kids.length<=cap) (hk:NK w S A (f_ h c).kids) :
  C_ 147 #[oD h A (f_ h c).kids.length cap (f_ h c).val (f_ h c).marks,I_ fr,I_ m] w (js_ (aH 0 (4 ^ h) c) fr m w):=by
 have U:=ht.1;have Z:4 ^ h<=256:=show 4 ^ h<=4 ^ 4 from Nat.pow_le_pow_right O_ U;have C:=fun w' (hb:q_ w w')=>qG h (f_ h c) cap (eA _ _) hcap (hk.step hb);rw [fX hl ht] at C;have j:=fun m (P:m=0\/dH m=true) w' (hb:q_ w w')=>iO_ h c A cap S 0 fr m w' U hl O_ P hcap (hk.step hb);obtain ⟨n,X⟩:∃n,(f_ h c).kids.length=n:=⟨_,rfl⟩;obtain ⟨v,hv⟩:∃v,(f_ h c).val=v:=⟨_,rfl⟩;obtain ⟨N,P⟩:∃m,(f_ h c).marks=m:=⟨_,rfl⟩;have M:=fun w=>iP_ h A n cap v N w U;rw [X,hv,P] at C j ⊢;have R:=H_ (g_ w (.cells #[I_ (h:Int),S_ A n cap,I_ v,I_ N] 58));have Q:=H_ (b_ (aI (w) w) (.cells #[I_ (h:Int),S_ A n cap,I_ v,I_ N] 58));generalize aH 0 (4 ^ h) c=O at j ⊢;generalize 4 ^ h=p at j M;have B:=fun w=>eO_ m w;clear X hv P hk hl ht hcap Z
 by_cases h0:m=0
 ·subst h0;have j:=j 0 (.inl rfl);go_enter func147,ntmps147
  go_upto_region 3 with (first | (go_at_call 181;(with_reducible refine CM (C _ fD) ?_);rintro e w1 ⟨rfl,i⟩;obtain ⟨r,q⟩:=gZ R Q i;obtain ⟨x0,D,E,F⟩:=iH r.out) | (go_at_call 192;(with_reducible refine CM (B _) ?_);rintro e w2 ⟨rfl,rfl⟩))
  have s:=p_ r;obtain ⟨t,y⟩:∃x,aE O fr 0=x:=⟨_,rfl⟩;have o:=H_ y;clear y;refine T_ 11 35 [SP.eq (.pointer (some ⟨w,1,none⟩)),SP.eq (lG A n cap v N),SP.eq (oD h A n cap v N),SP.eq (I_ p),SP.eq (I_ fr),SP.eq (I_ 0),SP.sk t,SP.sk t,SP.ii t,SP.eq (.bool t.2),SP.ii t] s_ s_ rfl ?_;simp only[vK];refine qC fun v0=>?_;simp only[ly];refine e_ (fun x b d K g=>?_) (fun v1=>?_)
  ·obtain rfl:v0=_:=d 0 s_;have V:=(b.cell (p:=⟨w,_,none⟩) s).trans D;have y2:=(b.cell (p:=⟨w,_,none⟩) s).trans E;have W:=(b.cell (p:=⟨w,_,none⟩) s).trans F;go_simp;exact g _ _ b B_ rfl
  simp only[ly];refine e_ (fun x b d K g=>?_) (fun v2=>?_)
  ·have y0:=(b.cell (p:=⟨w,_,none⟩) s).trans x0;have V:=(b.cell (p:=⟨w,_,none⟩) s).trans D;have y2:=(b.cell (p:=⟨w,_,none⟩) s).trans E;have W:=(b.cell (p:=⟨w,_,none⟩) s).trans F;go_simp;exact g _ _ b B_ rfl
  simp only[ly];refine e_ (fun x b d K g=>?_) (fun v3=>?_)
  ·obtain rfl:v2=_:=d 2 s_;go_simp
   go_at_call 194
   refine (M x).mono ?_;rintro e w1 ⟨rfl,i⟩;exact g _ _ (d_ b i) i rfl
  simp only[ly];refine qC fun v4=>qC fun v5=>?_;simp only[ly];refine e_ (fun x b d K g=>?_) (fun v6=>?_)
  ·obtain rfl:v1=_:=d 1 s_;obtain rfl:v3=_:=d 3 s_;obtain rfl:v4=_:=d 4 s_;obtain rfl:v5=_:=d 5 s_;go_simp
   go_at_call 193
   refine (j x (d_ q b)).mono ?_;rintro e w1 ⟨k,rfl,a,z⟩;rw [o.out] at a ⊢;exact g _ _ (d_ b z) z ⟨k,rfl,a⟩
  simp only[ly];refine e_ (fun x b d K g=>?_) (fun v7=>?_)
  ·obtain ⟨k,rfl,a⟩:=d 6 s_;have f:=H_ a;clear a;go_simp;exact g _ _ b B_ ⟨k,rfl,f⟩
  simp only[ly];refine e_ (fun x b d K g=>?_) (fun v8=>?_)
  ·obtain ⟨k,rfl,a⟩:=d 7 s_;have f:=H_ a;clear a;go_simp;exact g _ _ b B_ ⟨k,rfl,f⟩
  simp only[ly];refine e_ (fun x b d K g=>?_) (fun v9=>?_)
  ·obtain ⟨k,rfl,a⟩:=d 7 s_;clear a;go_simp;exact g _ _ b B_ rfl
  simp only[ly];refine e_ (fun x b d K g=>?_) (fun v10=>?_)
  ·obtain ⟨k,rfl,a⟩:=d 8 s_;have f:=H_ a;clear a;go_simp;exact g _ _ b B_ ⟨k,rfl,f⟩
  simp only[ly];refine aA ?_;intro x b L;obtain rfl:v9=_:=L 9 O_;obtain ⟨k,J,a⟩:=L 10 O_;obtain rfl:v10=_:=J;have f:=H_ a;have u:=lU q b;clear L b x0 D E F a
  cases hnx:t.2 with
  | true=>
   have G:=H_ (f hnx);have I:=H_ hnx;clear hnx;go_wp2
   go_ret2
   exact ⟨by rw [o.out,<-G.out,I.out];rfl,u⟩
  | false=>
   have H:=H_ (wN (l:=O) (fr:=fr) (m:=0) (by rw [o.out];exact hnx));clear hnx;go_wp2
   go_ret2
   exact ⟨by rw [H.out];rfl,u⟩
 ·have q1:(m == 0)=false:=beq_eq_false_iff_ne.2 h0;have q2:(m != 0)=true:=bne_iff_ne.2 h0
  cases ho:dH m with
  | true=>
   have j:=j m (.inr ho);rw [ho] at B;clear ho h0;go_enter func147,ntmps147
   go_upto_region 3 with (first | (go_at_call 181;(with_reducible refine CM (C _ fD) ?_);rintro e w1 ⟨rfl,i⟩;obtain ⟨r,q⟩:=gZ R Q i;obtain ⟨x0,D,E,F⟩:=iH r.out) | (go_at_call 192;(with_reducible refine CM (B _) ?_);rintro e w2 ⟨rfl,rfl⟩))
   have s:=p_ r;obtain ⟨t,y⟩:∃x,aE O fr m=x:=⟨_,rfl⟩;have o:=H_ y;clear y;refine T_ 11 35 [SP.eq (.pointer (some ⟨w,1,none⟩)),SP.eq (lG A n cap v N),SP.eq (oD h A n cap v N),SP.eq (I_ p),SP.eq (I_ fr),SP.eq (I_ m),SP.sk t,SP.sk t,SP.ii t,SP.eq (.bool t.2),SP.ii t] s_ s_ rfl ?_;simp only[vK];refine qC fun v0=>?_;simp only[ly];refine e_ (fun x b d K g=>?_) (fun v1=>?_)
   ·obtain rfl:v0=_:=d 0 s_;have V:=(b.cell (p:=⟨w,_,none⟩) s).trans D;have y2:=(b.cell (p:=⟨w,_,none⟩) s).trans E;have W:=(b.cell (p:=⟨w,_,none⟩) s).trans F;go_simp;exact g _ _ b B_ rfl
   simp only[ly];refine e_ (fun x b d K g=>?_) (fun v2=>?_)
   ·have y0:=(b.cell (p:=⟨w,_,none⟩) s).trans x0;have V:=(b.cell (p:=⟨w,_,none⟩) s).trans D;have y2:=(b.cell (p:=⟨w,_,none⟩) s).trans E;have W:=(b.cell (p:=⟨w,_,none⟩) s).trans F;go_simp;exact g _ _ b B_ rfl
   simp only[ly];refine e_ (fun x b d K g=>?_) (fun v3=>?_)
   ·obtain rfl:v2=_:=d 2 s_;go_simp
    go_at_call 194
    refine (M x).mono ?_;rintro e w1 ⟨rfl,i⟩;exact g _ _ (d_ b i) i rfl
   simp only[ly];refine qC fun v4=>qC fun v5=>?_;simp only[ly];refine e_ (fun x b d K g=>?_) (fun v6=>?_)
   ·obtain rfl:v1=_:=d 1 s_;obtain rfl:v3=_:=d 3 s_;obtain rfl:v4=_:=d 4 s_;obtain rfl:v5=_:=d 5 s_;go_simp
    go_at_call 193
    refine (j x (d_ q b)).mono ?_;rintro e w1 ⟨k,rfl,a,z⟩;rw [o.out] at a ⊢;exact g _ _ (d_ b z) z ⟨k,rfl,a⟩
   simp only[ly];refine e_ (fun x b d K g=>?_) (fun v7=>?_)
   ·obtain ⟨k,rfl,a⟩:=d 6 s_;have f:=H_ a;clear a;go_simp;exact g _ _ b B_ ⟨k,rfl,f⟩
   simp only[ly];refine e_ (fun x b d K g=>?_) (fun v8=>?_)
   ·obtain ⟨k,rfl,a⟩:=d 7 s_;have f:=H_ a;clear a;go_simp;exact g _ _ b B_ ⟨k,rfl,f⟩
   simp only[ly];refine e_ (fun x b d K g=>?_) (fun v9=>?_)
   ·obtain ⟨k,rfl,a⟩:=d 7 s_;clear a;go_simp;exact g _ _ b B_ rfl
   simp only[ly];refine e_ (fun x b d K g=>?_) (fun v10=>?_)
   ·obtain ⟨k,rfl,a⟩:=d 8 s_;have f:=H_ a;clear a;go_simp;exact g _ _ b B_ ⟨k,rfl,f⟩
   simp only[ly];refine aA ?_;intro x b L;obtain rfl:v9=_:=L 9 O_;obtain ⟨k,J,a⟩:=L 10 O_;obtain rfl:v10=_:=J;have f:=H_ a;have u:=lU q b;clear L b x0 D E F a
   cases hnx:t.2 with
   | true=>
    have G:=H_ (f hnx);have I:=H_ hnx;clear hnx;go_wp2
    go_ret2
    exact ⟨by rw [o.out,<-G.out,I.out];rfl,u⟩
   | false=>
    have H:=H_ (wN (l:=O) (fr:=fr) (m:=m) (by rw [o.out];exact hnx));clear hnx;go_wp2
    go_ret2
    exact ⟨by rw [H.out];rfl,u⟩
  | false=>
   have Y:=H_ (vR (l:=O) (fr:=fr) h0 ho);rw [ho] at B;clear ho h0;go_enter func147,ntmps147
   go_wp2_with (first | (go_at_call 181;(with_reducible refine CM (C _ fD) ?_);rintro e w1 ⟨rfl,i⟩;obtain ⟨r,q⟩:=gZ R Q i;obtain ⟨x0,D,E,F⟩:=iH r.out) | (go_at_call 192;(with_reducible refine CM (B _) ?_);rintro e w2 ⟨rfl,rfl⟩))
   go_ret2
   exact ⟨by rw [Y.out];rfl,q⟩
theorem aa_ (base n:Nat) (c:Cn):(aH base n c).Pairwise (fun a b=>a.1<b.1):=by
 unfold aH;rw [List.pairwise_filterMap];refine List.pairwise_lt_range.imp ?_;intro a b g x d y f
 split at d
 ·cases d
 ·split at f
  ·cases f
  ·simp at d f;rw [<-d,<-f]
   show ((base+a:Nat):Int)<((base+b:Nat):Int)
   omega
def gM (l:List En) (fr m:Int):Nat:=l.countP (iZ fr m)
theorem xT (h:(aE l fr m).2=false):gM l fr m=0:=by
 unfold gM;rw [List.countP_eq_zero];unfold aE at h
 cases hf:l.find? (iZ fr m) with
 | none=>rw [List.find?_eq_none] at hf;exact hf
 | some e=>rw [hf] at h;cases h
theorem ds_ {fr':Int} (h1:fr<=fr') (h2:iZ fr' m e=true):iZ fr m e=true:=by
 unfold iZ at h2 ⊢;simp only[Bool.and_eq_true,decide_eq_true_eq] at h2 ⊢;exact ⟨O_,h2.2⟩
theorem pJ:∀{l:List En},l.Pairwise (fun a b=>a.1<b.1)->(aE l fr m).2=true->gM l fr m=gM l ((aE l fr m).1+1) m+1/\fr<=(aE l fr m).1/\∃e ∈ l,e.1=(aE l fr m).1
 | [],_,h=>by cases h
 | e :: l,hs,h=>by
  rw [List.pairwise_cons] at hs
  cases ht:iZ fr m e with
  | true=>
   have hn:aE (e :: l) fr m=(e.1,true):=by unfold aE;rw [List.find?_cons,ht]
   have c:fr<=e.1:=by unfold iZ at ht;simp only[Bool.and_eq_true,decide_eq_true_eq] at ht;exact ht.1
   rw [hn];refine ⟨?_,c,e,z_,rfl⟩;unfold gM;rw [List.countP_cons,List.countP_cons,ht,if_pos rfl];have h0:iZ (e.1+1) m e=false:=by unfold iZ;rw [dF O_];rfl
   rw [show (if iZ ((e.1,true).1+1) m e=true then 1 else 0)=0 by rw [show ((e.1,true).1+1)=e.1+1 from rfl,h0];rfl];rw [Nat.add_zero]
   congr 1
   apply List.countP_congr;intro x d;have f:=hs.1 x d;unfold iZ;simp only[Bool.and_eq_true,decide_eq_true_eq]
   constructor
   ·rintro ⟨_,h⟩;exact ⟨O_,h⟩
   ·rintro ⟨_,h⟩;exact ⟨O_,h⟩
  | false=>
   have hn:aE (e :: l) fr m=aE l fr m:=by unfold aE;rw [List.find?_cons,ht]
   rw [hn] at h ⊢;obtain ⟨h1,h2,x,d,h3⟩:=pJ hs.2 h;refine ⟨?_,h2,x,by simp [d],h3⟩;unfold gM at h1 ⊢;rw [List.countP_cons,List.countP_cons,ht,h1];have h0:iZ ((aE l fr m).1+1) m e=false:=by
    cases hc:iZ ((aE l fr m).1+1) m e with
    | false=>rfl
    | true=>rw [ds_ O_ hc] at ht;cases ht
   rw [h0];simp
theorem xU {n:Nat} {c:Cn} {m:Int}:gM (aH 0 n c) 0 m=fJ (aH 0 n c) m:=by
 unfold gM fJ;apply List.countP_congr;intro x hx;obtain ⟨j,_,_,rfl⟩:=fQ.1 hx;unfold iZ ga_;simp
theorem gd_ (cap:Nat) (m:Int) (hl:aX c) (ht:X_ h c) (hcap:(f_ h c).kids.length<=cap) (hk:NK w S A (f_ h c).kids) :
  C_ 85 #[oD h A (f_ h c).kids.length cap (f_ h c).val (f_ h c).marks,I_ m] w (sB (fJ (aH 0 (4 ^ h) c) m) w):=by
 have K:=ht.1;have B:4 ^ h<=256:=show 4 ^ h<=4 ^ 4 from Nat.pow_le_pow_right O_ K;have f:=fun fr w' (hb:q_ w w')=>fn_ cap fr m hl ht hcap (hk.step hb);have F:=H_ (aa_ 0 (4 ^ h) c);have C:=H_ (xU (n:=4 ^ h) (c:=c) (m:=m));have r:=H_ (show fJ (aH 0 (4 ^ h) c) m<=256 from dO List.countP_le_length (dO (jV 0 (4 ^ h) c) B));have D:=H_ (show ∀e ∈ aH 0 (4 ^ h) c,0<=e.1/\e.1<256 from fun e p=>by obtain ⟨j,R,_,rfl⟩:=fQ.1 p;exact ⟨by show (0:Int)<=((0+j:Nat):Int);omega,by show ((0+j:Nat):Int)<256;omega⟩);obtain ⟨n,z⟩:∃n,(f_ h c).kids.length=n:=⟨_,rfl⟩;obtain ⟨v,hv⟩:∃v,(f_ h c).val=v:=⟨_,rfl⟩;obtain ⟨t,y⟩:∃m,(f_ h c).marks=m:=⟨_,rfl⟩;rw [z,hv,y] at f ⊢;have o:=H_ (g_ w (.cells #[I_ (h:Int),S_ A n cap,I_ v,I_ t] 58));have g:=H_ (b_ (aI (w) w) (.cells #[I_ (h:Int),S_ A n cap,I_ v,I_ t] 58));generalize aH 0 (4 ^ h) c=a at *;clear z hv y hk hl ht hcap B;go_enter func85,ntmps85
 go_wp2_with (go_at_call 147;(with_reducible refine CM (f _ _ fD) ?_);rintro e w1 ⟨rfl,b⟩;obtain ⟨l,i⟩:=gZ o g b)
 go_loopw [5,6,7] (fun s5 s6 s7 wx=>∃(k:Nat) (fr:Int),0<=fr/\fr<=256/\s5 = I_ k/\s6 = I_ (aE a fr m).1/\s7 = .bool (aE a fr m).2/\k+gM a fr m=fJ a m/\aW wx (w) #[I_ (h:Int),S_ A n cap,I_ v,I_ t] 58/\q_ w wx) (fun s5 s6 s7 wx=>fJ a m - (intOf s5).toNat)
 case atStart=>exact ⟨0,0,O_,O_,rfl,rfl,rfl,by rw [C.out,Nat.zero_add],l.out,i.out⟩
 case round=>
  clear o g l i;obtain ⟨k,fr,P,Q,rfl,rfl,rfl,d,s,x⟩:=hrel;have o:=H_ s;have g:=H_ x;obtain ⟨x0,U,V,W⟩:=iH s;clear s x
  cases hnx:(aE a fr m).2 with
  | false=>
   have E:=H_ (show k=fJ a m by have:=xT hnx;omega);clear hnx d;go_wp2;go_ret;exact ⟨by rw [<-E.out];rfl,g⟩
  | true=>
   obtain ⟨G,H,e,p,u⟩:=pJ F.out hnx;obtain ⟨I,J⟩:=D.out e p;rw [u] at I J;have q:=H_ (show k+1+gM a ((aE a fr m).1+1) m=fJ a m by omega);have M:=r.out;have L:k+1<=fJ a m:=O_
   generalize (aE a fr m).1=N at *;generalize fJ a m=O at *;clear hnx d G H p u
   go_wp2_with (go_at_call 147;(with_reducible refine CM (f _ _ g.out) ?_);rintro e w1 ⟨rfl,b⟩)
   go_roundw
   case rel=>exact ⟨k+1,N+1,O_,O_,by go_num,rfl,rfl,q.out,i_ o.out b,d_ g.out b⟩
   case measure=>exact bH
end
section
def oL (l:List En):Cn:=fun i=>kR l (i:Int)
def oI (l:List En):Prop:=∀e ∈ l,0<=e.1/\e.1<256/\e.2≠(0,0)
def lQ (at_ p:Nat) (l:List En):List En:=l.filter (fun e=>decide ((at_:Int)<=e.1)&&decide (e.1 - (at_:Int)<(p:Int)))
theorem oI.inR (h:oI l) (a p:Nat):oI (lQ a p l):=fun e he=>h e (List.mem_filter.1 he).1
theorem cd_ {a p:Nat} (h1:(a:Int)<=i) (h2:i - (a:Int)<(p:Int)):kR (lQ a p l) i=kR l i:=by
 unfold kR lQ;rw [List.find?_filter]
 congr 2
 funext e
 by_cases he:e.1=i
 ·subst he;simp [h1,h2]
 ·have:(e.1 == i)=false:=beq_eq_false_iff_ne.2 he;rw [this];simp
theorem oQ (h:∀e ∈ l,e.1≠i):kR l i=(0,0):=by
 unfold kR;rw [List.find?_eq_none.2 fun x hx=>by simpa using h x hx]
theorem eK_ (hg:oI l) (h:∃e ∈ l,e.1=i):kR l i≠(0,0):=by
 obtain ⟨e,a,b⟩:=h;unfold kR
 cases hf:l.find? (fun e=>e.1 == i) with
 | none=>exact absurd (List.find?_eq_none.1 hf e a) (by simp [b])
 | some x=>exact (hg x (List.mem_of_find?_eq_some hf)).2.2
theorem b8_ (h:lQ a p l=[]):bP p (sh (oL l) a)=true:=aU.2 fun j hj=>by
 show kR l ((a+j:Nat):Int)=(0,0)
 refine oQ fun e he hi=>?_;have:e ∈ lQ a p l:=List.mem_filter.2 ⟨he,by rw [hi];simp;omega⟩;rw [h] at this
 cases this
theorem eA_ (hg:oI l) (h:lQ a p l≠[]):bP p (sh (oL l) a)=false:=by
 obtain ⟨e,b⟩:=List.exists_mem_of_ne_nil _ h;obtain ⟨h1,h2⟩:=List.mem_filter.1 b;simp only[Bool.and_eq_true,decide_eq_true_eq] at h2;obtain ⟨c,d,f⟩:=hg e h1;refine eG.2 ⟨(e.1 - (a:Int)).toNat,O_,?_⟩
 show kR l ((a+(e.1 - (a:Int)).toNat:Nat):Int)≠(0,0)
 rw [show ((a+(e.1 - (a:Int)).toNat:Nat):Int)=e.1 by omega];exact eK_ hg ⟨e,h1,rfl⟩
theorem ez_ {r:List En} (h:lQ a 1 l=e :: r):sh (oL l) a 0=e.2:=by
 have b:e ∈ lQ a 1 l:=by rw [h];simp
 obtain ⟨h1,h2⟩:=List.mem_filter.1 b;simp only[Bool.and_eq_true,decide_eq_true_eq] at h2;have c:e.1=(a:Int):=O_
 show kR l ((a+0:Nat):Int)=e.2
 rw [Nat.add_zero,<-cd_ (a:=a) (p:=1) O_ O_,h];unfold kR;rw [List.find?_cons,show (e.1 == (a:Int))=true from beq_iff_eq.2 c]
theorem gq_ {q:Nat} (hp:q+4 ^ h<=p):f_ h (sh (oL (lQ a p l)) (a+q))=f_ h (sh (oL l) (a+q)):=lZ h fun j hj=>by
 show kR (lQ a p l) ((a+q+j:Nat):Int)=kR l ((a+q+j:Nat):Int)
 exact cd_ O_ O_
theorem al_ {a p k:Nat} (h:l[k]?=some e):lQ a p (l.take (k+1))=lQ a p (l.take k) ++ if (decide ((a:Int)<=e.1)&&decide (e.1 - (a:Int)<(p:Int))) then [e] else []:=by
 unfold lQ;rw [List.take_add_one,h,Option.toList_some,List.filter_append,List.filter_cons,List.filter_nil]
theorem sR (l:List En) (a p:Nat):(lQ a p l).length<=l.length:=List.length_filter_le _ _
theorem pP {sz:Nat} {xs:List Value} (h:w.ownsRow B t sz v n xs) (m:Nat):(w.drewN m).ownsRow B t sz v n xs:=h
theorem pL {x:Int} (h:w.ownsRow B t 3 v (l.length+1) (oN l ++ [I_ i,I_ x,I_ m])):w.ownsRow B t 3 v (l ++ [(i,x,m)]).length (oN (l ++ [(i,x,m)])):=by
 rw [b1_]
 simpa [oN] using h
theorem iC_:∀(h:Nat) (l:List En) (v:Value) (at_:Nat) (S Sv:Nat->Prop) (w:World),h<=4->oI l->l.length<=1000->at_+4 ^ h<=256->EA w Sv v l->(∀b,w.heap.size<=b->S b)->
  C_ 219 #[v,I_ h,I_ at_] w (zH (f_ h (sh (oL l) at_)) S w):=by
 intro h
 induction h with
 | zero=>
  intro l v a S Sv w hh hg bj bq L hS;obtain ⟨A,cap,rfl,be,ar,_⟩:=id L;have HE:=H_ (fun w' (hb:q_ w w')=>L.step hb);obtain ⟨i0,hi,ay,az,b0⟩:=info_parts kY;obtain ⟨b,hb⟩:=aZ w.heap.size;obtain ⟨y,HG,ak⟩:=eT hb hg hS;clear L hb hg hS;unfold maxLen at ar;have a2:=fun w=>gQ 0 w O_;generalize hP:4 ^ 0=P at *;have HP:=H_ hP;clear hP;go_enter func219,ntmps219;go_wp2
  go_loopw [7,8] (fun s7 s8 wx=>∃k:Nat,k<=l.length/\s8 = I_ k/\wx.ownsRow (b+1) 160 3 s7 (lQ a P (l.take k)).length (oN (lQ a P (l.take k)))/\aW wx b #[S_ none 0 0,I_ 0,I_ 0] 56/\q_ w wx) (fun _ s8 _=>l.length - (intOf s8).toNat)
  case atStart=>exact ⟨0,O_,rfl,World.ownsRow_nil _ _ _ _,by rw [y.out];exact g_ _ _,b_ B_ _⟩
  case round=>
   obtain ⟨k,hk,rfl,f,hX,V⟩:=hrel;obtain ⟨n,M,J⟩:=eT f hX V;clear f hX V
   by_cases E:k<l.length
   ·obtain ⟨bb,o,cap',d,s,c,e0,_,_,a6,he,c0,c1,c2⟩:=(HE.out _ J.out).at_ E;injection e0 with e0 _ e2
    subst e0;obtain ⟨g1,g2,g3⟩:=HG.out _ (fF he);simp only at g1 g2;have HT:=H_ (al_ (a:=a) (p:=P) he);have aw:=sR (l.take k) a P;rw [List.length_take,Nat.min_eq_left hk] at aw;have k0:(0:Int)<=(k:Int):=O_
    have k1:(k:Int)<(l.length:Int):=O_
    have bv:=p_ M;have Y:=J.size;have w1:=fA (x:=d - (a:Int)) O_;clear he e2 g3
    go_upto_region 5 with fail
    by_cases q1:(a:Int)<=d
    ·have a3:decide ((a:Int)<=d)=true:=dT q1;go_quiet ((go_at_call 205;exact Calls.quiet_of_eq (a2 _)));have N:=H_ (show (wr.drewN nq).heap[b]?=_ from M);have R:=H_ (below_drewN J nq);have j:=H_ (pP n nq);have bd:bb<(wr.drewN nq).heap.size:=a6;have c0:(wr.drewN nq).cell? ⟨bb,o+k*3,none⟩=_:=c0;have c1:(wr.drewN nq).cell? ⟨bb,o+k*3+1,none⟩=_:=c1;have c2:(wr.drewN nq).cell? ⟨bb,o+k*3+2,none⟩=_:=c2;clear M J n w1;generalize wr.drewN nq=W at *
     by_cases q2:d - (a:Int)<(P:Int)
     ·have Q:=H_ (show (decide ((a:Int)<=d)&&decide (d - (a:Int)<(P:Int)))=true by rw [a3,dT q2];rfl);generalize lQ a P (l.take k)=acc at *
      go_wp2_with (at_builtin;(refine wpList_append_lies _ rfl (.tmp 37) (.tmp 42) 157 rfl (b+1) 160 i0 _ 3 24 underlying157 hi ay az b0 rfl O_ _ acc.length (oN acc) rfl (dA j.out (b_ B_ _)) ⟨_,0,none⟩ 1 1 [I_ d,I_ s,I_ c] rfl rfl (World.news_of_block (l_ _ _ _ (by first | rfl | simp))) (by simp [Value.oneCell']) O_ (by unfold maxLen;omega) O_ (by have:=p_ N.out;simp;omega) _ rfl ?_);intro gg dU w4 G D a9 ah)
      go_roundw
      case rel=>
       refine ⟨k+1,O_,by go_num,by rw [HT.out,Q.out];exact pL G,(D.block b (by have:=p_ N;simp;omega) (fun e=>by have:=(j.lt b e.symm).1;omega)).trans (m_ N.out _),(b_ R.out _).grown D (b_ R.out _).size (fun z H=>by have:=(j.lt z H).1;have:=y.out;omega)⟩
      case measure=>exact bH
     ·have Q:=H_ (show (decide ((a:Int)<=d)&&decide (d - (a:Int)<(P:Int)))=false by rw [dF q2];simp);go_wp2;go_roundw
      case rel=>exact ⟨k+1,O_,by go_num,by rw [HT.out,Q.out];simpa using j.out,N.out,R.out⟩
      case measure=>exact bH
    ·have a3:decide ((a:Int)<=d)=false:=dF q1;go_quiet ((go_at_call 205;exact Calls.quiet_of_eq (a2 _)));go_wp2;go_roundw
     case rel=>exact ⟨k+1,O_,by go_num,by rw [HT.out,a3];simpa using pP n.out nq,M.out,below_drewN J.out _⟩
     case measure=>exact bH
   ·obtain rfl:k=l.length:=O_
    have f:=n.out;rw [List.take_length] at f;have j:=H_ f;have U:=EA.of_own (S:=fun z=>z≠b/\z<wr.heap.size) f (fun z H=>by have:=f.lt z H;omega);have am:=U;obtain ⟨A2,F,rfl,br,ax,_⟩:=am;have ab:=H_ U;have Y:=sR l a P;unfold maxLen at ax;clear f n U
    by_cases m:lQ a P l=[]
    ·have HR:=H_ (show f_ 0 (sh (oL l) a) = .nil from dL (by rw [HP.out];exact b8_ m));rw [m];have I:=H_ (show aW wr (w) #[S_ none 0 0,I_ 0,I_ 0] 56 from y.out ▸ M);clear m Y
     go_wp2_with (refine cV rfl 56 (.tmp 6) (.tmp 47) rfl rfl w #[S_ none 0 0,I_ 0,I_ 0] rfl rfl 56 _ (I) V_ rfl (aN) ?_)
     show bodyPost prog f219 _ _ _ _
     refine bodyPost_ret (cZ rfl rfl (setRow_heap _ _ _ _ _ _ I)) rfl ?_;rw [HR.out];exact ⟨none,0,rfl,Nat.zero_le _,.nil _,j_ J.out O_ _⟩
    ·have HN:=H_ (eA_ HG m);have I:=H_ (show aW wr (w) #[S_ none 0 0,I_ 0,I_ 0] 56 from y.out ▸ M);obtain ⟨bb,o,cap',d,s,c,e0,_,_,a6,he,c0,c1,c2⟩:=ab.at_ (i:=0) (List.length_pos_iff.2 m);injection e0 with e0 _ e2
     subst e0;have HR:=H_ (show f_ 0 (sh (oL l) a) = .mk [] s c by
      cases hin:lQ a P l with
      | nil=>exact absurd hin m
      | cons e r=>
       rw [hin] at he;simp at he;have hh:=ez_ (show lQ a 1 l=e :: r by rw [show 1=P from HP.out];exact hin);rw [he] at hh
       show T.mk [] _ _=_
       rw [hh])
     have av:0<(lQ a P l).length:=List.length_pos_iff.2 m;have bu:(((lQ a P l).length:Int) == 0)=false:=beq_eq_false_iff_ne.2 O_;rw [Nat.zero_mul,Nat.add_zero] at c0 c1 c2;have u0:(0:Int)<((lQ a P l).length:Int):=O_
     have lX:=p_ I;clear he e2 m Y HN;generalize (lQ a P l).length=nn at *
     go_upto_region 10 with fail
     obtain ⟨W,bp⟩:=aZ wr;subst bp;refine T_ 9 87 [SP.eq (S_ (some ⟨bb,o,none⟩) nn F),SP.eq (.pointer (some ⟨bb,o,none⟩)),SP.eq (.pointer (some ⟨bb,o+1,none⟩)),SP.eq (I_ s),SP.eq (S_ (some ⟨bb,o,none⟩) nn F),SP.eq (.pointer (some ⟨bb,o,none⟩)),SP.eq (.pointer (some ⟨bb,o+2,none⟩)),SP.eq (I_ c),SP.eq (lG none 0 0 s c)] s_ s_ rfl ?_;simp only[vK];refine qC fun v0=>qC fun v1=>qC fun v2=>?_;simp only[ly];refine e_ (fun x hC hd K hK=>?_) (fun v3=>?_)
     ·obtain rfl:v2=_:=hd 2 s_;have ap:=(hC.cell (p:=⟨bb,_,none⟩) a6).trans c1;go_simp;exact hK _ _ hC B_ rfl
     simp only[ly];refine qC fun v4=>qC fun v5=>qC fun v6=>?_;simp only[ly];refine e_ (fun x hC hd K hK=>?_) (fun v7=>?_)
     ·obtain rfl:v6=_:=hd 6 s_;have ap:=(hC.cell (p:=⟨bb,_,none⟩) a6).trans c2;go_simp;exact hK _ _ hC B_ rfl
     simp only[ly];refine qC fun v8=>?_;simp only[ly];refine aA ?_;intro x hC hG;obtain rfl:v8=_:=hG 8 O_;obtain ⟨a8,ad⟩:=gZ I J hC;clear hG hC c0 c1 c2
     go_wp2_with (refine cV rfl 56 (.tmp 6) (.tmp 58) rfl rfl w #[S_ none 0 0,I_ s,I_ c] rfl rfl 56 _ (a8) V_ rfl (aN) ?_)
     show bodyPost prog f219 _ _ _ _
     refine bodyPost_ret (cZ rfl rfl (setRow_heap _ _ _ _ _ _ a8)) rfl ?_;rw [HR.out];exact ⟨none,0,rfl,Nat.zero_le _,.nil _,j_ ad.out O_ _⟩
 | succ h ih=>
  intro l v a S Sv w hh hg bj bq L hS;obtain ⟨A,cap,rfl,be,ar,_⟩:=id L;have HE:=H_ (fun w' (hb:q_ w w')=>L.step hb);obtain ⟨i0,hi,ay,az,b0⟩:=info_parts kY;obtain ⟨b,hb⟩:=aZ w.heap.size;obtain ⟨y,HG,ak⟩:=eT hb hg hS;clear L hb hg hS;unfold maxLen at ar;have a2:=fun w=>gQ (h+1) w O_;generalize hP:4 ^ (h+1)=P at *;have HP:=H_ hP;clear hP;rw [show ((h+1:Nat):Int)=(h:Int)+1 by omega] at a2 ⊢;have H:((h:Int)+1 == 0)=false:=beq_eq_false_iff_ne.2 O_;go_enter func219,ntmps219;go_wp2
  go_loopw [7,8] (fun s7 s8 wx=>∃k:Nat,k<=l.length/\s8 = I_ k/\wx.ownsRow (b+1) 160 3 s7 (lQ a P (l.take k)).length (oN (lQ a P (l.take k)))/\aW wx b #[S_ none 0 0,I_ 0,I_ 0] 56/\q_ w wx) (fun _ s8 _=>l.length - (intOf s8).toNat)
  case atStart=>exact ⟨0,O_,rfl,World.ownsRow_nil _ _ _ _,by rw [y.out];exact g_ _ _,b_ B_ _⟩
  case round=>
   obtain ⟨k,hk,rfl,f,hX,V⟩:=hrel;obtain ⟨n,M,J⟩:=eT f hX V;clear f hX V
   by_cases E:k<l.length
   ·obtain ⟨bb,o,cap',d,s,c,e0,_,_,a6,he,c0,c1,c2⟩:=(HE.out _ J.out).at_ E;injection e0 with e0 _ e2
    subst e0;obtain ⟨g1,g2,g3⟩:=HG.out _ (fF he);simp only at g1 g2;have HT:=H_ (al_ (a:=a) (p:=P) he);have aw:=sR (l.take k) a P;rw [List.length_take,Nat.min_eq_left hk] at aw;have k0:(0:Int)<=(k:Int):=O_
    have k1:(k:Int)<(l.length:Int):=O_
    have bv:=p_ M;have Y:=J.size;have w1:=fA (x:=d - (a:Int)) O_;clear he e2 g3
    go_upto_region 5 with fail
    by_cases q1:(a:Int)<=d
    ·have a3:decide ((a:Int)<=d)=true:=dT q1;go_quiet ((go_at_call 205;exact Calls.quiet_of_eq (a2 _)));have N:=H_ (show (wr.drewN nq).heap[b]?=_ from M);have R:=H_ (below_drewN J nq);have j:=H_ (pP n nq);have bd:bb<(wr.drewN nq).heap.size:=a6;have c0:(wr.drewN nq).cell? ⟨bb,o+k*3,none⟩=_:=c0;have c1:(wr.drewN nq).cell? ⟨bb,o+k*3+1,none⟩=_:=c1;have c2:(wr.drewN nq).cell? ⟨bb,o+k*3+2,none⟩=_:=c2;clear M J n w1;generalize wr.drewN nq=W at *
     by_cases q2:d - (a:Int)<(P:Int)
     ·have Q:=H_ (show (decide ((a:Int)<=d)&&decide (d - (a:Int)<(P:Int)))=true by rw [a3,dT q2];rfl);generalize lQ a P (l.take k)=acc at *
      go_wp2_with (at_builtin;(refine wpList_append_lies _ rfl (.tmp 37) (.tmp 42) 157 rfl (b+1) 160 i0 _ 3 24 underlying157 hi ay az b0 rfl O_ _ acc.length (oN acc) rfl (dA j.out (b_ B_ _)) ⟨_,0,none⟩ 1 1 [I_ d,I_ s,I_ c] rfl rfl (World.news_of_block (l_ _ _ _ (by first | rfl | simp))) (by simp [Value.oneCell']) O_ (by unfold maxLen;omega) O_ (by have:=p_ N.out;simp;omega) _ rfl ?_);intro gg dU w4 G D a9 ah)
      go_roundw
      case rel=>
       refine ⟨k+1,O_,by go_num,by rw [HT.out,Q.out];exact pL G,(D.block b (by have:=p_ N;simp;omega) (fun e=>by have:=(j.lt b e.symm).1;omega)).trans (m_ N.out _),(b_ R.out _).grown D (b_ R.out _).size (fun z H=>by have:=(j.lt z H).1;have:=y.out;omega)⟩
      case measure=>exact bH
     ·have Q:=H_ (show (decide ((a:Int)<=d)&&decide (d - (a:Int)<(P:Int)))=false by rw [dF q2];simp);go_wp2;go_roundw
      case rel=>exact ⟨k+1,O_,by go_num,by rw [HT.out,Q.out];simpa using j.out,N.out,R.out⟩
      case measure=>exact bH
    ·have a3:decide ((a:Int)<=d)=false:=dF q1;go_quiet ((go_at_call 205;exact Calls.quiet_of_eq (a2 _)));go_wp2;go_roundw
     case rel=>exact ⟨k+1,O_,by go_num,by rw [HT.out,a3];simpa using pP n.out nq,M.out,below_drewN J.out _⟩
     case measure=>exact bH
   ·obtain rfl:k=l.length:=O_
    have f:=n.out;rw [List.take_length] at f;have j:=H_ f;have U:=EA.of_own (S:=fun z=>z≠b/\z<wr.heap.size) f (fun z H=>by have:=f.lt z H;omega);have am:=U;obtain ⟨A2,F,rfl,br,ax,_⟩:=am;have ab:=H_ U;have Y:=sR l a P;unfold maxLen at ax;clear f n U
    by_cases m:lQ a P l=[]
    ·have HR:=H_ (show f_ (h+1) (sh (oL l) a) = .nil from dL (by rw [HP.out];exact b8_ m));rw [m];have I:=H_ (show aW wr (w) #[S_ none 0 0,I_ 0,I_ 0] 56 from y.out ▸ M);clear m Y
     go_wp2_with (refine cV rfl 56 (.tmp 6) (.tmp 47) rfl rfl w #[S_ none 0 0,I_ 0,I_ 0] rfl rfl 56 _ (I) V_ rfl (aN) ?_)
     show bodyPost prog f219 _ _ _ _
     refine bodyPost_ret (cZ rfl rfl (setRow_heap _ _ _ _ _ _ I)) rfl ?_;rw [HR.out];exact ⟨none,0,rfl,Nat.zero_le _,.nil _,j_ J.out O_ _⟩
    ·have HN:=H_ (eA_ HG m);have I:=H_ (show aW wr (w) #[S_ none 0 0,I_ 0,I_ 0] 56 from y.out ▸ M);have av:0<(lQ a P l).length:=List.length_pos_iff.2 m;have bu:(((lQ a P l).length:Int) == 0)=false:=beq_eq_false_iff_ne.2 O_;have c7:P=4*4 ^ h:=by rw [<-HP.out,Nat.pow_succ];omega
     have cb:4 ^ h<=64:=show 4 ^ h<=4 ^ 3 from Nat.pow_le_pow_right O_ O_;have b4:=H_ (show f_ (h+1) (sh (oL l) a) = .mk (N_ h (sh (oL l) a)) 0 (kS (N_ h (sh (oL l) a))) by rw [bE,HP.out,HN.out];rfl);have bi:=fun (i:Nat) (hi:i<4) S' Sx w' (L:EA w' Sx (S_ A2 (lQ a P l).length F) (lQ a P l)) (an:∀z,w'.heap.size<=z->S' z)=>ih (lQ a P l) (S_ A2 (lQ a P l).length F) (a+i*4 ^ h) S' Sx w' O_ (HG.inR a P) O_ (by
      have:=Nat.mul_le_mul_right (4 ^ h) (show i+1<=4 by omega);rw [Nat.add_mul,Nat.one_mul] at this;omega) L an
     have b8:=H_ (fun (i:Nat) (hi:i<4)=>show f_ h (sh (oL (lQ a P l)) (a+i*4 ^ h))=f_ h (sh (sh (oL l) a) (i*4 ^ h)) by
      rw [hN_];refine gq_ ?_;have:=Nat.mul_le_mul_right (4 ^ h) (show i+1<=4 by omega);rw [Nat.add_mul,Nat.one_mul] at this;omega)
     have bl:=fun w=>gQ h w O_;have HQ:=H_ (fun (i:Nat) (hi:i<4)=>show i*4 ^ h+4 ^ h<=4*4 ^ h by
      have:=Nat.mul_le_mul_right (4 ^ h) (show i+1<=4 by omega);rw [Nat.add_mul,Nat.one_mul] at this;exact this)
     obtain ⟨j0,hj,bx,bz,c3⟩:=info_parts rD;have al:=H_ M;have cc:=J.size;clear m Y HN;generalize lQ a P l=L' at *;generalize sh (oL l) a=C at *;clear a2 ih HG HE HP I
     go_upto_region 11 with fail
     go_cut [6,9] (fun s6 s9 wx=>∃g,s6 = P_ b/\s9 = P_ g/\b<g/\aW wx b #[S_ none 0 0,I_ 0,I_ 0] 56/\aW wx g #[S_ none 0 0,I_ 0,I_ 0] 56/\EA wx (fun z=>z≠b/\z<g) (S_ A2 L'.length F) L'/\q_ w wx)
     case first=>
      go_wp2;go_meet
      case rel=>exact ⟨_,by rw [y.out],rfl,p_ al.out,m_ al.out _,heap_alloc_new _ _,ab.step (b_ B_ _),b_ J.out _⟩
     case rest=>
      obtain ⟨g,rfl,rfl,c8,hX,hN,L,V⟩:=hcut;obtain ⟨a8,b6,b3,ad⟩:=sP hX hN L V;have bk:¬b=g:=O_
      clear hX hN L V al ab M J;go_wp2
      go_loopw [10] (fun s10 wx=>∃(i:Nat) (u:Value) (xs:List Value),i<=4/\s10 = I_ i/\aW wx b #[S_ none 0 0,I_ 0,I_ 0] 56/\aW wx g #[u,I_ 0,I_ (kS ((N_ h C).take i))] 56/\EA wx (fun z=>z≠b/\z<g) (S_ A2 L'.length F) L'/\NO wx (g+1) (fun z=>S z/\z≠b/\z≠g) u ((N_ h C).take i) xs/\q_ w wx) (fun s10 _=>4 - (intOf s10).toNat)
      case atStart=>exact ⟨0,_,[],O_,rfl,a8.out,b6.out,b3.out,NO.nil _ _ _,ad.out⟩
      case round=>
       clear a8 b6 b3 ad;obtain ⟨i,u,xs,bf,rfl,hX,hN,L,O,V⟩:=hrel;obtain ⟨M,HN,HE,aj,J⟩:=h5_ hX hN L O V;have lg:=p_ hN;have ce:=V.size;clear hX hN L O V
       by_cases E:i<4
       ·have au:=dN (h:=h) (c:=C) E;have b7:=H_ (pO au);have b9:=H_ au;have f:=aj.out.1;rw [List.length_take,Q_,Nat.min_eq_left bf] at f;have n:=H_ f;have hq:=HQ i E;have bo:=H_ (fun z (H:wr.heap.size<=z)=>show (S z/\z≠b/\z≠g)/\u.ownBlock≠some z from ⟨⟨ak.out z O_,O_,O_⟩,fun e=>by have:=(f.lt z e).2;omega⟩);have af:=fun w' L an=>bi i E (fun z=>(S z/\z≠b/\z≠g)/\u.ownBlock≠some z) (fun z=>z≠b/\z<g) w' L an;rw [b8.out i E] at af;obtain ⟨q,ag⟩:∃q,i*4 ^ h=q:=⟨_,rfl⟩;have c4:i64.wrap ((i:Int)*((4 ^ h:Nat):Int))=(q:Int):=by rw [<-Int.natCast_mul,ag];exact fA O_
        have bw:(i:Int)*((4 ^ h:Nat):Int)=(q:Int):=by rw [<-Int.natCast_mul,ag]
        rw [ag] at af hq b7 b9;rw [show ((a+q:Nat):Int)=(a:Int)+(q:Int) by omega] at af;have c9:i64.wrap ((h:Int)+1 - 1)=(h:Int):=by rw [show (h:Int)+1 - 1=(h:Int) by omega];exact fA O_
        have ca:(h:Int)+1 - 1=(h:Int):=O_
        have aq:i64.wrap ((a:Int)+(q:Int))=(a:Int)+(q:Int):=fA O_;have bn:=H_ (eA h (sh C q));have a0:(0:Int)<=(a:Int)+(q:Int):=O_
        have a1:(a:Int)+(q:Int)<=256:=O_
        clear au f ag hq;generalize 4 ^ h=p at *;generalize f_ h (sh C q)=k at *;obtain ⟨x0,x1,x2⟩:=cL HN.out
        go_upto_region 16 with (first
         | (go_at_call 205;(with_reducible refine CM (bl _) ?_);rintro e w1 ⟨rfl,rfl⟩)
         | (go_at_call 219;(with_reducible refine CM (af _ HE.out bo.out) ?_);rintro e w2 ⟨A3,t,rfl,bs,bg,X⟩;obtain ⟨ae,a5⟩:=kk_ M HN X;have ac:=H_ (HE.step X);have a4:=H_ (aj.step X);have a7:=lU J X;have B:=H_ (dA n X);have b5:=H_ bg;have b2:=H_ bs;have cd:=X.size;have cf:=p_ a5;clear bg x0 x1 x2 X;obtain ⟨x0,x1,x2⟩:=cL a5.out))
        go_cut [11] (fun s11 wx=>∃(Z:Nat) (A3:Option Addr) (t:Nat) (u':Value) (b1:List Value),s11 = P_ Z/\Z≠g/\aW wx Z #[S_ A3 k.kids.length t,I_ k.val,I_ k.marks] 56/\aW wx b #[S_ none 0 0,I_ 0,I_ 0] 56/\aW wx g #[u',I_ 0,I_ (kS ((N_ h C).take i))] 56/\EA wx (fun z=>z≠b/\z<g) (S_ A2 L'.length F) L'/\NO wx (g+1) (fun z=>S z/\z≠b/\z≠g) u' ((N_ h C).take (i+1)) b1/\q_ w wx)
        case first=>
         go_wp2_with ((at_builtin;(refine wpList_append_lies _ rfl (.tmp 75) (.tmp 77) 54 rfl (g+1) 56 j0 _ 3 40 underlying54 hj bx bz c3 rfl O_ u i xs rfl (dA B.out (b_ (b_ B_ _) _)) ⟨_,0,none⟩ 1 1 [S_ A3 k.kids.length t,I_ k.val,I_ k.marks] rfl rfl (World.news_of_block (l_ _ _ _ (by first | rfl | simp))) (by simp [Value.oneCell']) O_ (by unfold maxLen;omega) O_ (by simp;omega) _ rfl ?_);intro gg dU w4 G D a9 ah;have ai:=H_ ((D.block g (by simp;omega) (fun e=>by have:=(B.lt g e.symm).1;omega)).trans (m_ (m_ a5.out _) _));have f0:=t_ ai 0;have y0:=xV ai))
         go_meet
         case rel=>
          have ba:=((a4.alloc (.cells #[S_ A3 k.kids.length t,I_ k.val,I_ k.marks] 56)).alloc (.cells #[S_ A3 k.kids.length t,I_ k.val,I_ k.marks] 56)).snoc k A3 t bn.out b2.out ((b5.alloc _).alloc _) (by rw [List.length_take,Q_,Nat.min_eq_left bf];exact G) D a9;have bc:=ba.set ⟨g,0,none⟩ (S_ (some ⟨gg,0,none⟩) (i+1) dU) z_ z_;refine ⟨w2,A3,t,S_ (some ⟨gg,0,none⟩) (i+1) dU,xs ++ [S_ A3 k.kids.length t,I_ k.val,I_ k.marks],rfl,O_,?_,?_,?_,?_,?_,?_⟩
          ·exact aM ((D.block (w2) (by simp;omega) (fun e=>by have:=(B.lt (w2) e.symm).2;omega)).trans (m_ (heap_alloc_new _ _) _)) _ _ (by simp only;omega)
          ·exact aM ((D.block b (by simp;omega) (fun e=>by have:=(B.lt b e.symm).1;omega)).trans (m_ (m_ ae.out _) _)) _ _ (by simpa using bk)
          ·simpa using R_ (i:=0) ai.out (S_ (some ⟨gg,0,none⟩) (i+1) dU)
          ·refine ((ac.step (b_ (b_ B_ (.cells #[S_ A3 k.kids.length t,I_ k.val,I_ k.marks] 56)) (.cells #[S_ A3 k.kids.length t,I_ k.val,I_ k.marks] 56))).kept D.size (fun z H E=>D.block z E (fun e=>by have:=(B.lt z e.symm).1;omega))).kept (by simp [World.setCell]) (fun z H E=>jO _ _ _ z (by simp only;omega))
          ·rw [List.take_add_one,b9.out,Option.toList_some];exact bc
          ·exact ((b_ (b_ a7 _) _).grown D (b_ (b_ a7 _) _).size (fun z H=>by have:=(B.lt z H).1;have:=y.out;omega)).setCell (by simp only;have:=y.out;omega) _
        case rest=>
         clear ae a5 ac a4 a7 B b5 b2 x0 x1 x2;obtain ⟨Z,A4,dU,u',b1,rfl,ao,hZ,hX,hN,L,O,V⟩:=hcut;obtain ⟨ae,a5,ac,a4,a7⟩:=h5_ hX hN L O V;have z2:=a_ hZ 2;have f2:=t_ hN 2;have c5:¬Z=g:=ao;have c6:¬g=Z:=fun e=>ao e.symm;obtain ⟨x0,x1,x2⟩:=cL hN;simp only[zl] at z2;clear hX hN L O V hZ ao;go_wp2;go_roundw
         case rel=>
          refine ⟨i+1,u',b1,O_,by go_num,aM ae.out _ _ (by simpa using bk),?_,?_,a4.out.set _ _ z_ z_,a7.out.setCell (by simp only;have:=y.out;omega) _⟩
          ·rw [b7.out]
           simpa using R_ (i:=2) a5.out (I_ (uP (kS ((N_ h C).take i)) k.marks))
          ·exact ac.kept (by simp [World.setCell]) (fun z H E=>jO _ _ _ z (by simp only;omega))
         case measure=>exact bH
       ·obtain rfl:i=4:=O_
        have O:=aj.out;rw [show (N_ h C).take 4=N_ h C from tL_ (by rw [Q_];omega)] at O HN;obtain ⟨A4,dU,rfl,aa,bh⟩:=O.nk (S':=fun z=>S z/\z≠b) (fun z H=>⟨H.1,H.2.1⟩) (fun z H=>⟨ak.out z (by have:=y.out;omega),O_⟩);rw [Q_] at aa;rw [Q_] at HN;have bm:=H_ bh;clear O bh;obtain ⟨x0,x1,x2⟩:=cL HN.out
        go_wp2_with (refine cV rfl 56 (.tmp 6) (.tmp 86) rfl rfl (b) #[S_ A4 4 dU,I_ 0,I_ (kS (N_ h C))] rfl rfl 56 _ (M) V_ rfl (aN) ?_)
        show bodyPost prog f219 _ _ _ _
        refine bodyPost_ret (cZ rfl rfl (setRow_heap _ _ _ _ _ _ M)) rfl ?_;rw [b4.out];exact ⟨A4,dU,by rw [show (T.mk (N_ h C) 0 (kS (N_ h C))).kids.length=4 from Q_ _ _];rfl,by rw [show (T.mk (N_ h C) 0 (kS (N_ h C))).kids.length=4 from Q_ _ _];exact aa,(bm.kept (by simp [World.setRow]) (fun z H E=>setRow_other _ _ _ _ H.2)).weak fun z _ H=>H.1,j_ J.out (by rw [y.out];omega) _⟩
end
section
theorem gz_ {t:Nat} (hg:oI l) (h1:∀e ∈ l,e.1<=(t:Int)) (h2:t=0\/∃e ∈ l,e.1=(t:Int)) (ht:t<256):X_ (hf t) (oL l):=by
 have a:hf t<=4:=by unfold hf;(repeat' split) <;> omega
 have c:t<4 ^ hf t:=(ai_ ht a).1 (aQ _);refine ⟨a,fun i d=>oQ fun e b=>?_,?_⟩
 ·have:=h1 e b;omega
 ·rcases h2 with rfl | h2
  ·exact .inl rfl
  ·by_cases h0:hf t=0
   ·exact .inl h0
   ·refine .inr ⟨t,?_,eK_ hg h2⟩;apply Classical.byContradiction;intro hc;have:=(ai_ (i:=t) (h:=hf t - 1) ht O_).2 O_;omega
theorem yD (S:Nat->Prop){Sv:Nat->Prop} (hg:oI l) (hlen:l.length<=1000) (hE:EA w Sv v l) (hS:∀b,w.heap.size<=b->S b) :
  C_ 188 #[v] w (hy_ (oL l) S w):=by
 obtain ⟨A,cap,rfl,W,M,_⟩:=id hE;have Q:=H_ (fun w' (hb:q_ w w')=>hE.step hb);have D:=H_ hg;have F:=H_ hS;have i:=H_ (g_ w (.cells #[I_ 0,S_ none 0 0,I_ 0,I_ 0] 58));have g:=H_ (b_ (aI (w) w) (.cells #[I_ 0,S_ none 0 0,I_ 0,I_ 0] 58));clear hE hg hS;unfold maxLen at M;go_enter func188,ntmps188;go_wp2
 go_loopw [3,4] (fun s3 s4 wx=>∃(k t:Nat),k<=l.length/\t<256/\s4 = I_ k/\s3 = I_ t/\(∀(j:Nat) e,j<k->l[j]?=some e->e.1<=(t:Int))/\(t=0\/∃e ∈ l,e.1=(t:Int))/\aW wx (w) #[I_ 0,S_ none 0 0,I_ 0,I_ 0] 58/\q_ w wx) (fun _ s4 _=>l.length - (intOf s4).toNat)
 case atStart=>exact ⟨0,0,O_,O_,rfl,rfl,fun j e h=>by omega,.inl rfl,i.out,g.out⟩
 case round=>
  clear i g;obtain ⟨k,t,hk,X,rfl,rfl,h1,h2,U,V⟩:=hrel;obtain ⟨B,P,i,g⟩:=sP h1 h2 U V;clear h1 h2 U V
  by_cases O:k<l.length
  ·obtain ⟨bb,o,cap',d,s,c,I,_,_,a0,r,c0,c1,c2⟩:=(Q.out _ g.out).at_ O;injection I with I _ e2
   subst I;obtain ⟨J,Z,g3⟩:=D.out _ (fF r);have C:=H_ r;simp only at J Z;have k0:(0:Int)<=(k:Int):=O_
   have k1:(k:Int)<(l.length:Int):=O_
   clear r e2 g3 c1 c2
   by_cases q:(t:Int)<d
   ·obtain ⟨f,rfl⟩:=sG J;have q2:t<f:=O_
    have q3:t<=f:=O_
    have q4:max t f=f:=O_
    have q5:max (t:Int) (f:Int)=(f:Int):=O_
    go_wp2;go_roundw
    case rel=>
     refine ⟨k+1,f,O_,O_,by go_num,rfl,fun j e y a=>?_,.inr ⟨_,fF C.out,rfl⟩,i.out,g.out⟩
     by_cases m:j=k
     ·subst m;rw [C.out] at a;injection a with a
      rw [<-a];exact Int.le_refl _
     ·have:=B.out j e O_ a;omega
    case measure=>exact bH
   ·obtain ⟨f,rfl⟩:=sG J;have q2:¬t<f:=O_
    have q3:f<=t:=O_
    have q4:max t f=t:=O_
    have q5:max (t:Int) (f:Int)=(t:Int):=O_
    go_wp2;go_roundw
    case rel=>
     refine ⟨k+1,t,O_,O_,by go_num,rfl,fun j e y a=>?_,P.out,i.out,g.out⟩
     by_cases m:j=k
     ·subst m;rw [C.out] at a;injection a with a
      rw [<-a]
      show (f:Int)<=_
      omega
     ·exact B.out j e O_ a
    case measure=>exact bH
  ·obtain rfl:k=l.length:=O_
   have n:=H_ (gz_ D (fun e r=>by
    obtain ⟨j,y⟩:=List.getElem?_of_mem r;exact B j e (bK y) y) P X)
   have R:=n.out.1;have a1:4 ^ hf t<=256:=show 4 ^ hf t<=4 ^ 4 from Nat.pow_le_pow_right O_ R;have lR:=p_ i;have lW:=g.size;have x:=fun w' (hb:q_ wr w')=>iC_ (hf t) l (S_ A l.length cap) 0 (fun z=>S z/\z≠w.heap.size) Sv w' R D.out hlen O_ (Q.out _ (d_ g.out hb)) (fun z Y=>⟨F.out z (by have:=hb.size;omega),by have:=hb.size;omega⟩);rw [qB] at x;have N:=fun w=>rT t w X;generalize hf t=H at *
   go_wp2_with (first
    | (go_at_call 203;(with_reducible refine CM (N _) ?_);rintro e w1 ⟨rfl,rfl⟩)
    | (go_at_call 219;(with_reducible refine CM (x _ B_) ?_);rintro e w2 ⟨A',cap',rfl,L,u,K⟩;obtain ⟨p,G⟩:=gZ i g K;have E:=H_ u;clear u)
    | (refine cV rfl 58 (.tmp 2) (.tmp 25) rfl rfl w #[I_ (H:Int),S_ A' (f_ H (oL l)).kids.length cap',I_ (f_ H (oL l)).val,I_ (f_ H (oL l)).marks] rfl rfl 58 _ (p) L_ rfl (aD) ?_))
   show bodyPost prog f188 _ _ _ _
   refine bodyPost_ret (vE rfl rfl (setRow_heap _ _ _ _ _ _ p)) rfl ?_;exact ⟨H,A',cap',rfl,n.out,L,(E.kept (by simp [World.setRow]) (fun z Y _=>setRow_other _ _ _ _ Y.2)).weak fun _ _ h=>h.1,j_ G.out O_ _⟩
end
end Go.Proofs.YtehfhnbpnaiogaaGreatDoor
