/-
  Lemmas and contracts for the laws of this seat, part 3; several texts joined by a program.
-/
import Derived.Test.YtehfhnbpnaiogaaGreatDoorD02
import Derived.Test.YtehfhnbpnaiogaaGreatDoorD00
import Derived.Outline
namespace Go.Proofs.YtehfhnbpnaiogaaGreatDoor
set_option linter.unusedVariables false
set_option linter.unusedSimpArgs false
set_option maxRecDepth 100000
set_option maxHeartbeats 16000000
open Go.RowKit Go.Proofs.Tryz IntKind
variable {A:Option Addr} {B H b cap g h j n:Nat} {S:Nat->Prop} {W w w' wx wy:World} {a d u v vk x y z:Value} {b' po xo:Obj} {c:Cn} {f:Nat->T} {fn:Func} {fr:Nat × Nat} {i m:Int} {p q:Tmp} {t:TypeId} {tmps:Array Value}
section
theorem tK (ks:List T) (A:Option Addr) (cap:Nat) (v m:Int) (S:Nat->Prop) (w:World) (hn:ks.length<=1000) (hcap:ks.length<=cap) (hk:NK w iF A ks) (hS:∀b,w.heap.size<=b->S b)
  (hkid:∀(i:Nat) (k:T),ks[i]?=some k->∀w',s_ w w'->∀A' cap' S',NK w' iF A' k.kids->k.kids.length<=cap'->(∀b,w'.heap.size<=b->S' b)->C_ 229 #[lF A' k.kids.length cap' k.val k.marks] w' (yP k S' w')) :
  C_ 229 #[lF A ks.length cap v m] w (yP (.mk ks v m) S w):=by
 have HK:=H_ (fun w' (r:s_ w w')=>hk.step r);have Q:=H_ hkid;have V:=H_ hS;clear hk hkid hS;obtain ⟨b,r⟩:=bL w.heap.size;have n:=H_ r;obtain ⟨i0,af,ah,ai,aj⟩:=info_parts rD;go_enter func229,ntmps229
 go_upto_region 2 with fail
 go_cut [1,2,3] (fun s1 s2 s3 wx=>s1 = P_ b/\s2 = P_ (b+1)/\s3 = S_ A ks.length cap/\bA wx b #[S_ none 0 0,I_ v,I_ m] 56/\bA wx (b+1) #[S_ none 0 0,I_ 0,I_ 0] 56/\s_ w wx)
 case first=>
  go_wp2;go_meet
  case rel=>
   rw [n.out];exact ⟨rfl,rfl,rfl,m_ (i_ _ _) _,l_ _ _ _ A_,a_ (a_ B_ _) _⟩
 case rest=>
  clear r;obtain ⟨rfl,rfl,rfl,O,N,hW⟩:=hcut;obtain ⟨M,D,y⟩:=eI O N hW;clear O N hW;go_wp2
  go_loopw [11] (fun s11 wx=>∃(i:Nat) (u:Value) (xs:List Value),i<=ks.length/\s11 = I_ i/\bA wx b #[u,I_ v,I_ m] 56/\bA wx (b+1) #[S_ none 0 0,I_ 0,I_ 0] 56/\NO wx (b+2) (fun z=>S z/\(z≠b/\z≠b+1)) u (ks.take i) xs/\s_ w wx) (fun s11 _=>ks.length - (intOf s11).toNat)
  case atStart=>exact ⟨0,_,[],O_,rfl,M.out,D.out,NO.nil _ _ _,y.out⟩
  case round=>
   clear M D y;obtain ⟨i,u,xs,hi,rfl,O,N,H,hW⟩:=hrel;obtain ⟨M,D,HN,y⟩:=rW O N H hW;have lb:=n_ O;have ar:=n_ N;have t:=H.1;rw [List.length_take,Nat.min_eq_left hi] at t;have q:=H_ t;clear O N H hW t
   by_cases a6:i<ks.length
   ·have Z:=HK _ y;obtain ⟨b',o,k,A',cap',rfl,_,am,J,ae,a5,ag,a4⟩:=Z.at_ a6;obtain ⟨c0,c1,c2⟩:=ae;have a2:=fun w' (r:s_ wr w')=>Q i k J w' (e_ y r) A' cap' (fun z=>(S z/\(z≠b/\z≠b+1))/\u.ownBlock≠some z) (a4.step r) ag (fun z j=>⟨⟨V z (by have:=y.size;have:=r.size;omega),by have:=r.size;omega,by have:=r.size;omega⟩,fun e=>by have:=(q.lt z e).2;have:=r.size;omega⟩);have ac:=H_ J;have ao:(0:Int)<=(i:Int):=O_
    have ap:(i:Int)<(ks.length:Int):=O_
    have ad:=H_ a5;clear Z J a4 a5
    go_upto_region 6 with fail
    have f:=H_ ((aP (wr) wr).alloc (bE _) (.cells #[S_ A' k.kids.length cap',I_ k.val,I_ k.marks] 56));have j:=i_ wr (.cells #[S_ A' k.kids.length cap',I_ k.val,I_ k.marks] 56);generalize wr.alloc _=W at f j ⊢;have E:=H_ (h_ M f.out);have U:=H_ (h_ D f.out);have R:=H_ (HN.step f.out);have X:=H_ (e_ y f.out);have aq:=f.out.size;have ak:b<W.heap.size:=O_
    have lz:=n_ j;have y0:=b_ j 0;have y1:=b_ j 1;have y2:=b_ j 2;have x0:=b_ E 0;simp only[zl] at x0 y0 y1 y2;clear M D HN y j;refine aD 5 24 [SP.eq (P_ b),SP.eq u,SP.eq (lF A' k.kids.length cap' k.val k.marks),SP.nt (fun z=>(S z/\(z≠b/\z≠b+1))/\u.ownBlock≠some z) k,SP.nb (fun z=>(S z/\(z≠b/\z≠b+1))/\u.ownBlock≠some z) k] q_ q_ rfl ?_;simp only[vG];refine qC fun v0=>?_;simp only[ly];refine f_ (fun x d P K G=>?_) (fun v1=>?_)
    ·obtain rfl:v0=_:=P 0 q_;have q0:=(d.cell (p:=⟨b,_,none⟩) ak).trans x0;go_simp;exact G _ _ d B_ rfl
    simp only[ly];refine f_ (fun x d P K G=>?_) (fun v2=>?_)
    ·have q0:=(d.cell (p:=⟨wr,_,none⟩) lz).trans y0;have q1:=(d.cell (p:=⟨wr,_,none⟩) lz).trans y1;have q2:=(d.cell (p:=⟨wr,_,none⟩) lz).trans y2;go_simp;exact G _ _ d B_ rfl
    simp only[ly];refine f_ (fun x d P K G=>?_) (fun v3=>?_)
    ·obtain rfl:v2=_:=P 2 q_;go_simp
     go_at_call 229
     refine (a2 x (e_ f.out d)).mono ?_;rintro e w1 ⟨C,a,rfl,s,l,a1⟩;exact G _ _ (e_ d a1) a1 ⟨C,a,rfl,s,l⟩
    simp only[ly];refine f_ (fun x d P K G=>?_) (fun v4=>?_)
    ·obtain ⟨C,a,rfl,s,l⟩:=P 3 q_;go_simp;exact G _ _ (a_ d _) (B_.alloc (bE _) _) ⟨_,C,a,rfl,heap_alloc_new _ _,s,l.alloc _⟩
    simp only[ly];refine aK ?_;intro x d hG;obtain rfl:u=v1:=(hG 1 O_).symm;obtain ⟨g,C,a,e4,h4,s,l⟩:=hG 4 O_;obtain rfl:v4=_:=e4;obtain ⟨ab,aa⟩:=kk_ E U d;have a9:=H_ (R.step d);have Y:=jC X d;have a7:=H_ l;have an:=d.size;have c:=H_ (show x.ownsRow (b+2) 56 3 u i xs from dG (dG q f.out) d);clear hG E U R X y0 y1 y2 x0 c0 c1 c2 a2 l d
    go_wp2_with (at_builtin;(refine wpList_append_lies _ rfl (.tmp 16) (.tmp 19) 54 rfl (b+2) 56 i0 _ 3 40 underlying54 af ah ai aj rfl O_ u i xs rfl c.out ⟨g,0,none⟩ 1 1 [S_ C k.kids.length a,I_ k.val,I_ k.marks] rfl rfl (World.news_of_block h4) (by simp [Value.oneCell']) O_ (by unfold maxLen;omega) O_ O_ _ rfl ?_);intro gg dS w4 L B a0 al;have F:=H_ ((B.block b O_ (fun e=>by have:=(c.lt b e.symm).1;omega)).trans ab.out);have f0:=t_ F 0;have x0:=b_ F 0;simp only[List.getElem?_toArray,List.getElem?_cons_zero] at x0)
    go_roundw
    case rel=>
     refine ⟨i+1,S_ (some ⟨gg,0,none⟩) (i+1) dS,xs ++ [S_ C k.kids.length a,I_ k.val,I_ k.marks],O_,by go_num,by simpa using W_ (i:=0) F.out _,?_,?_,?_⟩
     ·refine aQ ((B.block (b+1) O_ (fun e=>by have:=(c.lt (b+1) e.symm).1;omega)).trans aa.out) _ _ A_
     ·rw [List.take_add_one,ac.out,Option.toList_some];refine NO.set (a9.snoc k C a ad.out s a7.out (by rw [List.length_take,Nat.min_eq_left hi];exact L) B a0) _ _ A_ A_
     ·exact (Y.grown B Y.size (fun z j=>by have:=(c.lt z j).1;have:=n.out;omega)).setCell (by simp only;have:=n.out;omega) _
    case measure=>exact bV
   ·obtain rfl:i=ks.length:=O_
    have H:=HN.out;rw [List.take_length] at H;obtain ⟨A4,dS,rfl,I,a3⟩:=H.nk (S':=fun z=>S z/\(z≠b/\z≠b+1)) (fun z j=>j) (fun z j=>⟨V.out z (by have:=n.out;omega),O_⟩);have a8:=H_ a3;clear H HN q a3;obtain ⟨x0,x1,x2⟩:=cR M.out
    go_wp2_with (refine cZ rfl 56 (.tmp 2) (.tmp 23) rfl rfl (b+1) #[S_ A4 ks.length dS,I_ v,I_ m] rfl rfl 56 _ (D) aH rfl (aU) ?_)
    show bodyPost prog f229 _ _ _ _
    refine bodyPost_ret (dE rfl rfl (setRow_heap _ _ _ _ _ _ D.out)) rfl ⟨A4,dS,rfl,I,(a8.kept (by simp [World.setRow]) (fun z j a6=>setRow_other _ _ _ _ j.2.2)).weak fun z _ j=>j.1,d_ y.out (by rw [n.out];omega) _⟩
def dep:Nat->T->Prop
 | 0,t=>t.kids=[]
 | h+1,t=>t.kids.length<=1000/\∀(i:Nat) (k:T),t.kids[i]?=some k->dep h k
theorem tQ:∀(h:Nat) (c:Cn),dep h (j_ h c)
 | 0,c=>rfl
 | h+1,c=>by
  refine ⟨eF (bv_ _ _) O_,fun i k hi=>?_⟩;rw [bJ] at hi
  split at hi
  ·simp [T.nil,T.kids] at hi
  ·have hl:i<4:=by
    have:=bI hi
    simpa [T.kids,aC] using this
   rw [show (T.mk (aB h c) 0 (kR (aB h c))).kids=aB h c from rfl,dR hl] at hi;injection hi with hi
   subst hi;exact tQ h _
theorem bx_:∀(h:Nat) (t:T),dep h t->∀(A:Option Addr) (cap:Nat) (S:Nat->Prop) (w:World),t.kids.length<=cap->NK w iF A t.kids->(∀b,w.heap.size<=b->S b)->
  C_ 229 #[lF A t.kids.length cap t.val t.marks] w (yP t S w)
 | 0,.mk ks v m,hd,A,cap,S,w,hcap,hk,hS=>tK ks A cap v m S w (by have:ks=[]:=hd;rw [this];simp) hcap hk hS (fun i k hi=>by have:ks=[]:=hd;rw [this] at hi;simp at hi)
 | h+1,.mk ks v m,hd,A,cap,S,w,hcap,hk,hS=>tK ks A cap v m S w hd.1 hcap hk hS (fun i k hi w' hb A' cap' S' hk' hc' hS'=>bx_ h k (hd.2 i k hi) A' cap' S' w' hc' hk' hS')
end
section
theorem hZ_ {h i k:Nat} {c:Cn} {y:Int × Int} (hk:k<4):j_ h (sh (upd c (i % 4 ^ (h+1)) y) (k*4 ^ h))=if k=i / 4 ^ h % 4 then j_ h (upd (sh c (k*4 ^ h)) (i % 4 ^ h) y) else j_ h (sh c (k*4 ^ h)):=by
 have m:i % 4 ^ (h+1)=i / 4 ^ h % 4*4 ^ h+i % 4 ^ h:=by
  rw [Nat.mod_pow_succ,Nat.add_comm,Nat.mul_comm]
 have h0:i % 4 ^ h<4 ^ h:=Nat.mod_lt _ (Nat.pow_pos O_);have l:i / 4 ^ h % 4<4:=Nat.mod_lt _ O_;rw [m];generalize i / 4 ^ h % 4=d at l ⊢;generalize i % 4 ^ h=r at h0 ⊢;have b:∀j,j<4 ^ h->(k*4 ^ h+j=d*4 ^ h+r↔k=d/\j=r):=fun j a=>by
  constructor
  ·intro e;have h1:k=d:=by
    have f:(k*4 ^ h+j) / 4 ^ h=k:=by rw [Nat.add_comm,Nat.add_mul_div_right _ _ O_,Nat.div_eq_of_lt a,Nat.zero_add]
    have g:(d*4 ^ h+r) / 4 ^ h=d:=by rw [Nat.add_comm,Nat.add_mul_div_right _ _ O_,Nat.div_eq_of_lt h0,Nat.zero_add]
    rw [<-f,e,g]
   subst h1;exact ⟨rfl,O_⟩
  ·rintro ⟨rfl,rfl⟩
   rfl
 split
 ·next e=>
  subst e;refine lV h fun j a=>?_;simp only[sh,upd,b j a,true_and]
 ·next e=>
  refine lV h fun j a=>?_;simp only[sh,upd,b j a];rw [if_neg (fun h=>e h.1)]
def mid (h:Nat) (c c':Cn) (k:Nat) (j:Nat):T:=if j<k then j_ h (sh c' (j*4 ^ h)) else if j=k then j_ h (sh c (j*4 ^ h)) else .nil
theorem aW_ (h:Nat) (c:Cn):(List.range 4).map (fun j=>j_ h (sh c (j*4 ^ h)))=aB h c:=rfl
theorem eh_ (h:Nat) (c:Cn) (A:Option Addr) (cap:Nat):(bS (4 ^ (h+1)) c=true/\uZ A cap (aB h c)=lF none 0 0 0 0/\j_ (h+1) c = .nil)\/(bS (4 ^ (h+1)) c=false/\uZ A cap (aB h c)=lF A 4 cap 0 (kR (aB h c))/\j_ (h+1) c = .mk (aB h c) 0 (kR (aB h c))):=by
 unfold uZ;rw [lI,bJ]
 cases bS (4 ^ (h+1)) c
 ·exact .inr ⟨rfl,rfl,rfl⟩
 ·exact .inl ⟨rfl,rfl,rfl⟩
theorem zZ {c':Cn} (k:Nat):∀j,j<4->(if j=k then j_ h (sh c' (k*4 ^ h)) else mid h c c' k j)=if j<k+1 then j_ h (sh c' (j*4 ^ h)) else .nil:=by
 intro j _;unfold mid
 by_cases e:j=k
 ·subst e;simp
 ·by_cases e2:j<k
  ·simp [e,e2,show j<k+1 by omega]
  ·simp [e,e2,show ¬j<k+1 by omega]
structure PS (W:World) (b:Nat) (a b' c d:Obj) (S:Nat->Prop) (f:Nat->T) (w:World):Prop where
 h0:w.heap[b]?=some a
 h1:w.heap[b+1]?=some b'
 h2:w.heap[b+2]?=some c
 h3:w.heap[b+3]?=some d
 kr:KR w (b+4) (fun z=>S z/\z≠b+3/\z≠b+4) f
 below:s_ W w
theorem PS.step {a c d:Obj} (h:PS W b a b' c d S f w) (hb:s_ w w'):PS W b a b' c d S f w':=
 ⟨h_ h.h0 hb,h_ h.h1 hb,h_ h.h2 hb,h_ h.h3 hb,h.kr.step hb,e_ h.below hb⟩
theorem PS.congr {a c d:Obj} {f f':Nat->T} (h:PS W b a b' c d S f w) (hf:∀i,i<4->f i=f' i):PS W b a b' c d S f' w:={h with kr:=h.kr.congr hf}
theorem PS.set {a b' c d:Obj} (h:PS W b a b' c d S f w) (hW:W<=b) (hj:j<4) (A:Option Addr) (cap:Nat) (t:T) (h1:t.kids.length<=maxLen) (h2:t.kids.length<=cap) (hk:NK w (fun z=>S z/\z≠b+3/\z≠b+4) A t.kids) :
  PS W b a b' c d S (fun i=>if i=j then t else f i) (w.setCells (b+4) (j*3) [S_ A t.kids.length cap,I_ t.val,I_ t.marks]):=
 ⟨(v_ _ _ _ w b O_).trans h.h0,(v_ _ _ _ w (b+1) O_).trans h.h1,(v_ _ _ _ w (b+2) O_).trans h.h2,(v_ _ _ _ w (b+3) O_).trans h.h3,
  h.kr.set (fun h=>h.2.2 rfl) hj A cap t h1 h2 hk,aY h.below O_ _ _⟩
theorem jc_:∀(h:Nat) (c:Cn) (A:Option Addr) (cap:Nat) (S:Nat->Prop) (i:Nat) (xa:Option Addr) (xcap:Nat) (x m:Int) (w:World),h<=4->i<256->(j_ h c).kids.length<=cap->NK w S A (j_ h c).kids->(∀b,w.heap.size<=b->S b)->
  C_ 225 #[lF A (j_ h c).kids.length cap (j_ h c).val (j_ h c).marks,I_ h,pU i,lF xa 0 xcap x m] w (yP (j_ h (upd c (i % 4 ^ h) (x,m))) S w):=by
 intro h
 induction h with
 | zero=>
  intro c A cap S i xa xcap x m w hh hi I hk hS;unfold pU;obtain ⟨n,D⟩:∃n,(j_ 0 c).kids.length=n:=⟨_,rfl⟩;obtain ⟨v,hv⟩:∃v,(j_ 0 c).val=v:=⟨_,rfl⟩;obtain ⟨mm,hm⟩:∃m,(j_ 0 c).marks=m:=⟨_,rfl⟩;rw [D,hv,hm];clear D hv hm hk I;have hR:=l_ (((w.alloc (.cells #[S_ A n cap,I_ v,I_ mm] 56)).alloc (.cells #[I_ ((i / 4 / 4 / 4 % 4:Nat):Int),I_ ((i / 4 / 4 % 4:Nat):Int),I_ ((i / 4 % 4:Nat):Int),I_ ((i % 4:Nat):Int)] 249)).alloc (.cells #[S_ xa 0 xcap,I_ x,I_ m] 56)) (.cells #[S_ none 0 0,I_ 0,I_ 0] 56) (w+1+1+1) A_;have HU:=H_ (show j_ 0 (upd c (i % 4 ^ 0) (x,m)) = .mk [] x m by simp [j_,upd,Nat.mod_one]);go_enter func225,ntmps225
  go_wp2_with (refine cZ rfl 56 (.tmp 8) (.tmp 13) rfl rfl (w+1+1+1) #[S_ xa 0 xcap,I_ x,I_ m] rfl rfl 56 _ (hR) aH rfl (aU) ?_)
  show bodyPost prog f225 _ _ _ _
  refine bodyPost_ret (dE rfl rfl (setRow_heap _ _ _ _ _ _ hR)) rfl ?_;rw [HU.out];exact ⟨xa,xcap,rfl,Nat.zero_le _,.nil _,d_ (a_ (a_ (a_ (a_ B_ _) _) _) _) O_ _⟩
 | succ h ih=>
  intro c A cap S i xa xcap x m w hh hi I hk hS;obtain ⟨b,B⟩:=bL w.heap.size;have s:=H_ B;have em:=fun w=>fU A (j_ (h+1) c).kids.length cap (j_ (h+1) c).val (j_ (h+1) c).marks w;rw [show rS (j_ (h+1) c).kids.length (j_ (h+1) c).val (j_ (h+1) c).marks=(j_ (h+1) c).emB from rfl] at em;have HF:=H_ (fun k hk=>hZ_ (h:=h) (i:=i) (k:=k) (c:=c) (y:=(x,m)) hk);have HI:=H_ (fun A cap=>eh_ h (upd c (i % 4 ^ (h+1)) (x,m)) A cap);have HE:=H_ (cO (h+1) c);have ai:=H_ (show bS (4 ^ (h+1)) c=false->(j_ (h+1) c).kids=aB h c from fun D=>by rw [bJ,D];rfl);have ah:=H_ (fun w' (B:s_ w w')=>(hk.weak (S':=fun z=>S z/\z≠b+3/\z≠b+4) fun z N h=>⟨h,O_,O_⟩).step B);have Y:=H_ (fun w b B=>bY_ (w:=w) (b:=b) (h:=h) hi B O_);have hp:=fun c A cap S w=>ih c A cap S i xa xcap x m w O_ hi;have Z:=H_ hS;obtain ⟨n,D⟩:∃n,(j_ (h+1) c).kids.length=n:=⟨_,rfl⟩;obtain ⟨v,hv⟩:∃v,(j_ (h+1) c).val=v:=⟨_,rfl⟩;obtain ⟨mm,hm⟩:∃m,(j_ (h+1) c).marks=m:=⟨_,rfl⟩;rw [D,hv,hm] at em;rw [D] at I;rw [D,hv,hm,show ((h+1:Nat):Int)=(h:Int)+1 by omega];have Hn:=H_ D;unfold pU at hp ⊢;obtain ⟨p0,ac⟩:∃p:Int,((i / 4 / 4 / 4 % 4:Nat):Int)=p:=⟨_,rfl⟩;obtain ⟨p1,ad⟩:∃p:Int,((i / 4 / 4 % 4:Nat):Int)=p:=⟨_,rfl⟩;obtain ⟨p2,ae⟩:∃p:Int,((i / 4 % 4:Nat):Int)=p:=⟨_,rfl⟩;obtain ⟨p3,af⟩:∃p:Int,((i % 4:Nat):Int)=p:=⟨_,rfl⟩;rw [ac,ad,ae,af] at hp Y ⊢;have d0:i / 4 ^ h % 4<4:=Nat.mod_lt _ O_;generalize upd c (i % 4 ^ (h+1)) (x,m)=c2 at HF HI ⊢;generalize i / 4 ^ h % 4=d at HF Y d0;have aq:((h:Int)+1 == 0)=false:=beq_eq_false_iff_ne.2 O_;have ap:∀w,(Instr.makeSlice 54 (I_ 4) (I_ 4)).run prog w = .ok (S_ (some ⟨w,0,none⟩) 4 4) (w.alloc (.cells #[S_ none 0 0,I_ 0,I_ 0,S_ none 0 0,I_ 0,I_ 0,S_ none 0 0,I_ 0,I_ 0,S_ none 0 0,I_ 0,I_ 0] 56)):=fun _=>by kernel_rfl
  clear D hv hm ac ad ae af hk hS ih B;go_enter func225,ntmps225
  go_upto_region 3 with fail
  go_cut [4,6,7,8,9] (fun s4 s6 s7 s8 s9 wx=>s4 = P_ b/\s6 = P_ (b+1)/\s7 = P_ (b+2)/\s8 = P_ (b+3)/\s9 = S_ (some ⟨b+4,0,none⟩) 4 4/\PS w b (.cells #[S_ A n cap,I_ v,I_ mm] 56 (0,0)) (.cells #[I_ p0,I_ p1,I_ p2,I_ p3] 249 (0,0)) (.cells #[S_ xa 0 xcap,I_ x,I_ m] 56 (0,0)) (.cells #[S_ none 0 0,I_ 0,I_ 0] 56 (0,0)) S (fun _=> .nil) wx)
  case first=>
   go_wp2;go_meet
   case rel=>
    rw [s.out];exact ⟨rfl,rfl,rfl,rfl,rfl,m_ (m_ (m_ (m_ (i_ _ _) _) _) _) _,m_ (m_ (m_ (l_ _ _ _ A_) _) _) _,m_ (m_ (l_ _ _ _ A_) _) _,m_ (l_ _ _ _ A_) _,
     KR.new (l_ _ _ _ A_),a_ (a_ (a_ (a_ (a_ B_ _) _) _) _) _⟩
  case rest=>
   clear aq ap;obtain ⟨rfl,rfl,rfl,rfl,rfl,u⟩:=hcut;have a:=H_ u;clear u;go_wp2
   go_loopw [17] (fun s17 wx=>∃k:Nat,k<=4/\s17 = I_ k/\PS w b (.cells #[S_ A n cap,I_ v,I_ mm] 56 (0,0)) (.cells #[I_ p0,I_ p1,I_ p2,I_ p3] 249 (0,0)) (.cells #[S_ xa 0 xcap,I_ x,I_ m] 56 (0,0)) (.cells #[S_ none 0 0,I_ 0,I_ 0] 56 (0,0)) S (fun j=>if j<k then j_ h (sh c2 (j*4 ^ h)) else .nil) wx) (fun s17 _=>4 - (intOf s17).toNat)
   case atStart=>exact ⟨0,O_,rfl,a.congr (fun i _=>by simp)⟩
   case round=>
    clear a;obtain ⟨k,au,rfl,u⟩:=hrel;have a:=H_ u;clear u
    by_cases g:k<4
    ·have k1:(k:Int)<4:=O_
     have k0:(0:Int)<=(k:Int):=O_
     go_upto_region 7 with fail
     go_cut [22] (fun s22 wx=>s22 = .bool (!(j_ (h+1) c).emB)/\PS w b (.cells #[S_ A n cap,I_ v,I_ mm] 56 (0,0)) (.cells #[I_ p0,I_ p1,I_ p2,I_ p3] 249 (0,0)) (.cells #[S_ xa 0 xcap,I_ x,I_ m] 56 (0,0)) (.cells #[S_ none 0 0,I_ 0,I_ 0] 56 (0,0)) S (fun j=>if j<k then j_ h (sh c2 (j*4 ^ h)) else .nil) wx)
     case first=>
      obtain ⟨x0,x1,x2⟩:=cR a.h0
      go_wp2_with (go_at_call 217;(with_reducible refine CM (em _) ?_);rintro e w1 ⟨rfl,q⟩)
      go_meet
      case rel=>exact ⟨rfl,a.step q⟩
     case rest=>
      clear a em;obtain ⟨rfl,u⟩:=hcut;have a:=H_ u;clear u;rw [HE.out]
      go_upto_if 22 with fail
      go_cut [] (fun wx=>PS w b (.cells #[S_ A n cap,I_ v,I_ mm] 56 (0,0)) (.cells #[I_ p0,I_ p1,I_ p2,I_ p3] 249 (0,0)) (.cells #[S_ xa 0 xcap,I_ x,I_ m] 56 (0,0)) (.cells #[S_ none 0 0,I_ 0,I_ 0] 56 (0,0)) S (mid h c c2 k) wx)
      case first=>
       cases D:bS (4 ^ (h+1)) c with
       | true=>
        have HN:=H_ (dP (rE.1 D k g));clear D;go_wp2;go_meet
        case rel=>exact a.congr (fun j _=>by
         unfold mid
         split
         ·rfl
         ·split
          ·next e=>subst e;exact HN.symm
          ·rfl)
       | false=>
        have a2:=ai D;have h4:n=4:=by rw [<-Hn.out,a2,aC]
        have E:=ah _ a.below;rw [a2] at E;obtain ⟨b',o,t,A',cap',rfl,_,ar,L,al,aa,ao,Q⟩:=E.at_ (i:=k) (by rw [aC];exact g);rw [dR g] at L;injection L with L
        subst L;obtain ⟨c0,c1,J⟩:=al;have aj:=H_ aa;have ak:=H_ Q;clear E a2 D Q aa;subst h4;obtain ⟨x0,x1,x2⟩:=cR a.h0
        go_wp2_with (refine nK rfl 56 (.tmp 30) (.tmp 29) rfl (b+4) (k*3) #[S_ A' (j_ h (sh c (k*4 ^ h))).kids.length cap',I_ (j_ h (sh c (k*4 ^ h))).val,I_ (j_ h (sh c (k*4 ^ h))).marks] rfl rfl (a.kr.there g) aH (aU) ?_)
        go_meet
        case rel=>
         refine (a.set (Nat.le_of_eq s.symm) g A' cap' (j_ h (sh c (k*4 ^ h))) aj ao ak).congr fun j _=>?_;unfold mid
         by_cases e:j=k
         ·subst e;simp
         ·simp [e]
      case rest=>
       clear a;have u:=hcut;have a:=H_ u;have ag:=Y _ _ u.h1;have av:=u.below.size;have a5:=u.kr.2.1;obtain ⟨A1,G,c0,c1,J,ab,a0,a1⟩:=u.kr.at_ g;rw [show mid h c c2 k k=j_ h (sh c (k*4 ^ h)) by unfold mid;simp] at c0 c1 J ab a0 a1;have a9:=H_ a1;have a8:=H_ a0;have a6:=H_ (HF k g);have q1:i64.wrap (4 - ((h:Int)+1))=((4 - (h+1):Nat):Int):=by rw [gJ O_];omega
       have q2:((4 - (h+1):Nat):Int)<4:=O_
       have q3:(0:Int)<=((4 - (h+1):Nat):Int):=O_
       have q4:=gJ (x:=(h:Int)) O_;obtain ⟨W,am⟩:=bL wc;subst am;clear hcut u a1 a0 ab;generalize 4 - (h+1)=jj at ag q1 q2 q3
       by_cases e:k=d
       ·subst e;have F:=H_ (show j_ h (sh c2 (k*4 ^ h))=j_ h (upd (sh c (k*4 ^ h)) (i % 4 ^ h) (x,m)) by rw [a6.out,if_pos rfl]);have a3:=fun x' (B:s_ W x')=>hp (sh c (k*4 ^ h)) A1 G (fun z=>S z/\z≠b+3/\z≠b+4) x' a8.out (a9.step B) (fun z N=>⟨Z.out z (by have:=s.out;have:=B.size;omega),by have:=B.size;omega,by have:=B.size;omega⟩);rw [<-F.out] at a3
        go_upto_region 10 with fail
        obtain ⟨x0,x1,x2⟩:=cR a.h2;have z0:=b_ a.h1 0;have z1:=b_ a.h1 1;have z2:=b_ a.h1 2;have z3:=b_ a.h1 3;have O:=n_ a.h1;have a4:=n_ a.h2;simp only[zl] at z0 z1 z2 z3;refine aD 12 60 [SP.eq (S_ (some ⟨b+4,0,none⟩) 4 4),SP.eq (I_ k),SP.eq (S_ (some ⟨b+4,0,none⟩) 4 4),SP.eq (I_ k),SP.eq (.pointer (some ⟨b+4,k*3,none⟩)),SP.eq (lF A1 (j_ h (sh c (k*4 ^ h))).kids.length G (j_ h (sh c (k*4 ^ h))).val (j_ h (sh c (k*4 ^ h))).marks),SP.eq (I_ ((h:Int)+1)),SP.eq (I_ (h:Int)),SP.eq (.agg #[I_ p0,I_ p1,I_ p2,I_ p3]),SP.eq (lF xa 0 xcap x m),SP.nt (fun z=>S z/\z≠b+3/\z≠b+4) (j_ h (sh c2 (k*4 ^ h))),SP.eq (.pointer (some ⟨b+4,k*3,none⟩))] q_ q_ rfl ?_;simp only[vG];refine qC fun v0=>qC fun v1=>?_;simp only[ly];refine qC fun v2=>qC fun v3=>qC fun v4=>?_;simp only[ly];refine f_ (fun x' r P K hK=>?_) (fun v5=>?_)
        ·obtain rfl:v4=_:=P 4 q_;have y0:=(r.cell (p:=⟨b+4,_,none⟩) a5).trans c0;have y1:=(r.cell (p:=⟨b+4,_,none⟩) a5).trans c1;have y2:=(r.cell (p:=⟨b+4,_,none⟩) a5).trans J;go_simp;exact hK _ _ r B_ rfl
        simp only[ly];refine qC fun v6=>qC fun v7=>?_;simp only[ly];refine f_ (fun x' r P K hK=>?_) (fun v8=>?_)
        ·have y0:=(r.cell (p:=⟨b+1,_,none⟩) O).trans z0;have y1:=(r.cell (p:=⟨b+1,_,none⟩) O).trans z1;have y2:=(r.cell (p:=⟨b+1,_,none⟩) O).trans z2;have y3:=(r.cell (p:=⟨b+1,_,none⟩) O).trans z3;go_simp;exact hK _ _ r B_ rfl
        simp only[ly];refine f_ (fun x' r P K hK=>?_) (fun v9=>?_)
        ·have y0:=(r.cell (p:=⟨b+2,_,none⟩) a4).trans x0;have y1:=(r.cell (p:=⟨b+2,_,none⟩) a4).trans x1;have y2:=(r.cell (p:=⟨b+2,_,none⟩) a4).trans x2;go_simp;exact hK _ _ r B_ rfl
        simp only[ly];refine f_ (fun x' r P K hK=>?_) (fun v10=>?_)
        ·obtain rfl:v5=_:=P 5 q_;obtain rfl:v7=_:=P 7 q_;obtain rfl:v8=_:=P 8 q_;obtain rfl:v9=_:=P 9 q_;go_simp
         go_at_call 225
         refine (a3 x' r).mono ?_;rintro e w1 ⟨R,l,rfl,H,C,q⟩;exact hK _ _ (e_ r q) q ⟨R,l,rfl,H,C⟩
        simp only[ly];refine qC fun v11=>?_;simp only[ly];refine aK ?_;intro x' r hG;obtain ⟨R,l,e4,H,C⟩:=hG 10 O_;obtain rfl:v10=_:=e4;obtain rfl:v11=_:=hG 11 O_;have f:=H_ (a.step r);have V:=H_ C;clear hG a C x0 x1 x2 z0 z1 z2 z3 c0 c1 J ag a3 r
        go_wp2_with (refine nK rfl 56 (.tmp 48) (.tmp 47) rfl (b+4) (k*3) #[S_ R (j_ h (sh c2 (k*4 ^ h))).kids.length l,I_ (j_ h (sh c2 (k*4 ^ h))).val,I_ (j_ h (sh c2 (k*4 ^ h))).marks] rfl rfl (f.kr.there g) aH (aU) ?_)
        go_roundw
        case rel=>exact ⟨k+1,O_,by go_num,(f.out.set (Nat.le_of_eq s.out.symm) g R l _ (eT _ _) H V.out).congr (zZ k)⟩
        case measure=>exact bV
       ·have e1:((k:Int) == (d:Int))=false:=beq_eq_false_iff_ne.2 O_;have e2:(k == d)=false:=beq_eq_false_iff_ne.2 e;have e3:decide (k=d)=false:=dF e;have F:=H_ (show j_ h (sh c2 (k*4 ^ h))=j_ h (sh c (k*4 ^ h)) by rw [a6.out,if_neg e]);have an:=fun x' (B:s_ W x')=>bx_ h (j_ h (sh c (k*4 ^ h))) (tQ _ _) A1 G (fun z=>S z/\z≠b+3/\z≠b+4) x' a8.out ((a9.step B).weak fun _ _ _=>trivial) (fun z N=>⟨Z.out z (by have:=s.out;have:=B.size;omega),by have:=B.size;omega,by have:=B.size;omega⟩);clear e
        go_wp2_with (first
         | (go_at_call 229;(with_reducible refine CM (an _ B_) ?_);rintro e w1 ⟨R,l,rfl,H,C,q⟩;have f:=H_ (a.step q);have V:=H_ C;clear C)
         | (refine nK rfl 56 (.tmp 56) (.tmp 55) rfl (b+4) (k*3) #[S_ R (j_ h (sh c (k*4 ^ h))).kids.length l,I_ (j_ h (sh c (k*4 ^ h))).val,I_ (j_ h (sh c (k*4 ^ h))).marks] rfl rfl (f.kr.there g) aH (aU) ?_))
        go_roundw
        case rel=>exact ⟨k+1,O_,by go_num,((f.out.set (Nat.le_of_eq s.out.symm) g R l _ (eT _ _) H V.out).congr (by rw [<-F.out];exact zZ k))⟩
        case measure=>exact bV
    ·obtain rfl:k=4:=O_
     have u:=a.out;have E:=(u.kr.congr (f':=fun j=>j_ h (sh c2 (j*4 ^ h))) fun j hj=>by simp [hj]).nk (S':=fun z=>S z/\z≠b+3) ⟨Z.out _ (by have:=s.out;omega),O_⟩ (fun z N=>⟨N.1,N.2.1⟩);rw [aW_] at E;have X:=H_ E;have M:=fun w' (B:NK w' (fun z=>S z/\z≠b+3) (some ⟨b+4,0,none⟩) (aB h c2))=>uA 4 _ (aC _ _) O_ B;clear u E
     rcases HI.out (some ⟨b+4,0,none⟩) 4 with ⟨g0,g1,g2⟩ | ⟨g0,g1,g2⟩
     ·rw [g1] at M;have U:=H_ g2;clear g0 g1 g2
      go_wp2_with (first
       | (go_at_call 224;(with_reducible refine CM (M _ X.out) ?_);rintro e w1 ⟨rfl,q⟩;have f:=H_ (a.step q))
       | (refine cZ rfl 56 (.tmp 8) (.tmp 59) rfl rfl (b+3) #[S_ none 0 0,I_ 0,I_ 0] rfl rfl 56 _ (f.h3) aH rfl (aU) ?_))
      show bodyPost prog f225 _ _ _ _
      refine bodyPost_ret (dE rfl rfl (setRow_heap _ _ _ _ _ _ f.h3)) rfl ?_;rw [U.out];exact ⟨none,0,rfl,Nat.zero_le _,.nil _,d_ f.below (by rw [s.out];omega) _⟩
     ·rw [g1] at M;have U:=H_ g2;clear g0 g1 g2
      go_wp2_with (first
       | (go_at_call 224;(with_reducible refine CM (M _ X.out) ?_);rintro e w1 ⟨rfl,q⟩;have f:=H_ (a.step q);have a7:=H_ (X.step q))
       | (refine cZ rfl 56 (.tmp 8) (.tmp 59) rfl rfl (b+3) #[S_ (some ⟨b+4,0,none⟩) 4 4,I_ 0,I_ (kR (aB h c2))] rfl rfl 56 _ (f.h3) aH rfl (aU) ?_))
      show bodyPost prog f225 _ _ _ _
      refine bodyPost_ret (dE rfl rfl (setRow_heap _ _ _ _ _ _ f.h3)) rfl ?_;rw [U.out];exact ⟨some ⟨b+4,0,none⟩,4,by rw [show (T.mk (aB h c2) 0 (kR (aB h c2))).kids.length=4 from aC _ _];rfl,by rw [show (T.mk (aB h c2) 0 (kR (aB h c2))).kids.length=4 from aC _ _];omega,(a7.kept (by simp [World.setRow]) (fun z N g=>setRow_other _ _ _ _ N.2)).weak fun z _ N=>N.1,d_ f.below (by rw [s.out];omega) _⟩
end
section
theorem U_:(prog.info? 58).map (·.size)=some 4:=by kernel_rfl
theorem aL {h:Int} {v:Int}:(#[Value.int i64 h,Value.slice A n cap,I_ v,I_ m]:Array Value).all (·.oneCell')=true:=by simp [Value.oneCell']
theorem uQ (h:fn.results=#[.cell p 58]) {b c:Value}
  (hp:tmps.getD p undef = P_ g) (hg:w.heap[g]?=some (.cells #[a,b,c,d] t fr)):(results fn tmps).run prog w = .ok (.agg #[a,b,c,d]) w:=
 results_cell_row h tmps w g t _ fr _ hp hg underlying58 rfl U_
theorem jL_ {x' y' z':Value} (h:w.heap[b]?=some (.cells #[a,x,y,z] t fr)):(w.setCells b 1 [x',y',z']).heap[b]?=some (.cells #[a,x',y',z'] t fr):=by
 have h1:=W_ (i:=1) h x';have h2:=W_ (i:=2) h1 y';have h3:=W_ (i:=3) h2 z'
 simpa [World.setCells] using h3
theorem bh_ (h:w.heap[b]?=some (.cells #[a,x,y,z] t (0,0))):w.there b 1 3:=fun j hj=>by
 rw [b_ h,t_ h]
 match j,hj with
 | 0,_=>exact ⟨rfl,rfl⟩
 | 1,_=>exact ⟨rfl,rfl⟩
 | 2,_=>exact ⟨rfl,rfl⟩
 | j+3,hj=>omega
def gU_ (c:Cn) (S:Nat->Prop) (w:World) (e:Ending) (w':World):Prop:=∃(h:Nat) (A:Option Addr) (cap:Nat),e = .returned (nY h A (j_ h c).kids.length cap (j_ h c).val (j_ h c).marks)/\aM h c/\(j_ h c).kids.length<=cap/\NK w' S A (j_ h c).kids/\s_ w w'
theorem cA_ (hz:∀i,4 ^ H<=i->c i=(0,0)):[j_ H c,.nil,.nil,.nil]=aB H c:=by
 have h0:j_ H (sh c (0*4 ^ H))=j_ H c:=by rw [Nat.zero_mul,qF]
 have h1:∀k,1<=k->j_ H (sh c (k*4 ^ H)) = .nil:=fun k a=>dP (aZ.2 fun i _=>hz _ (by have:1*4 ^ H<=k*4 ^ H:=Nat.mul_le_mul_right _ a;omega))
 show _=[j_ H (sh c (0*4 ^ H)),j_ H (sh c (1*4 ^ H)),j_ H (sh c (2*4 ^ H)),j_ H (sh c (3*4 ^ H))]
 rw [h0,h1 1 O_,h1 2 O_,h1 3 O_]
theorem f2_ (hz:∀i,4 ^ H<=i->c i=(0,0)) (he:(j_ H c).emB=true):j_ H c = .nil/\j_ (H+1) c = .nil:=by
 refine ⟨aP_ he,dP (aZ.2 fun i _=>?_)⟩;rw [cO,aZ] at he
 rcases Nat.lt_or_ge i (4 ^ H) with h | h
 ·exact he i h
 ·exact hz i h
theorem uH {a:Nat} (h:a<=b):4 ^ a<=4 ^ b:=Nat.pow_le_pow_right O_ h
theorem zY (hz:∀i,4 ^ (H+1)<=i->c i=(0,0)) (hh:gW (j_ (H+1) c)=false):∀i,4 ^ H<=i->c i=(0,0):=fun i hi=>by
 rcases Nat.lt_or_ge i (4 ^ (H+1)) with h | h
 ·apply Classical.byContradiction;intro hc;rw [mY.2 ⟨i,hi,h,hc⟩] at hh
  cases hh
 ·exact hz i h
theorem f8_ (he:(j_ (H+1) c).emB=false):(j_ (H+1) c).kids.length=4/\(j_ (H+1) c).kids[0]?=some (j_ H c):=by
 rw [cO] at he;rw [bJ,he,if_neg A_];refine ⟨aC _ _,?_⟩
 show (aB H c)[0]?=_
 rw [dR O_,Nat.zero_mul,qF]
theorem hB_ (he:(j_ (H+1) c).emB=true):j_ (H+1) c = .nil/\j_ H c = .nil:=by
 refine ⟨aP_ he,?_⟩;rw [cO,rE] at he;have:=he 0 O_;rw [Nat.zero_mul,qF] at this;exact dP this
theorem cC_ (hh:gW (j_ (H+1) c)=true):∃i,4 ^ H<=i/\c i≠(0,0):=by
 obtain ⟨i,h1,_,h3⟩:=mY.1 hh;exact ⟨i,h1,h3⟩
structure WS (W:World) (b g:Nat) (xo po:Obj) (S:Nat->Prop) (H:Nat) (t:T) (A:Option Addr) (cap:Nat) (w:World):Prop where
 h0:w.heap[b]?=some (.cells #[I_ H,S_ A t.kids.length cap,I_ t.val,I_ t.marks] 58 (0,0))
 h1:w.heap[b+1]?=some xo
 h2:w.heap[b+2]?=some (.cells #[I_ 0,S_ none 0 0,I_ 0,I_ 0] 58 (0,0))
 h3:w.heap[g]?=some po
 hc:t.kids.length<=cap
 nk:NK w (fun z=>S z/\z≠b/\z≠b+2) A t.kids
 below:s_ W w
theorem WS.step {t:T} (h:WS W b g xo po S H t A cap w) (hb:s_ w w'):WS W b g xo po S H t A cap w':=
 ⟨h_ h.h0 hb,h_ h.h1 hb,h_ h.h2 hb,h_ h.h3 hb,h.hc,h.nk.step hb,e_ h.below hb⟩
theorem WS.setH {t:T} (h:WS W b g xo po S H t A cap w) (hW:W<=b) (hg:b+2<g) (H':Nat) (z:Int) (hz:z=(H':Int)):WS W b g xo po S H' t A cap (w.setCell ⟨b,0,none⟩ (I_ z)):=by
 subst hz;exact
 ⟨by simpa using W_ (i:=0) h.h0 (I_ (H':Int)),aQ h.h1 _ _ A_,aQ h.h2 _ _ A_,aQ h.h3 _ _ (by simp;omega),h.hc,h.nk.kept (by simp [World.setCell]) (fun z hz _=>iH w _ _ z hz.2.1),h.below.setCell (p:=⟨b,0,none⟩) hW _⟩
theorem WS.setR {t:T} (h:WS W b g xo po S H t A cap w) (hW:W<=b) (hg:b+2<g) (t':T) (A':Option Addr) (cap':Nat) (hc:t'.kids.length<=cap') (nk:NK w (fun z=>S z/\z≠b/\z≠b+2) A' t'.kids) :
  WS W b g xo po S H t' A' cap' (w.setCells b 1 [S_ A' t'.kids.length cap',I_ t'.val,I_ t'.marks]):=
 ⟨jL_ h.h0,(v_ b _ _ w _ O_).trans h.h1,(v_ b _ _ w _ O_).trans h.h2,(v_ b _ _ w _ O_).trans h.h3,hc,nk.kept (Nat.le_of_eq (fD b _ _ w).2.2.2.symm) (fun z a _=>v_ b _ _ w z a.2.1),aY h.below hW _ _⟩
theorem WS.setR' {t:T} (h:WS W b g xo po S H t A cap w) (hW:W<=b) (hg:b+2<g) (t':T) (A':Option Addr) (cap' n:Nat) (v m:Int) (hn:t'.kids.length=n) (hv:t'.val=v) (hm:t'.marks=m) (hc:n<=cap') (nk:NK w (fun z=>S z/\z≠b/\z≠b+2) A' t'.kids) :
  WS W b g xo po S H t' A' cap' (w.setCells b 1 [S_ A' n cap',I_ v,I_ m]):=by
 subst hn hv hm;exact h.setR hW hg t' A' cap' hc nk
theorem nk4 {t:T} (h:w.heap[g]?=some (.cells #[S_ A t.kids.length cap,I_ t.val,I_ t.marks,S_ none 0 0,I_ 0,I_ 0,S_ none 0 0,I_ 0,I_ 0,S_ none 0 0,I_ 0,I_ 0] 56 (0,0))) (hS:S g) (hm:t.kids.length<=maxLen) (hc:t.kids.length<=cap) (hk:NK w S A t.kids):NK w S (some ⟨g,0,none⟩) [t,.nil,.nil,.nil]:=by
 have hv:=fun i=>b_ h i;refine .mk g 0 _ (fun i=>if i=0 then A else none) (fun i=>if i=0 then cap else 0) hS (n_ h) (fun i k a=>?_) (fun i k a=>?_) (fun i k a=>?_)
 all_goals
  match i with
  | 0=>simp at a;subst a;first | exact ⟨(hv _).trans rfl,(hv _).trans rfl,(hv _).trans rfl⟩ | exact ⟨hm,hc⟩ | exact hk
  | 1=>simp at a;subst a;first | exact ⟨(hv _).trans rfl,(hv _).trans rfl,(hv _).trans rfl⟩ | exact ⟨Nat.zero_le _,Nat.zero_le _⟩ | exact .nil _
  | 2=>simp at a;subst a;first | exact ⟨(hv _).trans rfl,(hv _).trans rfl,(hv _).trans rfl⟩ | exact ⟨Nat.zero_le _,Nat.zero_le _⟩ | exact .nil _
  | 3=>simp at a;subst a;first | exact ⟨(hv _).trans rfl,(hv _).trans rfl,(hv _).trans rfl⟩ | exact ⟨Nat.zero_le _,Nat.zero_le _⟩ | exact .nil _
  | i+4=>simp at a
def hgt (b:Nat) (w:World):Nat:=match w.cell? ⟨b,0,none⟩ with | some (.int _ n)=>n.toNat | _=>0
theorem qY (h:w.heap[b]?=some (.cells #[I_ (H:Int),x,y,z] t (0,0))):hgt b w=H:=by
 unfold hgt;rw [b_ h];simp
theorem fg_ (cap:Nat) (S:Nat->Prop) (i:Nat) (xa:Option Addr) (xcap:Nat) (x m:Int) (hi:i<256) (ht:aM h c) (hcap:(j_ h c).kids.length<=cap) (hk:NK w S A (j_ h c).kids) (hS:∀b,w.heap.size<=b->S b) :
  C_ 211 #[nY h A (j_ h c).kids.length cap (j_ h c).val (j_ h c).marks,I_ i,lF xa 0 xcap x m] w (gU_ (upd c i (x,m)) S w):=by
 have h4:=ht.1;have HT:=H_ ht.2.1;have hr:=fun w=>b6_ i w hi;have hh:=fun w=>zL i w hi;have b0:hf i<=4:=by unfold hf;(repeat' split) <;> omega
 have a3:=H_ (fun H (h4:H<=4)=>zM (h:=H) hi h4);have hp:=fun H c A cap S w hH=>jc_ H c A cap S i xa xcap x m w hH hi;obtain ⟨b,hb⟩:=bL w.heap.size;have l:=H_ hb;have an:=H_ (fun w' (hb:s_ w w')=>(hk.weak (S':=fun z=>S z/\z≠b/\z≠b+2) fun z O h=>⟨h,O_,O_⟩).step hb);have a7:=H_ hS;obtain ⟨n,hn⟩:∃n,(j_ h c).kids.length=n:=⟨_,rfl⟩;obtain ⟨v,hv⟩:∃v,(j_ h c).val=v:=⟨_,rfl⟩;obtain ⟨mm,hm⟩:∃m,(j_ h c).marks=m:=⟨_,rfl⟩;rw [hn] at hcap;rw [hn,hv,hm];obtain ⟨Hn,Hv,Hm⟩:=eI hn hv hm;unfold pU at hp hr hh;obtain ⟨p0,ah⟩:∃p:Int,((i / 4 / 4 / 4 % 4:Nat):Int)=p:=⟨_,rfl⟩;obtain ⟨p1,ai⟩:∃p:Int,((i / 4 / 4 % 4:Nat):Int)=p:=⟨_,rfl⟩;obtain ⟨p2,aj⟩:∃p:Int,((i / 4 % 4:Nat):Int)=p:=⟨_,rfl⟩;obtain ⟨p3,ak⟩:∃p:Int,((i % 4:Nat):Int)=p:=⟨_,rfl⟩;rw [ah,ai,aj,ak] at hp hr hh;clear hn hv hm ah ai aj ak hk hS hb ht;go_enter func211,ntmps211
 go_upto_region 1 with fail
 go_cut [3,5,6,7] (fun s3 s5 s6 s7 wx=>∃(g:Nat),s3 = P_ b/\s5 = P_ (b+1)/\s6 = P_ (b+2)/\s7 = P_ g/\b+2<g/\WS w b g (.cells #[S_ xa 0 xcap,I_ x,I_ m] 56 (0,0)) (.cells #[I_ p0,I_ p1,I_ p2,I_ p3] 249 (0,0)) S h (j_ h c) A cap wx)
 case first=>
  go_wp2_with (go_at_call 215;(with_reducible refine CM (hr _) ?_);rintro e w1 ⟨rfl,a⟩)
  go_meet
  case rel=>
   have U:=l.out;have aw:=a.size;simp at aw;refine ⟨_,by rw [U],by rw [U],by rw [U],rfl,O_,?_,?_,?_,heap_alloc_new _ _,by rw [Hn.out];exact hcap,an _ ?_,?_⟩
   ·rw [Hn.out,Hv.out,Hm.out];exact m_ (h_ (m_ (m_ (l_ _ _ _ U.symm) _) _) a) _
   ·exact m_ (h_ (m_ (l_ _ _ _ (by simp;omega)) _) a) _
   ·exact m_ (h_ (l_ _ _ _ (by simp;omega)) a) _
   ·exact a_ (e_ (a_ (a_ (a_ B_ _) _) _) a) _
   ·exact a_ (e_ (a_ (a_ (a_ B_ _) _) _) a) _
 case rest=>
  clear hr;obtain ⟨g,rfl,rfl,rfl,rfl,Q,s⟩:=hcut;have f:=H_ s;clear s
  go_upto_block 0 with fail
  go_cut [] (fun wx=>∃(H:Nat) (A:Option Addr) (cap:Nat),h<=H/\hf i<=H/\H<=4/\WS w b g (.cells #[S_ xa 0 xcap,I_ x,I_ m] 56 (0,0)) (.cells #[I_ p0,I_ p1,I_ p2,I_ p3] 249 (0,0)) S H (j_ H c) A cap wx)
  case first=>
   go_wp2
   go_loopw [] (fun wx=>∃(H:Nat) (A:Option Addr) (cap:Nat),h<=H/\H<=4/\WS w b g (.cells #[S_ xa 0 xcap,I_ x,I_ m] 56 (0,0)) (.cells #[I_ p0,I_ p1,I_ p2,I_ p3] 249 (0,0)) S H (j_ H c) A cap wx) (fun wx=>4 - hgt b wx)
   case atStart=>exact ⟨h,A,cap,bE _,h4,f⟩
   case round=>
    clear f hcap;obtain ⟨H,A1,y,hH,I,s⟩:=hrel;have f:=H_ s;have ag:=qY s.h0;have HM:=H_ ag;obtain ⟨x0,L,M,N⟩:=iP s.h0;obtain ⟨y0,y1,y2,y3⟩:=iP s.h3;have lX:=n_ s.h0;have lP:=n_ s.h3;have xe:=R_ wr;clear s ag
    go_upto_region 2 with fail
    go_cut [14] (fun s14 wx=>s14 = .bool (decide (H<hf i))/\WS w b g (.cells #[S_ xa 0 xcap,I_ x,I_ m] 56 (0,0)) (.cells #[I_ p0,I_ p1,I_ p2,I_ p3] 249 (0,0)) S H (j_ H c) A1 y wx)
    case first=>
     refine w_ q_ q_ ?_
     (refine wpQuiet_step (fun K E=>?_);go_simp;(with_reducible refine E _ ?_);clear E K)
     (refine wpQuiet_step (fun K E=>?_);go_simp;(with_reducible refine E _ ?_);clear E K)
     (refine wpQuiet_step (fun K E=>?_);go_simp;(with_reducible refine E _ ?_);clear E K)
     (refine wpQuiet_step (fun K E=>?_);go_simp;apply Exists.intro;refine ⟨fun _=>?_,E _ ?_⟩;(exact E_ (hh _));clear E K)
     (refine wpQuiet_step (fun K E=>?_);go_simp;(with_reducible refine E _ ?_);clear E K)
     refine wpQuiet_nil ?_;rintro w' ⟨z,rfl⟩;go_wp2;go_meet
     case rel=>exact ⟨rfl,f.step (p_ _ _)⟩
    case rest=>
     clear f x0 L M N y0 y1 y2 y3 lX lP xe;obtain ⟨rfl,s⟩:=hcut;have f:=H_ s;clear s;have r:=fun w=>fU A1 (j_ H c).kids.length y (j_ H c).val (j_ H c).marks w;rw [show rS (j_ H c).kids.length (j_ H c).val (j_ H c).marks=(j_ H c).emB from rfl] at r
     by_cases af:H<hf i
     ·have hd:decide (H<hf i)=true:=dT af;have HZ:=H_ (show ∀j,4 ^ H<=j->c j=(0,0) from fun j hj=>HT j (eF (uH hH) hj));have b4:=gJ (x:=(H:Int)+1) O_;obtain ⟨x0,L,M,N⟩:=iP f.h0;have Y:=t_ f.h0 0
      cases he:(j_ H c).emB with
      | true=>
       obtain ⟨R,Z⟩:=f2_ HZ.out he;rw [he] at r;have F:=H_ R;have G:=H_ Z;clear he R Z
       go_wp2_with (go_at_call 217;(with_reducible refine CM (r _) ?_);rintro e w1 ⟨rfl,a⟩;have d:=H_ (f.step a);have x0:=b_ d.h0 0;have Y:=t_ d.h0 0;simp only[zl] at x0)
       go_roundw
       case rel=>
        have:=d.setH (Nat.le_of_eq l.symm) Q (H+1) ((H:Int)+1) O_;rw [F.out,<-G.out] at this;exact ⟨H+1,_,_,O_,O_,this⟩
       case measure=>rw [HM.out,qY (d.setH (Nat.le_of_eq l.symm) Q (H+1) ((H:Int)+1) O_).h0];omega
      | false=>
       rw [he] at r;have am:=H_ (cA_ HZ);have ab:=fun g w' (hb:NK w' (fun z=>S z/\z≠b/\z≠b+2) (some ⟨g,0,none⟩) (aB H c))=>uA 4 (fun z=>S z/\z≠b/\z≠b+2) (aC _ _) O_ hb;have a4:=H_ (show bS (4 ^ (H+1)) c=false by
        rw [cO] at he;obtain ⟨j,h1,h2⟩:=eN.1 he;exact eN.2 ⟨j,gX h1 (uH O_),h2⟩)
       have G:=H_ (show j_ (H+1) c = .mk (aB H c) 0 (kR (aB H c)) by rw [bJ,a4.out];rfl);have az:=H_ (show (j_ (H+1) c).kids.length=4 by rw [G.out];exact aC _ _);have HV:=H_ (fun A=>show uZ A 4 (aB H c)=lF A 4 4 0 (kR (aB H c)) by unfold uZ;rw [lI,a4.out];rfl);simp only[HV.out] at ab;have ay:=f.below.size;have ax:=n_ f.h2;have a5:=H_ (fun w1 (a:s_ wc w1)=>show NK (w1.alloc (.cells #[S_ A1 (j_ H c).kids.length y,I_ (j_ H c).val,I_ (j_ H c).marks,S_ none 0 0,I_ 0,I_ 0,S_ none 0 0,I_ 0,I_ 0,S_ none 0 0,I_ 0,I_ 0] 56)) (fun z=>S z/\z≠b/\z≠b+2) (some ⟨w1,0,none⟩) (aB H c) by
        have b1:=a.size;rw [<-am.out];exact nk4 (i_ _ _) ⟨a7.out _ O_,O_,O_⟩ (eT _ _) f.hc ((f.nk.step a).alloc _))
       clear he
       go_wp2_with (first
        | (go_at_call 217;(with_reducible refine CM (r _) ?_);rintro e w1 ⟨rfl,a⟩;have d:=H_ (f.step a);have X:=H_ (a5 _ a);clear a5;obtain ⟨x0,L,M,N⟩:=iP d.h0)
        | (go_at_call 224;(with_reducible refine CM (ab _ _ X.out) ?_);rintro e w2 ⟨rfl,u⟩;have q:=H_ ((d.step (a_ B_ _)).step u);have a6:=H_ (X.step u))
        | ((refine nK rfl 56 (.tmp 26) (.tmp 25) rfl b (1) #[S_ (some ⟨w1,0,none⟩) 4 4,I_ 0,I_ (kR (aB H c))] rfl rfl (bh_ q.h0) aH (aU) ?_);have C:=H_ (q.setR' (Nat.le_of_eq l.symm) Q (.mk (aB H c) 0 (kR (aB H c))) (some ⟨w1,0,none⟩) 4 4 0 (kR (aB H c)) (aC _ _) rfl rfl O_ a6.out);have x0:=b_ C.h0 0;have Y:=t_ C.h0 0;simp only[zl] at x0))
       go_roundw
       case rel=>
        have:=C.setH (Nat.le_of_eq l.symm) Q (H+1) ((H:Int)+1) O_;rw [<-G.out] at this;exact ⟨H+1,_,_,O_,O_,this⟩
       case measure=>rw [HM.out,qY (C.setH (Nat.le_of_eq l.symm) Q (H+1) ((H:Int)+1) O_).h0];omega
     ·have hd:decide (H<hf i)=false:=dF af;go_wp2;go_meet
      case rel=>exact ⟨H,A1,y,hH,O_,I,f.out⟩
  case rest=>
   clear f hcap;obtain ⟨P,A1,y,hH,a1,I,s⟩:=hcut;have f:=H_ s;clear s
   go_upto_region 6 with fail
   go_cut [] (fun wx=>∃(A:Option Addr) (cap:Nat),WS w b g (.cells #[S_ xa 0 xcap,I_ x,I_ m] 56 (0,0)) (.cells #[I_ p0,I_ p1,I_ p2,I_ p3] 249 (0,0)) S P (j_ P (upd c i (x,m))) A cap wx)
   case first=>
    have HU:=H_ (show upd c (i % 4 ^ P) (x,m)=upd c i (x,m) by rw [Nat.mod_eq_of_lt ((a3.out P I).1 a1)]);have ax:=n_ f.h2;have ay:=f.below.size;have al:=hp P c A1 y (fun z=>S z/\z≠b/\z≠b+2) wc I f.hc f.nk (fun z O=>⟨a7.out z O_,O_,O_⟩);rw [HU.out] at al;obtain ⟨x0,L,M,N⟩:=iP f.h0;have y0:=b_ f.h3 0;have y1:=b_ f.h3 1;have y2:=b_ f.h3 2;have y3:=b_ f.h3 3;have z0:=b_ f.h1 0;have z1:=b_ f.h1 1;have z2:=b_ f.h1 2;simp only[zl] at y0 y1 y2 y3 z0 z1 z2
    go_wp2_with (first
     | (go_at_call 225;(with_reducible refine CM al ?_);rintro e w1 ⟨A2,D,rfl,ar,ac,a⟩;have d:=H_ (f.step a);have ao:=H_ ac;clear ac)
     | (refine nK rfl 56 (.tmp 38) (.tmp 37) rfl b (1) #[S_ A2 (j_ P (upd c i (x,m))).kids.length D,I_ (j_ P (upd c i (x,m))).val,I_ (j_ P (upd c i (x,m))).marks] rfl rfl (bh_ d.h0) aH (aU) ?_))
    go_meet
    case rel=>exact ⟨A2,D,d.setR (Nat.le_of_eq l.symm) Q _ A2 D ar ao⟩
   case rest=>
    clear f hp hh;obtain ⟨A2,D,s⟩:=hcut;have a8:=H_ (show ∀j,4 ^ P<=j->upd c i (x,m) j=(0,0) from fun j hj=>by
     have h1:=HT j (eF (uH hH) hj);have h2:=(a3 P I).1 a1;unfold upd;rw [if_neg O_];exact h1)
    have f:=H_ s;clear s a1;generalize upd c i (x,m)=c2 at *;go_wp2
    go_loopw [] (fun wx=>∃(H:Nat) (A:Option Addr) (cap:Nat),H<=4/\(∀j,4 ^ H<=j->c2 j=(0,0))/\WS w b g (.cells #[S_ xa 0 xcap,I_ x,I_ m] 56 (0,0)) (.cells #[I_ p0,I_ p1,I_ p2,I_ p3] 249 (0,0)) S H (j_ H c2) A cap wx) (fun wx=>hgt b wx)
    case atStart=>exact ⟨P,A2,D,I,a8,f⟩
    case round=>
     clear f a8;obtain ⟨H,A3,B,aa,O,s⟩:=hrel;have f:=H_ s;have HZ:=H_ O;have HM:=H_ (qY s.h0);have J:=fun w' (hb:s_ wr w')=>d9_ (j_ H c2) B (eT _ _) f.hc (f.nk.step hb);have r:=fun w=>fU A3 (j_ H c2).kids.length B (j_ H c2).val (j_ H c2).marks w;rw [show rS (j_ H c2).kids.length (j_ H c2).val (j_ H c2).marks=(j_ H c2).emB from rfl] at r;obtain ⟨x0,L,M,N⟩:=iP s.h0;clear s O
     rcases H with _ | H
     ·have a0:=H_ (show aM 0 c2 from ⟨O_,HZ.out,.inl rfl⟩)
      go_wp2_with (refine cZ rfl 58 (.tmp 6) (.tmp 62) rfl rfl (b+2) #[I_ ((0:Nat):Int),S_ A3 (j_ (0) c2).kids.length B,I_ (j_ (0) c2).val,I_ (j_ (0) c2).marks] rfl rfl 58 _ (f.h2) U_ rfl (aL) ?_)
      show bodyPost prog f211 _ _ _ _
      refine bodyPost_ret (uQ rfl rfl (setRow_heap _ _ _ _ _ _ f.h2)) rfl ⟨0,A3,B,rfl,a0.out,f.hc,(f.nk.kept (by simp [World.setRow]) (fun z O av=>setRow_other _ _ _ _ O.2.2)).weak fun z _ O=>O.1,d_ f.below (by rw [l.out];omega) _⟩
     ·have b5:(0:Int)<((H+1:Nat):Int):=O_
      cases hhv:gW (j_ (H+1) c2) with
      | true=>
       have a0:=H_ (show aM (H+1) c2 from ⟨aa,HZ,.inr (cC_ hhv)⟩);rw [hhv] at J;clear hhv
       go_wp2_with (first
        | (go_at_call 214;(with_reducible refine CM (J _ B_) ?_);rintro e w1 ⟨rfl,a⟩;have d:=H_ (f.step a);obtain ⟨x0,L,M,N⟩:=iP d.h0;have Y:=t_ d.h0 0)
        | (refine cZ rfl 58 (.tmp 6) (.tmp 62) rfl rfl (b+2) #[I_ ((H+1:Nat):Int),S_ A3 (j_ (H+1) c2).kids.length B,I_ (j_ (H+1) c2).val,I_ (j_ (H+1) c2).marks] rfl rfl 58 _ (d.h2) U_ rfl (aL) ?_))
       show bodyPost prog f211 _ _ _ _
       refine bodyPost_ret (uQ rfl rfl (setRow_heap _ _ _ _ _ _ d.h2)) rfl ⟨H+1,A3,B,rfl,a0.out,d.hc,(d.nk.kept (by simp [World.setRow]) (fun z O av=>setRow_other _ _ _ _ O.2.2)).weak fun z _ O=>O.1,d_ d.below (by rw [l.out];omega) _⟩
      | false=>
       have HL:=H_ (zY HZ hhv);rw [hhv] at J;clear hhv;have b2:i64.wrap (((H+1:Nat):Int) - 1)=(H:Int):=by rw [gJ O_];omega
       have b3:((H+1:Nat):Int) - 1=(H:Int):=O_
       cases he:(j_ (H+1) c2).emB with
       | true=>
        obtain ⟨R,Z⟩:=hB_ he;rw [he] at r;have F:=H_ R;have G:=H_ Z;clear he R Z
        go_wp2_with (first | (go_at_call 214;(with_reducible refine CM (J _ B_) ?_);rintro e w1 ⟨rfl,a⟩;have d:=H_ (f.step a);obtain ⟨x0,L,M,N⟩:=iP d.h0;have Y:=t_ d.h0 0) | (go_at_call 217;(with_reducible refine CM (r _) ?_);rintro e w2 ⟨rfl,u⟩;have q:=H_ (d.step u);obtain ⟨x0,L,M,N⟩:=iP q.h0;have Y:=t_ q.h0 0))
        go_roundw
        case rel=>
         have:=q.setH (Nat.le_of_eq l.symm) Q H (H:Int) rfl;rw [F.out,<-G.out] at this;exact ⟨H,_,_,O_,HL.out,this⟩
        case measure=>rw [HM.out,qY (q.setH (Nat.le_of_eq l.symm) Q H (H:Int) rfl).h0];omega
       | false=>
        obtain ⟨R,Z⟩:=f8_ he;rw [he] at r;clear he;obtain ⟨b',o,k,A4,dS,rfl,_,V,W,aq,au,ad,ae⟩:=f.nk.at_ (i:=0) O_;rw [Z] at W;injection W with W
        subst W;obtain ⟨c0,c1,a9⟩:=aq;rw [Nat.zero_mul,Nat.add_zero] at c0 c1 a9;have HK:=H_ ae;have ap:=H_ ad;rw [R] at J r;have t:=f.h0;rw [R] at t;have F:=H_ R;clear x0 L M N;obtain ⟨x0,L,M,N⟩:=iP t;clear R Z ae ad au t
        go_wp2_with (first
         | ((go_at_call 214;(with_reducible refine CM (J _ B_) ?_);rintro e w1 ⟨rfl,a⟩;have d:=H_ (f.step a);have Y:=t_ d.h0 0);have t:=d.h0;rw [F.out] at t;obtain ⟨x0,L,M,N⟩:=iP t;clear t;have k0:=(a.cell (p:=⟨b',_,none⟩) V).trans c0;have k1:=(a.cell (p:=⟨b',_,none⟩) V).trans c1;have k2:=(a.cell (p:=⟨b',_,none⟩) V).trans a9;have a2:=gX V a.size)
         | ((go_at_call 217;(with_reducible refine CM (r _) ?_);rintro e w2 ⟨rfl,u⟩;have q:=H_ (d.step u);have Y:=t_ q.h0 0);have t:=q.h0;rw [F.out] at t;obtain ⟨x0,L,M,N⟩:=iP t;clear t;have k0:=(u.cell (p:=⟨b',_,none⟩) a2).trans k0;have k1:=(u.cell (p:=⟨b',_,none⟩) a2).trans k1;have k2:=(u.cell (p:=⟨b',_,none⟩) a2).trans k2)
         | ((refine nK rfl 56 (.tmp 57) (.tmp 56) rfl b (1) #[S_ A4 (j_ H c2).kids.length dS,I_ (j_ H c2).val,I_ (j_ H c2).marks] rfl rfl (bh_ q.h0) aH (aU) ?_);have C:=H_ (q.setR (Nat.le_of_eq l.symm) Q (j_ H c2) A4 dS ap ((HK.step a).step u));obtain ⟨x0,L,M,N⟩:=iP C.h0;have Y:=t_ C.h0 0))
        go_roundw
        case rel=>exact ⟨H,A4,dS,O_,HL.out,C.setH (Nat.le_of_eq l.symm) Q H (H:Int) rfl⟩
        case measure=>rw [HM.out,qY (C.setH (Nat.le_of_eq l.symm) Q H (H:Int) rfl).h0];omega
end
section
abbrev En:=Int × Int × Int
def oH:List En->List Value
 | []=>[]
 | (i,v,m) :: l=> I_ i :: I_ v :: I_ m :: oH l
theorem by_ (l l':List En):oH (l ++ l')=oH l ++ oH l':=by
 induction l with
 | nil=>rfl
 | cons a l ih=>obtain ⟨x,y,z⟩:=a;simp [oH,ih]
theorem sM:∀(l:List En) (i:Nat) (d s c:Int),l[i]?=some (d,s,c)->(oH l)[i*3]?=some (I_ d)/\(oH l)[i*3+1]?=some (I_ s)/\(oH l)[i*3+2]?=some (I_ c)
 | [],i,d,s,c,h=>by simp at h
 | (x,y,z) :: l,0,d,s,c,h=>by simp at h;obtain ⟨rfl,rfl,rfl⟩:=h;simp [oH]
 | (x,y,z) :: l,i+1,d,s,c,h=>by
  have h1:=sM l i d s c (by simpa using h);rw [show (i+1)*3=i*3+3 from by omega,show i*3+3+1=i*3+1+3 from by omega,show i*3+3+2=i*3+2+3 from by omega]
  simpa [oH] using h1
def EA (w:World) (S:Nat->Prop) (v:Value) (l:List En):Prop:=
 ∃A cap,v = S_ A l.length cap/\l.length<=cap/\cap<=maxLen/\(l=[]\/∃b o,A=some ⟨b,o,none⟩/\b<w.heap.size/\S b/\∀i d s c,l[i]?=some (d,s,c)->
  w.cell? ⟨b,o+i*3,none⟩=some (I_ d)/\w.cell? ⟨b,o+i*3+1,none⟩=some (I_ s)/\w.cell? ⟨b,o+i*3+2,none⟩=some (I_ c))
theorem EA.kept {w w':World} {l:List En} (h:EA w S v l) (hs:w.heap.size<=w'.heap.size) (hb:∀b,S b->b<w.heap.size->w'.heap[b]?=w.heap[b]?):EA w' S v l:=by
 obtain ⟨A,cap,e,hc,g,h⟩:=h;refine ⟨A,cap,e,hc,g,?_⟩
 rcases h with h | ⟨b,o,h1,h2,h0,h3⟩
 ·exact .inl h
 ·refine .inr ⟨b,o,h1,O_,h0,fun i d s c f=>?_⟩;obtain ⟨c0,c1,c2⟩:=h3 i d s c f;exact ⟨(World.cell?_of_block (a:=⟨b,_,none⟩) (hb b h0 h2)).trans c0,(World.cell?_of_block (a:=⟨b,_,none⟩) (hb b h0 h2)).trans c1,(World.cell?_of_block (a:=⟨b,_,none⟩) (hb b h0 h2)).trans c2⟩
theorem EA.step {l:List En} (h:EA w S v l) (hb:s_ w w'):EA w' S v l:=h.kept hb.size fun b _ hlt=>hb.block b hlt
theorem EA.weak {S S':Nat->Prop} {l:List En} (h:EA w S v l) (hs:∀b,b<w.heap.size->S b->S' b):EA w S' v l:=by
 obtain ⟨A,cap,e,hc,hm,h⟩:=h;refine ⟨A,cap,e,hc,hm,?_⟩
 rcases h with h | ⟨b,o,h1,h2,h0,h3⟩
 ·exact .inl h
 ·exact .inr ⟨b,o,h1,h2,hs b h2 h0,h3⟩
theorem EA.of_own {base:Nat} {l:List En} {S:Nat->Prop} (h:w.ownsRow base t 3 v l.length (oH l)) (hS:∀b,v.ownBlock=some b->S b):EA w S v l:=by
 rcases h.2 with ⟨h1,h2⟩ | ⟨g,cap,cur,h1,h2,h3,h4,h5,h6,h7⟩
 ·exact ⟨none,0,by rw [h1,h2],O_,by unfold maxLen;omega,.inl (List.eq_nil_of_length_eq_zero h2)⟩
 ·refine ⟨_,cap,h1,h4,h5,.inr ⟨g,0,rfl,n_ h3,hS g (by rw [h1];rfl),fun i d s c f=>?_⟩⟩;have k:i<l.length:=bI f;obtain ⟨x0,n,o⟩:=sM l i d s c f;have a:∀j,j<l.length*3->w.cell? ⟨g,j,none⟩=(oH l)[j]?:=fun j m=>by
   rw [<-h7,List.getElem?_take,if_pos m];simp [World.cell?,h3]
  rw [Nat.zero_add];exact ⟨(a _ O_).trans x0,(a _ O_).trans n,(a _ O_).trans o⟩
theorem EA.at_ {l:List En} (h:EA w S v l) {i:Nat} (hi:i<l.length):∃b o cap d s c,v = S_ (some ⟨b,o,none⟩) l.length cap/\l.length<=cap/\cap<=maxLen/\b<w.heap.size/\l[i]?=some (d,s,c)/\
  w.cell? ⟨b,o+i*3,none⟩=some (I_ d)/\w.cell? ⟨b,o+i*3+1,none⟩=some (I_ s)/\w.cell? ⟨b,o+i*3+2,none⟩=some (I_ c):=by
 obtain ⟨A,cap,e,hc,f,h⟩:=h
 rcases h with h | ⟨b,o,h1,h2,h0,h3⟩
 ·subst h;simp at hi
 ·subst h1;have a:l[i]?=some l[i]:=cY hi;obtain ⟨c0,c1,c2⟩:=h3 i _ _ _ a;exact ⟨b,o,cap,_,_,_,e,hc,f,h2,a,c0,c1,c2⟩
theorem kZ:(prog.info? 160).map (fun i=>(i.zero,i.size,i.bytes))=some (some (.agg #[I_ 0,I_ 0,I_ 0]),3,24):=by kernel_rfl
def aX (base n:Nat) (c:Cn):List En:=(List.range n).filterMap fun j=>if c j=(0,0) then none else some (((base+j:Nat):Int),(c j).1,(c j).2)
theorem tU (base a b:Nat) (c:Cn):aX base (a+b) c=aX base a c ++ aX (base+a) b (sh c a):=by
 unfold aX;rw [List.range_add,List.filterMap_append,List.filterMap_map]
 congr 1
 refine congrArg (fun f=>List.filterMap f (List.range b)) (funext fun j=>?_);simp only[Function.comp,sh,Nat.add_assoc]
theorem qV (base:Nat) (c:Cn):aX base 0 c=[]:=rfl
theorem kB {base n:Nat} (h:bS n c=true):aX base n c=[]:=by
 unfold aX;rw [List.filterMap_eq_nil_iff];intro j hj;rw [if_pos (aZ.1 h j (List.mem_range.1 hj))]
theorem mB (base n:Nat) (c:Cn):(aX base n c).length<=n:=by
 unfold aX;have:=List.length_filterMap_le (fun j=>if c j=(0,0) then none else some (((base+j:Nat):Int),(c j).1,(c j).2)) (List.range n)
 simpa using this
theorem tV {base:Nat} (h:bS 1 c=false):aX base 1 c=[((base:Int),(c 0).1,(c 0).2)]:=by
 obtain ⟨i,hi,hne⟩:=eN.1 h;obtain rfl:i=0:=O_
 unfold aX;simp [hne]
theorem vS (base p k:Nat) (c:Cn):aX base ((k+1)*p) c=aX base (k*p) c ++ aX (base+k*p) p (sh c (k*p)):=by
 rw [Nat.add_mul,Nat.one_mul,tU]
structure LS (W:World) (v:Value) (B:Nat) (L:List En) (vk:Value) (wx:World):Prop where
 own:wx.ownsRow B 160 3 vk L.length (oH L)
 gr:W.grownBy wx v.ownBlock
 ob:vk.ownBlock=v.ownBlock\/∀g,vk.ownBlock=some g->W.heap.size<=g
theorem LS.refl {L:List En} (h:W.ownsRow B 160 3 v L.length (oH L)):LS W v B L v W:=⟨h,⟨rfl,rfl,rfl,bE _,fun _ _ _=>rfl⟩,.inl rfl⟩
theorem LS.trans {vl:Value} {L L':List En} (h:LS W v B L vk wx) (h':LS wx vk B L' vl wy):LS W v B L' vl wy:=by
 refine ⟨h'.own,⟨h'.gr.os.trans h.gr.os,h'.gr.tape.trans h.gr.tape,h'.gr.output.trans h.gr.output,eF h.gr.size h'.gr.size,fun k a b=>(h'.gr.block k (gX a h.gr.size) fun e=>?_).trans (h.gr.block k a b)⟩,?_⟩
 ·rcases h.ob with h1 | h1
  ·exact b (by rw [e];exact h1)
  ·have:=h1 k e.symm;omega
 ·rcases h'.ob with h1 | h1
  ·rw [h1];exact h.ob
  ·exact .inr fun g c=>eF h.gr.size (h1 g c)
theorem LS.step {L:List En} (h:LS W v B L vk wx) (hb:s_ wx wy):LS W v B L vk wy:=
 h.trans ⟨dG h.own hb,⟨hb.os,hb.tape,hb.output,hb.size,fun k hk _=>hb.block k hk⟩,.inl rfl⟩
theorem LS.nk {L:List En} (h:LS W v B L vk wx) {ks:List T} (hk:NK W (fun z=>v.ownBlock≠some z) A ks):NK wx (fun z=>vk.ownBlock≠some z) A ks:=by
 have h1:=(hk.weak (S':=fun z=>v.ownBlock≠some z/\vk.ownBlock≠some z) fun b c a=>⟨a,fun e=>by
  rcases h.ob with h1 | h1
  ·exact a (h1 ▸ e)
  ·have:=h1 b e;omega⟩).kept h.gr.size (fun b a c=>h.gr.block b c fun e=>a.1 e.symm)
 exact h1.weak fun b _ a=>a.2
theorem LS.bk {L:List En} (h:LS W v B L vk wx) {o:Obj} (hg:W.heap[g]?=some o) (hn:v.ownBlock≠some g):wx.heap[g]?=some o:=(h.gr.block g (n_ hg) fun e=>hn e.symm).trans hg
theorem LS.ne {L:List En} (h:LS W v B L vk wx) (hg:g<W) (hn:v.ownBlock≠some g):vk.ownBlock≠some g:=fun e=>by
 rcases h.ob with h1 | h1
 ·exact hn (h1 ▸ e)
 ·have:=h1 g e;omega
theorem LS.snoc {L:List En} {x:Int} (h:LS W v B L vk wx) (hown:wy.ownsRow B 160 3 (S_ (some ⟨g,0,none⟩) n cap) (L.length+1) (oH L ++ [I_ i,I_ x,I_ m])) (hg:wx.grownBy wy vk.ownBlock) (hat:vk.ownBlock=some g\/g=wx.heap.size) :
  LS W v B (L ++ [(i,x,m)]) (S_ (some ⟨g,0,none⟩) n cap) wy:=
 h.trans ⟨by rw [by_];simpa [oH] using hown,hg,by
  rcases hat with hat | hat
  ·exact .inl hat.symm
  ·exact .inr fun g' hg'=>by simp only[Value.ownBlock,Option.some.injEq] at hg';omega⟩
def jB_ (B:Nat) (L:List En) (v:Value) (w:World) (e:Ending) (w':World):Prop:=∃v',e = .returned v'/\LS w v B L v' w'
end
section
theorem c0_ {P:Program} {ty:TypeId} (h:fn.results=#[.cell p ty,.tmp q]) (tmps:Array Value) (t:TypeId) {cs:Array Value} (fr:Nat × Nat) {d:TypeDesc} (u:Value)
  (hp:tmps.getD p undef = P_ g) (hq:tmps.getD q undef=u) (hg:w.heap[g]?=some (.cells cs t fr))
  (hu:P.underlying ty=some d) (hd:(match d with | .struct _ | .array _ _=>true | _=>false)=true) (hi:(P.info? ty).map (·.size)=some cs.size) :
  (results fn tmps).run P w = .ok (.tuple #[.agg cs,u]) w:=by
 have hp':tmps[p]?.getD undef = P_ g:=by simpa using hp
 have hq':tmps[q]?.getD undef=u:=by simpa using hq
 simp [results,h,hp',hq',asAddr,run_loadVar_row w g t ty cs fr d hg hu hd hi]
theorem bQ (h:fn.results=#[.cell p 58,.tmp q]) {b c:Value}
  (hp:tmps.getD p undef = P_ g) (hq:tmps.getD q undef=u) (hg:w.heap[g]?=some (.cells #[a,b,c,d] t fr)):(results fn tmps).run prog w = .ok (.tuple #[.agg #[a,b,c,d],u]) w:=
 c0_ h tmps t fr u hp hq hg underlying58 rfl U_
theorem nB (h:fn.results=#[.cell p 56,.tmp q]) {b c:Value}
  (hp:tmps.getD p undef = P_ g) (hq:tmps.getD q undef=u) (hg:w.heap[g]?=some (.cells #[a,b,c] t fr)):(results fn tmps).run prog w = .ok (.tuple #[.agg #[a,b,c],u]) w:=
 c0_ h tmps t fr u hp hq hg underlying56 rfl aH
def gE (c:Cn) (err:Int) (S:Nat->Prop) (w:World) (e:Ending) (w':World):Prop:=∃(h:Nat) (A:Option Addr) (cap:Nat),e = .returned (.tuple #[nY h A (j_ h c).kids.length cap (j_ h c).val (j_ h c).marks,I_ err])/\aM h c/\(j_ h c).kids.length<=cap/\NK w' S A (j_ h c).kids/\s_ w w'
theorem gE.err {err:Int} (h:s_ w w'):gE eH err S w (.returned (.tuple #[nY 0 none 0 0 0 0,I_ err])) w':=
 ⟨0,none,0,by rfl,aM.zero,Nat.zero_le _,.nil _,h⟩
def kF (i:Int):Bool:=decide (0<=i/\i<=255)
theorem nR (h:kF i=true):0<=i/\i<=255:=by simpa [kF] using h
theorem zT (i:Int) (w:World):C_ 182 #[I_ i] w fun e w'=>e = .returned (.bool (kF i))/\w=w':=eg_ i w
def bD (c:Cn) (i v:Int):Cn × Int:=if kF i then (upd c i.toNat (v,0),0) else (eH,2)
def iR (c:Cn) (i m:Int):(Int × Int) × Int:=if kF i then (if eO m then (if (c i.toNat).1<=0 then ((0,0),4) else (c i.toNat,0)) else ((0,0),1)) else ((0,0),2)
abbrev nN (a b:Int):Int:=bits .andNot .i64 a b
abbrev iE (a b:Int):Int:=bits .and .i64 a b
def eY (c:Cn) (i m:Int):Cn × Int:=if (iR c i m).2=0 then (upd c i.toNat ((c i.toNat).1,uC (c i.toNat).2 m),0) else (eH,(iR c i m).2)
def bZ (c:Cn) (i m:Int):Cn × Int:=if (iR c i m).2=0 then (upd c i.toNat ((c i.toNat).1,nN (c i.toNat).2 m),0) else (eH,(iR c i m).2)
def J_ (c:Cn) (i:Int):Int:=if kF i then (c i.toNat).1 else 0
def iB_ (x:Int × Int) (err:Int) (w:World) (e:Ending) (w':World):Prop:=∃(A:Option Addr) (cap:Nat),e = .returned (.tuple #[lF A 0 cap x.1 x.2,I_ err])/\s_ w w'
theorem eo_ (m:Int) (w:World):C_ 192 #[I_ m] w fun e w'=>e = .returned (.bool (eO m))/\w=w':=hD_ m w
theorem bB_ (cap:Nat) (i m:Int) (hl:bF c) (ht:aM h c) (hcap:(j_ h c).kids.length<=cap) (hk:NK w S A (j_ h c).kids) :
  C_ 210 #[nY h A (j_ h c).kids.length cap (j_ h c).val (j_ h c).marks,I_ i,I_ m] w (iB_ (iR c i m).1 (iR c i m).2 w):=by
 have g:=fun (j:Nat) w' (J:j<256) (x:s_ w w')=>dY_ cap j J ht hcap (hk.step x);obtain ⟨n,E⟩:∃n,(j_ h c).kids.length=n:=⟨_,rfl⟩;obtain ⟨v,hv⟩:∃v,(j_ h c).val=v:=⟨_,rfl⟩;obtain ⟨F,D⟩:∃m,(j_ h c).marks=m:=⟨_,rfl⟩;have o:=fun w' (x:s_ w w')=>qH h (j_ h c) cap (eT _ _) hcap (hk.step x);rw [iC hl ht] at o;have N:=H_ ht;have L:=H_ hcap;have M:=H_ (fun w' (x:s_ w w')=>hk.step x);rw [E,hv,D] at o ⊢;have C:=H_ (m_ (i_ w (.cells #[I_ (h:Int),S_ A n cap,I_ v,I_ F] 58)) (.cells #[S_ none 0 0,I_ 0,I_ 0] 56));have z:=H_ (l_ (w.alloc (.cells #[I_ (h:Int),S_ A n cap,I_ v,I_ F] 58)) (.cells #[S_ none 0 0,I_ 0,I_ 0] 56) (w+1) A_);have B:=H_ (a_ (a_ (aP (w) w) (.cells #[I_ (h:Int),S_ A n cap,I_ v,I_ F] 58)) (.cells #[S_ none 0 0,I_ 0,I_ 0] 56));rw [E,hv,D] at g;clear E hv D hk hl ht;have k:=fun w=>zT i w;have l:=fun w=>eo_ m w
 cases hib:kF i with
 | true=>
  rw [hib] at k
  cases hob:eO m with
  | true=>
   rw [hob] at l;obtain ⟨j,rfl⟩:=mZ (nR hib).1;have J:=(nR hib).2;have r:=fun w' x=>g j w' O_ x
   by_cases s:(c j).1<=0
   ·have t:=H_ (show iR c j m=((0,0),4) by unfold iR;rw [hib,hob,Int.toNat_natCast];simp [s]);clear g hib hob;generalize c j=y at r s;go_enter func210,ntmps210
    go_wp2_with (first
     | (go_at_call 181;(with_reducible refine CM (o _ fL) ?_);rintro e w1 ⟨rfl,f⟩;obtain ⟨d,a,b⟩:=bC C z B f;obtain ⟨x0,G,H,I⟩:=iP d.out)
     | (go_at_call 182;(with_reducible refine CM (k _) ?_);rintro e w2 ⟨rfl,rfl⟩)
     | (go_at_call 192;(with_reducible refine CM (l _) ?_);rintro e w2 ⟨rfl,rfl⟩)
     | (go_at_call 183;(with_reducible refine CM (r _ b.out) ?_);rintro e w2 ⟨A',cap',rfl,q⟩;have p:=H_ (m_ (h_ a q) (.cells #[S_ A' 0 cap',I_ y.1,I_ y.2] 56));have u:=H_ (a_ (e_ b q) (.cells #[S_ A' 0 cap',I_ y.1,I_ y.2] 56)))
     | (refine cZ rfl 56 (.tmp 6) (.tmp 27) rfl rfl (w+1) #[S_ none 0 0,I_ 0,I_ 0] rfl rfl 56 _ (p) aH rfl (aU) ?_))
    show bodyPost prog f210 _ _ _ _
    refine bodyPost_ret (nB rfl rfl rfl (setRow_heap _ _ _ _ _ _ p)) rfl ?_;rw [t.out];exact ⟨_,_,rfl,d_ u.out O_ _⟩
   ·have t:=H_ (show iR c j m=(c j,0) by unfold iR;rw [hib,hob,Int.toNat_natCast];simp [s]);clear g hib hob;obtain ⟨y,K⟩:∃y,c j=y:=⟨_,rfl⟩;rw [K] at r s t;clear K;go_enter func210,ntmps210
    go_wp2_with (first
     | (go_at_call 181;(with_reducible refine CM (o _ fL) ?_);rintro e w1 ⟨rfl,f⟩;obtain ⟨d,a,b⟩:=bC C z B f;obtain ⟨x0,G,H,I⟩:=iP d.out)
     | (go_at_call 182;(with_reducible refine CM (k _) ?_);rintro e w2 ⟨rfl,rfl⟩)
     | (go_at_call 192;(with_reducible refine CM (l _) ?_);rintro e w2 ⟨rfl,rfl⟩)
     | (go_at_call 183;(with_reducible refine CM (r _ b.out) ?_);rintro e w2 ⟨A',cap',rfl,q⟩;have p:=H_ (m_ (h_ a q) (.cells #[S_ A' 0 cap',I_ y.1,I_ y.2] 56));have u:=H_ (a_ (e_ b q) (.cells #[S_ A' 0 cap',I_ y.1,I_ y.2] 56)))
     | (refine cZ rfl 56 (.tmp 6) (.tmp 28) rfl rfl (w+1) #[S_ A' 0 cap',I_ y.1,I_ y.2] rfl rfl 56 _ (p) aH rfl (aU) ?_))
    show bodyPost prog f210 _ _ _ _
    refine bodyPost_ret (nB rfl rfl rfl (setRow_heap _ _ _ _ _ _ p)) rfl ?_;rw [t.out];exact ⟨_,_,rfl,d_ u.out O_ _⟩
  | false=>
   rw [hob] at l;have t:=H_ (show iR c i m=((0,0),1) by unfold iR;rw [hib,hob];simp);clear g hib hob;go_enter func210,ntmps210
   go_wp2_with (first
    | (go_at_call 181;(with_reducible refine CM (o _ fL) ?_);rintro e w1 ⟨rfl,f⟩;obtain ⟨d,a,b⟩:=bC C z B f;obtain ⟨x0,G,H,I⟩:=iP d.out)
    | (go_at_call 182;(with_reducible refine CM (k _) ?_);rintro e w2 ⟨rfl,rfl⟩)
    | (go_at_call 192;(with_reducible refine CM (l _) ?_);rintro e w2 ⟨rfl,rfl⟩)
    | (refine cZ rfl 56 (.tmp 6) (.tmp 20) rfl rfl (w+1) #[S_ none 0 0,I_ 0,I_ 0] rfl rfl 56 _ (a) aH rfl (aU) ?_))
   show bodyPost prog f210 _ _ _ _
   refine bodyPost_ret (nB rfl rfl rfl (setRow_heap _ _ _ _ _ _ a)) rfl ?_;rw [t.out];exact ⟨_,_,rfl,d_ b.out O_ _⟩
 | false=>
  rw [hib] at k;have t:=H_ (show iR c i m=((0,0),2) by unfold iR;rw [hib];simp);clear g hib;go_enter func210,ntmps210
  go_wp2_with (first
   | (go_at_call 181;(with_reducible refine CM (o _ fL) ?_);rintro e w1 ⟨rfl,f⟩;obtain ⟨d,a,b⟩:=bC C z B f;obtain ⟨x0,G,H,I⟩:=iP d.out)
   | (go_at_call 182;(with_reducible refine CM (k _) ?_);rintro e w2 ⟨rfl,rfl⟩)
   | (go_at_call 192;(with_reducible refine CM (l _) ?_);rintro e w2 ⟨rfl,rfl⟩)
   | (refine cZ rfl 56 (.tmp 6) (.tmp 16) rfl rfl (w+1) #[S_ none 0 0,I_ 0,I_ 0] rfl rfl 56 _ (a) aH rfl (aU) ?_))
  show bodyPost prog f210 _ _ _ _
  refine bodyPost_ret (nB rfl rfl rfl (setRow_heap _ _ _ _ _ _ a)) rfl ?_;rw [t.out];exact ⟨_,_,rfl,d_ b.out O_ _⟩
theorem bz_ (h:(iR c i m).2=0):kF i=true/\eO m=true/\0<(c i.toNat).1/\iR c i m=(c i.toNat,0):=by
 unfold iR at h ⊢
 cases h1:kF i with
 | false=>rw [h1] at h;simp at h
 | true=>
  rw [h1] at h
  cases h2:eO m with
  | false=>rw [h2] at h;simp at h
  | true=>
   rw [h2] at h
   by_cases h3:(c i.toNat).1<=0
   ·simp [h3] at h
   ·simp [h3];omega
theorem i6_ (cap:Nat) (i m:Int) (hl:bF c) (ht:aM h c) (hcap:(j_ h c).kids.length<=cap) (hk:NK w S A (j_ h c).kids) (hS:∀b,w.heap.size<=b->S b) :
  C_ 178 #[nY h A (j_ h c).kids.length cap (j_ h c).val (j_ h c).marks,I_ i,I_ m] w (gE (eY c i m).1 (eY c i m).2 S w):=by
 have k:=fun (j:Nat) q r y z w' (N:j<256) (f:s_ w w') (B:w.heap.size+1<w'.heap.size)=>fg_ cap (fun z=>S z/\z≠w.heap.size+1) j q r y z N ht hcap ((hk.weak fun z B h=>⟨h,O_⟩).step f) (fun b U=>⟨hS b (eF f.size O_),O_⟩);have a:=fun w' (f:s_ w w')=>bB_ cap i m hl ht hcap (hk.step f);obtain ⟨n,G⟩:∃n,(j_ h c).kids.length=n:=⟨_,rfl⟩;obtain ⟨v,hv⟩:∃v,(j_ h c).val=v:=⟨_,rfl⟩;obtain ⟨J,F⟩:∃m,(j_ h c).marks=m:=⟨_,rfl⟩;have p:=fun w' (f:s_ w w')=>qH h (j_ h c) cap (eT _ _) hcap (hk.step f);rw [iC hl ht] at p;have X:=H_ ht;have V:=H_ hcap;have W:=H_ (fun w' (f:s_ w w')=>hk.step f);rw [G,hv,F] at p ⊢;have P:=H_ (m_ (i_ w (.cells #[I_ (h:Int),S_ A n cap,I_ v,I_ J] 58)) (.cells #[I_ 0,S_ none 0 0,I_ 0,I_ 0] 58));have K:=H_ (l_ (w.alloc (.cells #[I_ (h:Int),S_ A n cap,I_ v,I_ J] 58)) (.cells #[I_ 0,S_ none 0 0,I_ 0,I_ 0] 58) (w+1) A_);have L:=H_ (a_ (a_ (aP (w) w) (.cells #[I_ (h:Int),S_ A n cap,I_ v,I_ J] 58)) (.cells #[I_ 0,S_ none 0 0,I_ 0,I_ 0] 58));rw [G,hv,F] at k a;clear G hv F hk hS hl ht p
 by_cases o:(iR c i m).2=0
 ·obtain ⟨h1,h2,h3,M⟩:=bz_ o;obtain ⟨j,rfl⟩:=mZ (nR h1).1;have N:=(nR h1).2;have t:=H_ (show eY c j m=(upd c j ((c j).1,uC (c j).2 m),0) by unfold eY;rw [if_pos o,Int.toNat_natCast]);have I:=fun q r y z w' f B=>k j q r y z w' O_ f B;rw [M,Int.toNat_natCast] at a;clear k o h1 h2 h3 M;obtain ⟨y,O⟩:∃y,c j=y:=⟨_,rfl⟩;rw [O] at a t;clear O;go_enter func178,ntmps178
  go_wp2_with (first
   | (go_at_call 210;(with_reducible refine CM (a _ fL) ?_);rintro e w1 ⟨q,r,rfl,g⟩;obtain ⟨u,d,l⟩:=bC P K L g;obtain ⟨x0,x1,x2,x3⟩:=iP u.out;have Y:=n_ u;have Z:=n_ d)
   | (go_at_call 211;(with_reducible refine CM (I _ _ _ _ _ fL (by simp;omega)) ?_);rintro e w2 ⟨h',A',cap',rfl,H,D,E,x⟩;have s:=H_ (h_ (m_ d _) x);have C:=H_ (e_ (a_ l _) x))
   | (refine cZ rfl 58 (.tmp 6) (.tmp 29) rfl rfl (w+1) #[I_ (h':Int),S_ A' (j_ h' (upd c j (y.1,uC y.2 m))).kids.length cap',I_ (j_ h' (upd c j (y.1,uC y.2 m))).val,I_ (j_ h' (upd c j (y.1,uC y.2 m))).marks] rfl rfl 58 _ (s) U_ rfl (aL) ?_))
  show bodyPost prog f178 _ _ _ _
  refine bodyPost_ret (bQ rfl rfl rfl (setRow_heap _ _ _ _ _ _ s)) rfl ?_;rw [t.out];exact ⟨h',A',cap',rfl,H,D,(E.kept (by simp [World.setRow]) (fun z B _=>setRow_other _ _ _ _ B.2)).weak fun _ _ h=>h.1,d_ C.out O_ _⟩
 ·have t:=H_ (show eY c i m=(eH,(iR c i m).2) by unfold eY;rw [if_neg o]);have Q:((iR c i m).2 == 0)=false:=beq_eq_false_iff_ne.2 o;have R:((iR c i m).2 != 0)=true:=bne_iff_ne.2 o;generalize iR c i m=y at a t Q R;clear k o;go_enter func178,ntmps178
  go_wp2_with (first
   | (go_at_call 210;(with_reducible refine CM (a _ fL) ?_);rintro e w1 ⟨q,r,rfl,g⟩;have d:=H_ (m_ (h_ K g) (.cells #[S_ q 0 r,I_ y.1.1,I_ y.1.2] 56));have l:=H_ (a_ (e_ L g) (.cells #[S_ q 0 r,I_ y.1.1,I_ y.1.2] 56)))
   | (refine cZ rfl 58 (.tmp 6) (.tmp 19) rfl rfl (w+1) #[I_ 0,S_ none 0 0,I_ 0,I_ 0] rfl rfl 58 _ (d) U_ rfl (aL) ?_))
  show bodyPost prog f178 _ _ _ _
  refine bodyPost_ret (bQ rfl rfl rfl (setRow_heap _ _ _ _ _ _ d)) rfl ?_;rw [t.out];exact gE.err (d_ l.out O_ _)
theorem gz_ (cap:Nat) (i m:Int) (hl:bF c) (ht:aM h c) (hcap:(j_ h c).kids.length<=cap) (hk:NK w S A (j_ h c).kids) (hS:∀b,w.heap.size<=b->S b) :
  C_ 177 #[nY h A (j_ h c).kids.length cap (j_ h c).val (j_ h c).marks,I_ i,I_ m] w (gE (bZ c i m).1 (bZ c i m).2 S w):=by
 have k:=fun (j:Nat) q r y z w' (N:j<256) (f:s_ w w') (B:w.heap.size+1<w'.heap.size)=>fg_ cap (fun z=>S z/\z≠w.heap.size+1) j q r y z N ht hcap ((hk.weak fun z B h=>⟨h,O_⟩).step f) (fun b U=>⟨hS b (eF f.size O_),O_⟩);have a:=fun w' (f:s_ w w')=>bB_ cap i m hl ht hcap (hk.step f);obtain ⟨n,G⟩:∃n,(j_ h c).kids.length=n:=⟨_,rfl⟩;obtain ⟨v,hv⟩:∃v,(j_ h c).val=v:=⟨_,rfl⟩;obtain ⟨J,F⟩:∃m,(j_ h c).marks=m:=⟨_,rfl⟩;have p:=fun w' (f:s_ w w')=>qH h (j_ h c) cap (eT _ _) hcap (hk.step f);rw [iC hl ht] at p;have X:=H_ ht;have V:=H_ hcap;have W:=H_ (fun w' (f:s_ w w')=>hk.step f);rw [G,hv,F] at p ⊢;have P:=H_ (m_ (i_ w (.cells #[I_ (h:Int),S_ A n cap,I_ v,I_ J] 58)) (.cells #[I_ 0,S_ none 0 0,I_ 0,I_ 0] 58));have K:=H_ (l_ (w.alloc (.cells #[I_ (h:Int),S_ A n cap,I_ v,I_ J] 58)) (.cells #[I_ 0,S_ none 0 0,I_ 0,I_ 0] 58) (w+1) A_);have L:=H_ (a_ (a_ (aP (w) w) (.cells #[I_ (h:Int),S_ A n cap,I_ v,I_ J] 58)) (.cells #[I_ 0,S_ none 0 0,I_ 0,I_ 0] 58));rw [G,hv,F] at k a;clear G hv F hk hS hl ht p
 by_cases o:(iR c i m).2=0
 ·obtain ⟨h1,h2,h3,M⟩:=bz_ o;obtain ⟨j,rfl⟩:=mZ (nR h1).1;have N:=(nR h1).2;have t:=H_ (show bZ c j m=(upd c j ((c j).1,nN (c j).2 m),0) by unfold bZ;rw [if_pos o,Int.toNat_natCast]);have I:=fun q r y z w' f B=>k j q r y z w' O_ f B;rw [M,Int.toNat_natCast] at a;clear k o h1 h2 h3 M;obtain ⟨y,O⟩:∃y,c j=y:=⟨_,rfl⟩;rw [O] at a t;clear O;go_enter func177,ntmps177
  go_wp2_with (first
   | (go_at_call 210;(with_reducible refine CM (a _ fL) ?_);rintro e w1 ⟨q,r,rfl,g⟩;obtain ⟨u,d,l⟩:=bC P K L g;obtain ⟨x0,x1,x2,x3⟩:=iP u.out;have Y:=n_ u;have Z:=n_ d)
   | (go_at_call 211;(with_reducible refine CM (I _ _ _ _ _ fL (by simp;omega)) ?_);rintro e w2 ⟨h',A',cap',rfl,H,D,E,x⟩;have s:=H_ (h_ (m_ d _) x);have C:=H_ (e_ (a_ l _) x))
   | (refine cZ rfl 58 (.tmp 6) (.tmp 29) rfl rfl (w+1) #[I_ (h':Int),S_ A' (j_ h' (upd c j (y.1,nN y.2 m))).kids.length cap',I_ (j_ h' (upd c j (y.1,nN y.2 m))).val,I_ (j_ h' (upd c j (y.1,nN y.2 m))).marks] rfl rfl 58 _ (s) U_ rfl (aL) ?_))
  show bodyPost prog f177 _ _ _ _
  refine bodyPost_ret (bQ rfl rfl rfl (setRow_heap _ _ _ _ _ _ s)) rfl ?_;rw [t.out];exact ⟨h',A',cap',rfl,H,D,(E.kept (by simp [World.setRow]) (fun z B _=>setRow_other _ _ _ _ B.2)).weak fun _ _ h=>h.1,d_ C.out O_ _⟩
 ·have t:=H_ (show bZ c i m=(eH,(iR c i m).2) by unfold bZ;rw [if_neg o]);have Q:((iR c i m).2 == 0)=false:=beq_eq_false_iff_ne.2 o;have R:((iR c i m).2 != 0)=true:=bne_iff_ne.2 o;generalize iR c i m=y at a t Q R;clear k o;go_enter func177,ntmps177
  go_wp2_with (first
   | (go_at_call 210;(with_reducible refine CM (a _ fL) ?_);rintro e w1 ⟨q,r,rfl,g⟩;have d:=H_ (m_ (h_ K g) (.cells #[S_ q 0 r,I_ y.1.1,I_ y.1.2] 56));have l:=H_ (a_ (e_ L g) (.cells #[S_ q 0 r,I_ y.1.1,I_ y.1.2] 56)))
   | (refine cZ rfl 58 (.tmp 6) (.tmp 19) rfl rfl (w+1) #[I_ 0,S_ none 0 0,I_ 0,I_ 0] rfl rfl 58 _ (d) U_ rfl (aL) ?_))
  show bodyPost prog f177 _ _ _ _
  refine bodyPost_ret (bQ rfl rfl rfl (setRow_heap _ _ _ _ _ _ d)) rfl ?_;rw [t.out];exact gE.err (d_ l.out O_ _)
end
section
theorem iY_ (A:Option Addr) (cap:Nat) (v m:Int) (w:World):(Instr.field 56 (lF A 0 cap v m) 1).run prog w = .ok (I_ v) w:=by kernel_rfl
theorem i0_ (cap:Nat) (i:Int) (hl:bF c) (ht:aM h c) (hcap:(j_ h c).kids.length<=cap) (hk:NK w S A (j_ h c).kids) :
  C_ 126 #[nY h A (j_ h c).kids.length cap (j_ h c).val (j_ h c).marks,I_ i] w (sD (J_ c i) w):=by
 have b:=fun (j:Nat) w' (z:j<256) (l:s_ w w')=>dY_ cap j z ht hcap (hk.step l);obtain ⟨n,s⟩:∃n,(j_ h c).kids.length=n:=⟨_,rfl⟩;obtain ⟨v,hv⟩:∃v,(j_ h c).val=v:=⟨_,rfl⟩;obtain ⟨B,r⟩:∃m,(j_ h c).marks=m:=⟨_,rfl⟩;have f:=fun w' (l:s_ w w')=>qH h (j_ h c) cap (eT _ _) hcap (hk.step l);rw [iC hl ht] at f;rw [s,hv,r] at f ⊢;have u:=H_ (i_ w (.cells #[I_ (h:Int),S_ A n cap,I_ v,I_ B] 58));have t:=H_ (a_ (aP (w) w) (.cells #[I_ (h:Int),S_ A n cap,I_ v,I_ B] 58));rw [s,hv,r] at b;clear s hv r hk hl ht;have d:=fun w=>zT i w
 cases hib:kF i with
 | true=>
  rw [hib] at d;obtain ⟨j,rfl⟩:=mZ (nR hib).1;have z:=(nR hib).2;have o:=fun w' l=>b j w' O_ l;have p:=H_ (show J_ c j=(c j).1 by unfold J_;rw [hib,Int.toNat_natCast];rfl);clear b hib;generalize c j=y at o p;have x:=fun A' cap' w=>iY_ A' cap' y.1 y.2 w;go_enter func126,ntmps126
  go_wp2_with (first
   | (go_at_call 181;(with_reducible refine CM (f _ fL) ?_);rintro e w1 ⟨rfl,k⟩;obtain ⟨g,a⟩:=jN u t k;obtain ⟨x0,C,D,E⟩:=iP g.out)
   | (go_at_call 182;(with_reducible refine CM (d _) ?_);rintro e w2 ⟨rfl,rfl⟩)
   | (go_at_call 183;(with_reducible refine CM (o _ a.out) ?_);rintro e w2 ⟨A',cap',rfl,q⟩))
  go_ret;exact ⟨by rw [p.out];rfl,e_ a q⟩
 | false=>
  rw [hib] at d;have p:=H_ (show J_ c i=0 by unfold J_;rw [hib];rfl);clear b hib;go_enter func126,ntmps126
  go_wp2_with (first | (go_at_call 181;(with_reducible refine CM (f _ fL) ?_);rintro e w1 ⟨rfl,k⟩;obtain ⟨g,a⟩:=jN u t k;obtain ⟨x0,C,D,E⟩:=iP g.out) | (go_at_call 182;(with_reducible refine CM (d _) ?_);rintro e w2 ⟨rfl,rfl⟩))
  go_ret;exact ⟨by rw [p.out];rfl,a⟩
end
section
theorem eA_ {sz:Nat} {xs:List Value} (h:w.ownsRow B t sz v n xs):∀g,v.ownBlock=some g->g<w.heap.size:=fun g hg=>(h.lt g hg).2
end
section
theorem b5_:∀(h:Nat) (c:Cn) (A:Option Addr) (cap:Nat) (v:Value) (B:Nat) (L:List En) (base:Nat) (w:World),h<=4->base+4 ^ h<=256->L.length+4 ^ h<=1000->(j_ h c).kids.length<=cap->B<=w.heap.size->NK w (fun z=>v.ownBlock≠some z) A (j_ h c).kids->w.ownsRow B 160 3 v L.length (oH L)->
  C_ 160 #[v,lF A (j_ h c).kids.length cap (j_ h c).val (j_ h c).marks,I_ h,I_ base] w (jB_ B (L ++ aX base (4 ^ h) c) v w):=by
 intro h
 induction h with
 | zero=>
  intro c A cap v B L base w hh F S Q hB hk a;obtain ⟨i0,hi,av,aw,ax⟩:=info_parts kZ;have r:=fun w=>mH A 0 cap (c 0).1 (c 0).2 w;rw [show rS 0 (c 0).1 (c 0).2=(j_ 0 c).emB from rfl,cO,show 4 ^ 0=1 from rfl] at r;rw [show (j_ 0 c).kids.length=0 from rfl,show (j_ 0 c).val=(c 0).1 from rfl,show (j_ 0 c).marks=(c 0).2 from rfl,show 4 ^ 0=1 from rfl];have f:=eA_ a;have HS:=H_ (LS.refl a);have l:=H_ (i_ w (.cells #[S_ A 0 cap,I_ (c 0).1,I_ (c 0).2] 56));have H:=H_ (a_ (aP (w) w) (.cells #[S_ A 0 cap,I_ (c 0).1,I_ (c 0).2] 56))
  cases j:bS 1 c with
  | true=>
   rw [j] at r;have HE:=H_ (kB (base:=base) j);clear j a f;generalize (c 0).1=y at *;generalize (c 0).2=s at *;go_enter func160,ntmps160
   go_wp2_with (go_at_call 204;(with_reducible refine CM (r _) ?_);rintro e w1 ⟨rfl,d⟩;have E:=fC l d;obtain ⟨x0,x1,x2⟩:=cR E.out)
   go_ret;rw [HE.out,List.append_nil]
   exact ⟨v,rfl,(HS.step H.out).step d⟩
  | false=>
   rw [j] at r;have HE:=H_ (tV (base:=base) j);clear j a f;generalize (c 0).1=y at *;generalize (c 0).2=s at *;go_enter func160,ntmps160
   go_wp2_with (first
    | (go_at_call 204;(with_reducible refine CM (r _) ?_);rintro e w1 ⟨rfl,d⟩;have E:=fC l d;have C:=H_ ((HS.step H.out).step d);obtain ⟨x0,x1,x2⟩:=cR E.out;have au:=C.gr.size)
    | (at_builtin;(refine wpList_append_lies _ rfl (.tmp 15) (.tmp 22) 157 rfl B 160 i0 _ 3 24 underlying157 hi av aw ax rfl O_ v L.length (oH L) rfl ((dG C.own (a_ B_ _))) ⟨_,0,none⟩ 1 1 [I_ (base:Int),I_ y,I_ s] rfl rfl (World.news_of_block (l_ _ _ _ (by first | rfl | simp))) (by simp [Value.oneCell']) O_ (by unfold maxLen;omega) O_ (by simp;omega) _ rfl ?_);intro gg dS w4 a4 ao ad az))
   go_ret;rw [HE.out]
   exact ⟨_,rfl,(C.step (a_ B_ _)).snoc a4 ao ad⟩
 | succ h ih=>
  intro c A cap v B L base w hh F S Q hB hk a;obtain ⟨n,j⟩:∃n,(j_ (h+1) c).kids.length=n:=⟨_,rfl⟩;obtain ⟨y,hy⟩:∃v,(j_ (h+1) c).val=v:=⟨_,rfl⟩;obtain ⟨s,hm⟩:∃m,(j_ (h+1) c).marks=m:=⟨_,rfl⟩;have b7:4 ^ h<=64:=show 4 ^ h<=4 ^ 3 from Nat.pow_le_pow_right O_ O_;have b6:1<=4 ^ h:=Nat.pow_pos O_;have V:=H_ (show 4 ^ (h+1)=4*4 ^ h by rw [Nat.pow_succ];omega);rw [j] at Q;have a7:=H_ (show bS (4 ^ (h+1)) c=false->(j_ (h+1) c).kids=aB h c from fun j=>by rw [bJ,j];rfl);have a6:=H_ (show bS (4 ^ (h+1)) c=true->n=0/\aX base (4 ^ (h+1)) c=[] from fun J=>⟨by rw [<-j,dP J];rfl,kB J⟩);have aj:=H_ (fun k=>vS base (4 ^ h) k c);have f:=eA_ a;have X:=H_ (LS.refl (dG a (a_ (aP (w) w) (.cells #[S_ A n cap,I_ y,I_ s] 56))));have Z:=H_ (LS.refl a |>.step (a_ (aP (w) w) (.cells #[S_ A n cap,I_ y,I_ s] 56)));have l:=H_ (i_ w (.cells #[S_ A n cap,I_ y,I_ s] 56));have U:=H_ (hk.alloc (.cells #[S_ A n cap,I_ y,I_ s] 56));have Hn:=H_ j;have r:=fun w=>mH A n cap y s w;rw [show rS n y s=bS (4 ^ (h+1)) c by rw [<-j,<-hy,<-hm];exact cO (h+1) c] at r;rw [V.out] at r;have ar:=fun w=>gT h w O_;rw [j,hy,hm,V.out,show ((h+1:Nat):Int)=(h:Int)+1 by omega];rw [V.out] at F S a7 a6;obtain ⟨b,hb⟩:=bL w.heap.size;have a5:=H_ hb;have ah:v.ownBlock≠some b:=fun e=>by have:=f b e;omega
  rw [<-hb] at l;have ak:=H_ ah;have a3:b<(w.alloc (.cells #[S_ A n cap,I_ y,I_ s] 56)).heap.size:=by simp;omega
  generalize hW0:w.alloc (.cells #[S_ A n cap,I_ y,I_ s] 56)=W0 at X Z l U a3;have P:=H_ hW0;have q4:((h:Int)+1 == 0)=false:=beq_eq_false_iff_ne.2 O_;have q5:=gJ (x:=(h:Int)) O_;generalize hp:4 ^ h=p at *;have Hp:=H_ hp;clear hp;clear j hy hm hk a ah hW0 hb f
  cases J:bS (4*p) c with
  | true=>
   obtain ⟨rfl,hE⟩:=a6.out J;rw [J] at r;have HE:=H_ hE;clear J hE;go_enter func160,ntmps160
   go_wp2_with (go_at_call 204;(with_reducible refine CM (r _) ?_);rintro e w1 ⟨rfl,d⟩)
   go_ret;rw [HE.out,List.append_nil]
   exact ⟨v,rfl,Z.step (by rw [<-P.out];exact d)⟩
  | false=>
   rw [J] at r;have a2:=a7 J;have h4:n=4:=by rw [<-Hn.out,a2,aC]
   subst h4;rw [a2] at U;clear J a2;go_enter func160,ntmps160
   go_upto_region 5 with (go_at_call 204;(with_reducible refine CM (r _) ?_);rintro e w1 ⟨rfl,d⟩;have H:=H_ d)
   go_cut [5,9] (fun s5 s9 wx=>s5 = P_ b/\s9 = I_ 0/\s_ W0 wx)
   case first=>
    go_wp2;go_meet
    case rel=>exact ⟨by rw [a5.out],rfl,by rw [<-P.out];exact H.out⟩
   case rest=>
    obtain ⟨rfl,rfl,d⟩:=hcut;have E:=fC l d;have C:=H_ (X.step d);have ay:=gX a3 d.size;clear q4 l X;go_wp2
    go_loopw [0,9] (fun s0 s9 wx=>∃(k:Nat),k<=4/\s9 = I_ k/\bA wx b #[S_ A 4 cap,I_ y,I_ s] 56/\LS W0 v B (L ++ aX base (k*p) c) s0 wx) (fun _ s9 _=>4 - (intOf s9).toNat)
    case atStart=>exact ⟨0,O_,rfl,E.out,by rw [Nat.zero_mul,qV,List.append_nil];exact C⟩
    case round=>
     obtain ⟨k,b4,rfl,hX,hS⟩:=hrel;have l:=H_ hX;clear hX;have HS:=H_ hS;have N:=hS.nk U;clear hS
     by_cases f:k<4
     ·obtain ⟨b',o,t,A',cap',rfl,b5,a0,M,ab,af,a1,G⟩:=N.at_ (i:=k) (by rw [aC];exact f);rw [dR f,Hp.out] at M;injection M with M
      subst M;have R:=mB base (k*p) c;have ag:k*p+p<=4*p:=by
       have:=Nat.mul_le_mul_right p (show k+1<=4 by omega);rw [Nat.add_mul,Nat.one_mul] at this;exact this
      have u:=H_ (aj k);have D:=HS.out;obtain ⟨q,hq⟩:∃q,k*p=q:=⟨_,rfl⟩;have b2:i64.wrap ((k:Int)*(p:Int))=(q:Int):=by
       rw [<-Int.natCast_mul,hq];exact gJ O_
      have aq:(k:Int)*(p:Int)=(q:Int):=by rw [<-Int.natCast_mul,hq]
      rw [hq] at u D R ag ab af a1 G;obtain ⟨Lk,I⟩:∃Lk,L ++ aX base q c=Lk:=⟨_,rfl⟩;have ap:Lk.length+p<=1000:=by rw [<-I,aL_];omega
      have a9:=H_ (show L ++ aX base ((k+1)*p) c=Lk ++ aX (base+q) p (sh c q) by rw [u.out,<-List.append_assoc,I]);rw [I] at D;have Y:=H_ D;have an:base+q+p<=256:=O_
      have au:=D.gr.size;have ae:=fun w' (hw:B<=w'.heap.size) N a=>ih (sh c q) A' cap' u0 B Lk (base+q) w' O_ an ap a1 hw N a;rw [show (((base+q:Nat)):Int)=(base:Int)+(q:Int) by omega] at ae;have k0:(0:Int)<=(k:Int):=O_
      have k1:(k:Int)<4:=O_
      have k2:(k:Int)<(cap:Int):=O_
      have b0:(0:Int)<=(base:Int)+(q:Int):=O_
      have b1:(base:Int)+(q:Int)<=256:=O_
      obtain ⟨c0,c1,c2⟩:=ab;have O:=H_ G;clear hq I D N G af a1 R ag HS u;generalize (j_ h (sh c q)).kids.length=kn at *;generalize (j_ h (sh c q)).val=kv at *;generalize (j_ h (sh c q)).marks=km at *;obtain ⟨x0,x1,x2⟩:=cR l.out;have lX:=n_ l;have wq:=gJ (x:=(q:Int)) O_;have b8:=gJ (x:=(base:Int)+(q:Int)) O_;have ai:=Y.ne a3 ak
      go_upto_region 8 with fail
      obtain ⟨W,am⟩:=bL wr;subst am;refine aD 15 45 [SP.eq u0,SP.eq (P_ b),SP.eq (S_ (some ⟨b',o,none⟩) 4 cap),SP.eq (I_ k),SP.eq (.pointer (some ⟨b',o+k*3,none⟩)),SP.eq (lF A' kn cap' kv km),SP.eq (I_ ((h:Int)+1)),SP.eq (I_ (h:Int)),SP.eq (I_ base),SP.eq (I_ k),SP.eq (I_ ((h:Int)+1)),SP.eq (I_ (h:Int)),SP.eq (I_ p),SP.eq (I_ q),SP.eq (I_ ((base:Int)+(q:Int)))] q_ q_ rfl ?_;simp only[vG];refine qC fun v0=>qC fun v1=>?_;simp only[ly];refine f_ (fun x g hd K hK=>?_) (fun v2=>?_)
      ·obtain rfl:v1=_:=hd 1 q_;have y0:=(g.cell (p:=⟨b,_,none⟩) lX).trans x0;go_simp;exact hK _ _ g B_ rfl
      simp only[ly];refine qC fun v3=>qC fun v4=>?_;simp only[ly];refine f_ (fun x g hd K hK=>?_) (fun v5=>?_)
      ·obtain rfl:v4=_:=hd 4 q_;have y0:=(g.cell (p:=⟨b',_,none⟩) a0).trans c0;have y1:=(g.cell (p:=⟨b',_,none⟩) a0).trans c1;have y2:=(g.cell (p:=⟨b',_,none⟩) a0).trans c2;go_simp;exact hK _ _ g B_ rfl
      simp only[ly];refine qC fun v6=>qC fun v7=>?_;simp only[ly];refine qC fun v8=>qC fun v9=>?_;simp only[ly];refine qC fun v10=>qC fun v11=>?_;simp only[ly];refine f_ (fun x g hd K hK=>?_) (fun v12=>?_)
      ·obtain rfl:v11=_:=hd 11 q_;go_simp
       go_at_call 205
       refine (ar x).mono ?_;rintro e w1 ⟨rfl,rfl⟩;exact hK _ _ g B_ rfl
      simp only[ly];refine qC fun v13=>qC fun v14=>?_;simp only[ly];refine aK ?_;intro x g hG;have e0:v0=u0:=hG 0 O_;subst e0;obtain rfl:v5=_:=hG 5 O_;obtain rfl:v7=_:=hG 7 O_;obtain rfl:v14=_:=hG 14 O_;have aa:=H_ (Y.step g);have a8:=H_ (O.step g);have al:=fC l g;have b3:=g.size;clear hG g l Y O x0 x1 x2 c0 c1 c2
      go_wp2_with (go_at_call 160;(with_reducible refine CM (ae _ (by have:=a5.out;omega) a8.out aa.out.own) ?_);rintro e w1 ⟨v1,rfl,ac⟩)
      go_roundw
      case rel=>exact ⟨k+1,O_,by go_num,ac.bk al.out ai,by rw [a9.out];exact aa.trans ac⟩
      case measure=>exact bV
     ·obtain rfl:k=4:=O_
      go_wp2;go_ret
      exact ⟨_,rfl,Z.trans HS⟩
end
section
theorem vT (base:Nat) (c:Cn):∀n:Nat,(bS n c=true/\aX base n c=[])\/∃l' j,aX base n c=l' ++ [(((base+j:Nat):Int),(c j).1,(c j).2)]/\j<n/\c j≠(0,0)/\∀i,j<i->i<n->c i=(0,0)
 | 0=> .inl ⟨aZ.2 fun i hi=>by omega,rfl⟩
 | n+1=>by
  have hadd:=tU base n 1 c
  by_cases hc:c n=(0,0)
  ·have h1:aX (base+n) 1 (sh c n)=[]:=kB (aZ.2 fun i hi=>by
    obtain rfl:i=0:=O_
    show c (n+0)=_
    rw [Nat.add_zero];exact hc)
   rw [h1,List.append_nil] at hadd
   rcases vT base c n with ⟨h2,h3⟩ | ⟨l',j,h2,h3,h4,h5⟩
   ·refine .inl ⟨aZ.2 fun i hi=>?_,by rw [hadd,h3]⟩
    rcases Nat.lt_or_ge i n with h | h
    ·exact aZ.1 h2 i h
    ·obtain rfl:i=n:=O_
     exact hc
   ·refine .inr ⟨l',j,by rw [hadd,h2],O_,h4,fun i hi a=>?_⟩
    rcases Nat.lt_or_ge i n with h | h
    ·exact h5 i hi h
    ·obtain rfl:i=n:=O_
     exact hc
  ·have h1:aX (base+n) 1 (sh c n)=[(((base+n:Nat):Int),(c n).1,(c n).2)]:=tV (eN.2 ⟨0,O_,hc⟩);rw [h1] at hadd;exact .inr ⟨_,n,hadd,O_,hc,fun i hi a=>by omega⟩
theorem i1_ (h4:h<=4) (hj:j<4 ^ h):hf j=h↔(h=0\/4 ^ (h - 1)<=j):=by
 unfold hf
 match h,h4 with
 | 0,_=>simp at hj;simp [hj]
 | 1,_=>simp at hj ⊢;(repeat' split) <;> omega
 | 2,_=>simp at hj ⊢;(repeat' split) <;> omega
 | 3,_=>simp at hj ⊢;(repeat' split) <;> omega
 | 4,_=>simp at hj ⊢;(repeat' split) <;> omega
 | h+5,h4=>omega
theorem bn_ {h:Nat} (h4:h<=4) (hl:bF c) (hz:∀i,4 ^ h<=i->c i=(0,0)) :
  (aX 0 (4 ^ h) c=[]/\dL h (j_ h c)=decide (h=0))\/∃(l':List En) (j:Nat) (x y:Int),aX 0 (4 ^ h) c=l' ++ [((j:Int),x,y)]/\j<256/\dL h (j_ h c)=decide (h=hf j):=by
 have k:4 ^ h<=256:=show 4 ^ h<=4 ^ 4 from Nat.pow_le_pow_right O_ h4;have hv:dL h (j_ h c)=(decide (h=0)||gW (j_ h c)):=by
  unfold dL;rw [dT (show 0<=(h:Int)/\(h:Int)<=4 by omega),Int.toNat_natCast,oT h hl];simp
 rw [hv]
 rcases vT 0 c (4 ^ h) with ⟨h1,h2⟩ | ⟨l',j,h2,h3,h4',h5⟩
 ·refine .inl ⟨h2,?_⟩;rw [dP h1];simp [gW,T.nil,T.kids,eG]
 ·refine .inr ⟨l',j,_,_,by rw [h2,Nat.zero_add],O_,?_⟩;rw [Bool.eq_iff_iff,Bool.or_eq_true,decide_eq_true_eq,decide_eq_true_eq,eq_comm (b:=hf j),i1_ h4 h3]
  rcases h with _ | h
  ·simp
  ·rw [mY]
   constructor
   ·rintro (h0 | ⟨i,g,d,f⟩)
    ·omega
    ·refine .inr ?_;apply Classical.byContradiction;intro a;exact f (h5 i (by simp at a;omega) d)
   ·rintro (h0 | h0)
    ·omega
    ·exact .inr ⟨j,by simpa using h0,h3,h4'⟩
def dp_ (l:List En) (w:World) (e:Ending) (w':World):Prop:=∃v,e = .returned v/\w'.ownsRow (w) 160 3 v l.length (oH l)/\s_ w w'
theorem dp_.of {l:List En} (hw:s_ w wx) (h:LS wx (S_ none 0 0) (w) l v w'):dp_ l w (.returned v) w':=
 ⟨v,rfl,h.own,hw.trans ((show s_ wx w' from ⟨h.gr.os,h.gr.tape,h.gr.output,h.gr.size,fun k hk=>h.gr.block k hk (by simp [Value.ownBlock])⟩).mono hw.size)⟩
end
end Go.Proofs.YtehfhnbpnaiogaaGreatDoor
