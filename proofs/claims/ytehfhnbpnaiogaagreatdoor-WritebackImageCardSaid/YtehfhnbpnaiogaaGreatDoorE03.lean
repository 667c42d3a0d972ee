/-
  Lemmas and contracts for the laws of this seat, part 3; several texts joined by a program.
-/
import Derived.Test.YtehfhnbpnaiogaaGreatDoorE02
import Derived.Test.YtehfhnbpnaiogaaGreatDoorE00
import Derived.Outline
namespace Go.Proofs.YtehfhnbpnaiogaaGreatDoor
set_option linter.unusedVariables false
set_option linter.unusedSimpArgs false
set_option maxRecDepth 100000
set_option maxHeartbeats 16000000
open Go.RowKit Go.Proofs.Tryz IntKind
variable {A:Option Addr} {B H b cap g h j n:Nat} {S:Nat->Prop} {W w w' wx wy:World} {a d u v vk x y z:Value} {b' po xo:Obj} {c:Cn} {f:Nat->T} {fn:Func} {fr:Nat × Nat} {i m:Int} {p q:Tmp} {t:TypeId} {tmps:Array Value}
section
theorem tS (ks:List T) (A:Option Addr) (cap:Nat) (v m:Int) (S:Nat->Prop) (w:World) (hn:ks.length<=1000) (hcap:ks.length<=cap) (hk:NK w gL A ks) (hS:∀b,w.heap.size<=b->S b)
  (hkid:∀(i:Nat) (k:T),ks[i]?=some k->∀w',q_ w w'->∀A' cap' S',NK w' gL A' k.kids->k.kids.length<=cap'->(∀b,w'.heap.size<=b->S' b)->C_ 229 #[lG A' k.kids.length cap' k.val k.marks] w' (zH k S' w')) :
  C_ 229 #[lG A ks.length cap v m] w (zH (.mk ks v m) S w):=by
 have HK:=H_ (fun w' (r:q_ w w')=>hk.step r);have Q:=H_ hkid;have V:=H_ hS;clear hk hkid hS;obtain ⟨b,r⟩:=aZ w.heap.size;have n:=H_ r;obtain ⟨i0,af,ah,ai,aj⟩:=info_parts rD;go_enter func229,ntmps229
 go_upto_region 2 with fail
 go_cut [1,2,3] (fun s1 s2 s3 wx=>s1 = P_ b/\s2 = P_ (b+1)/\s3 = S_ A ks.length cap/\aW wx b #[S_ none 0 0,I_ v,I_ m] 56/\aW wx (b+1) #[S_ none 0 0,I_ 0,I_ 0] 56/\q_ w wx)
 case first=>
  go_wp2;go_meet
  case rel=>
   rw [n.out];exact ⟨rfl,rfl,rfl,m_ (g_ _ _) _,l_ _ _ _ z_,b_ (b_ B_ _) _⟩
 case rest=>
  clear r;obtain ⟨rfl,rfl,rfl,O,N,hW⟩:=hcut;obtain ⟨M,D,y⟩:=eT O N hW;clear O N hW;go_wp2
  go_loopw [11] (fun s11 wx=>∃(i:Nat) (u:Value) (xs:List Value),i<=ks.length/\s11 = I_ i/\aW wx b #[u,I_ v,I_ m] 56/\aW wx (b+1) #[S_ none 0 0,I_ 0,I_ 0] 56/\NO wx (b+2) (fun z=>S z/\(z≠b/\z≠b+1)) u (ks.take i) xs/\q_ w wx) (fun s11 _=>ks.length - (intOf s11).toNat)
  case atStart=>exact ⟨0,_,[],O_,rfl,M.out,D.out,NO.nil _ _ _,y.out⟩
  case round=>
   clear M D y;obtain ⟨i,u,xs,hi,rfl,O,N,H,hW⟩:=hrel;obtain ⟨M,D,HN,y⟩:=sP O N H hW;have lb:=p_ O;have ar:=p_ N;have t:=H.1;rw [List.length_take,Nat.min_eq_left hi] at t;have q:=H_ t;clear O N H hW t
   by_cases a6:i<ks.length
   ·have Z:=HK _ y;obtain ⟨b',o,k,A',cap',rfl,_,am,J,ae,a5,ag,a4⟩:=Z.at_ a6;obtain ⟨c0,c1,c2⟩:=ae;have a2:=fun w' (r:q_ wr w')=>Q i k J w' (d_ y r) A' cap' (fun z=>(S z/\(z≠b/\z≠b+1))/\u.ownBlock≠some z) (a4.step r) ag (fun z j=>⟨⟨V z (by have:=y.size;have:=r.size;omega),by have:=r.size;omega,by have:=r.size;omega⟩,fun e=>by have:=(q.lt z e).2;have:=r.size;omega⟩);have ac:=H_ J;have ao:(0:Int)<=(i:Int):=O_
    have ap:(i:Int)<(ks.length:Int):=O_
    have ad:=H_ a5;clear Z J a4 a5
    go_upto_region 6 with fail
    have f:=H_ ((aI (wr) wr).alloc (aQ _) (.cells #[S_ A' k.kids.length cap',I_ k.val,I_ k.marks] 56));have j:=g_ wr (.cells #[S_ A' k.kids.length cap',I_ k.val,I_ k.marks] 56);generalize wr.alloc _=W at f j ⊢;have E:=H_ (i_ M f.out);have U:=H_ (i_ D f.out);have R:=H_ (HN.step f.out);have X:=H_ (d_ y f.out);have aq:=f.out.size;have ak:b<W.heap.size:=O_
    have lz:=p_ j;have y0:=a_ j 0;have y1:=a_ j 1;have y2:=a_ j 2;have x0:=a_ E 0;simp only[zl] at x0 y0 y1 y2;clear M D HN y j;refine T_ 5 24 [SP.eq (P_ b),SP.eq u,SP.eq (lG A' k.kids.length cap' k.val k.marks),SP.nt (fun z=>(S z/\(z≠b/\z≠b+1))/\u.ownBlock≠some z) k,SP.nb (fun z=>(S z/\(z≠b/\z≠b+1))/\u.ownBlock≠some z) k] s_ s_ rfl ?_;simp only[vK];refine qC fun v0=>?_;simp only[ly];refine e_ (fun x d P K G=>?_) (fun v1=>?_)
    ·obtain rfl:v0=_:=P 0 s_;have q0:=(d.cell (p:=⟨b,_,none⟩) ak).trans x0;go_simp;exact G _ _ d B_ rfl
    simp only[ly];refine e_ (fun x d P K G=>?_) (fun v2=>?_)
    ·have q0:=(d.cell (p:=⟨wr,_,none⟩) lz).trans y0;have q1:=(d.cell (p:=⟨wr,_,none⟩) lz).trans y1;have q2:=(d.cell (p:=⟨wr,_,none⟩) lz).trans y2;go_simp;exact G _ _ d B_ rfl
    simp only[ly];refine e_ (fun x d P K G=>?_) (fun v3=>?_)
    ·obtain rfl:v2=_:=P 2 s_;go_simp
     go_at_call 229
     refine (a2 x (d_ f.out d)).mono ?_;rintro e w1 ⟨C,a,rfl,s,l,a1⟩;exact G _ _ (d_ d a1) a1 ⟨C,a,rfl,s,l⟩
    simp only[ly];refine e_ (fun x d P K G=>?_) (fun v4=>?_)
    ·obtain ⟨C,a,rfl,s,l⟩:=P 3 s_;go_simp;exact G _ _ (b_ d _) (B_.alloc (aQ _) _) ⟨_,C,a,rfl,heap_alloc_new _ _,s,l.alloc _⟩
    simp only[ly];refine aA ?_;intro x d hG;obtain rfl:u=v1:=(hG 1 O_).symm;obtain ⟨g,C,a,e4,h4,s,l⟩:=hG 4 O_;obtain rfl:v4=_:=e4;obtain ⟨ab,aa⟩:=kk_ E U d;have a9:=H_ (R.step d);have Y:=lU X d;have a7:=H_ l;have an:=d.size;have c:=H_ (show x.ownsRow (b+2) 56 3 u i xs from dA (dA q f.out) d);clear hG E U R X y0 y1 y2 x0 c0 c1 c2 a2 l d
    go_wp2_with (at_builtin;(refine wpList_append_lies _ rfl (.tmp 16) (.tmp 19) 54 rfl (b+2) 56 i0 _ 3 40 underlying54 af ah ai aj rfl O_ u i xs rfl c.out ⟨g,0,none⟩ 1 1 [S_ C k.kids.length a,I_ k.val,I_ k.marks] rfl rfl (World.news_of_block h4) (by simp [Value.oneCell']) O_ (by unfold maxLen;omega) O_ O_ _ rfl ?_);intro gg dU w4 L B a0 al;have F:=H_ ((B.block b O_ (fun e=>by have:=(c.lt b e.symm).1;omega)).trans ab.out);have f0:=t_ F 0;have x0:=a_ F 0;simp only[List.getElem?_toArray,List.getElem?_cons_zero] at x0)
    go_roundw
    case rel=>
     refine ⟨i+1,S_ (some ⟨gg,0,none⟩) (i+1) dU,xs ++ [S_ C k.kids.length a,I_ k.val,I_ k.marks],O_,by go_num,by simpa using R_ (i:=0) F.out _,?_,?_,?_⟩
     ·refine aM ((B.block (b+1) O_ (fun e=>by have:=(c.lt (b+1) e.symm).1;omega)).trans aa.out) _ _ z_
     ·rw [List.take_add_one,ac.out,Option.toList_some];refine NO.set (a9.snoc k C a ad.out s a7.out (by rw [List.length_take,Nat.min_eq_left hi];exact L) B a0) _ _ z_ z_
     ·exact (Y.grown B Y.size (fun z j=>by have:=(c.lt z j).1;have:=n.out;omega)).setCell (by simp only;have:=n.out;omega) _
    case measure=>exact bH
   ·obtain rfl:i=ks.length:=O_
    have H:=HN.out;rw [List.take_length] at H;obtain ⟨A4,dU,rfl,I,a3⟩:=H.nk (S':=fun z=>S z/\(z≠b/\z≠b+1)) (fun z j=>j) (fun z j=>⟨V.out z (by have:=n.out;omega),O_⟩);have a8:=H_ a3;clear H HN q a3;obtain ⟨x0,x1,x2⟩:=cL M.out
    go_wp2_with (refine cV rfl 56 (.tmp 2) (.tmp 23) rfl rfl (b+1) #[S_ A4 ks.length dU,I_ v,I_ m] rfl rfl 56 _ (D) V_ rfl (aN) ?_)
    show bodyPost prog f229 _ _ _ _
    refine bodyPost_ret (cZ rfl rfl (setRow_heap _ _ _ _ _ _ D.out)) rfl ⟨A4,dU,rfl,I,(a8.kept (by simp [World.setRow]) (fun z j a6=>setRow_other _ _ _ _ j.2.2)).weak fun z _ j=>j.1,j_ y.out (by rw [n.out];omega) _⟩
def dep:Nat->T->Prop
 | 0,t=>t.kids=[]
 | h+1,t=>t.kids.length<=1000/\∀(i:Nat) (k:T),t.kids[i]?=some k->dep h k
theorem tX:∀(h:Nat) (c:Cn),dep h (f_ h c)
 | 0,c=>rfl
 | h+1,c=>by
  refine ⟨dO (bW_ _ _) O_,fun i k hi=>?_⟩;rw [bE] at hi
  split at hi
  ·simp [T.nil,T.kids] at hi
  ·have hl:i<4:=by
    have:=bK hi
    simpa [T.kids,Q_] using this
   rw [show (T.mk (N_ h c) 0 (kS (N_ h c))).kids=N_ h c from rfl,dN hl] at hi;injection hi with hi
   subst hi;exact tX h _
theorem bZ_:∀(h:Nat) (t:T),dep h t->∀(A:Option Addr) (cap:Nat) (S:Nat->Prop) (w:World),t.kids.length<=cap->NK w gL A t.kids->(∀b,w.heap.size<=b->S b)->
  C_ 229 #[lG A t.kids.length cap t.val t.marks] w (zH t S w)
 | 0,.mk ks v m,hd,A,cap,S,w,hcap,hk,hS=>tS ks A cap v m S w (by have:ks=[]:=hd;rw [this];simp) hcap hk hS (fun i k hi=>by have:ks=[]:=hd;rw [this] at hi;simp at hi)
 | h+1,.mk ks v m,hd,A,cap,S,w,hcap,hk,hS=>tS ks A cap v m S w hd.1 hcap hk hS (fun i k hi w' hb A' cap' S' hk' hc' hS'=>bZ_ h k (hd.2 i k hi) A' cap' S' w' hc' hk' hS')
end
section
theorem iU_ {h i k:Nat} {c:Cn} {y:Int × Int} (hk:k<4):f_ h (sh (upd c (i % 4 ^ (h+1)) y) (k*4 ^ h))=if k=i / 4 ^ h % 4 then f_ h (upd (sh c (k*4 ^ h)) (i % 4 ^ h) y) else f_ h (sh c (k*4 ^ h)):=by
 have m:i % 4 ^ (h+1)=i / 4 ^ h % 4*4 ^ h+i % 4 ^ h:=by
  rw [Nat.mod_pow_succ,Nat.add_comm,Nat.mul_comm]
 have h0:i % 4 ^ h<4 ^ h:=Nat.mod_lt _ (Nat.pow_pos O_);have l:i / 4 ^ h % 4<4:=Nat.mod_lt _ O_;rw [m];generalize i / 4 ^ h % 4=d at l ⊢;generalize i % 4 ^ h=r at h0 ⊢;have b:∀j,j<4 ^ h->(k*4 ^ h+j=d*4 ^ h+r↔k=d/\j=r):=fun j a=>by
  constructor
  ·intro e;have h1:k=d:=by
    have f:(k*4 ^ h+j) / 4 ^ h=k:=by rw [Nat.add_comm,Nat.add_mul_div_right _ _ O_,Nat.div_eq_of_lt a,Nat.zero_add]
    have g:(d*4 ^ h+r) / 4 ^ h=d:=by rw [Nat.add_comm,Nat.add_mul_div_right _ _ O_,Nat.div_eq_of_lt h0,Nat.zero_add]
    rw [<-f,e,g]
   subst h1;exact ⟨rfl,O_⟩
  ·rintro ⟨rfl,rfl⟩
   rfl
 split
 ·next e=>
  subst e;refine lZ h fun j a=>?_;simp only[sh,upd,b j a,true_and]
 ·next e=>
  refine lZ h fun j a=>?_;simp only[sh,upd,b j a];rw [if_neg (fun h=>e h.1)]
def mid (h:Nat) (c c':Cn) (k:Nat) (j:Nat):T:=if j<k then f_ h (sh c' (j*4 ^ h)) else if j=k then f_ h (sh c (j*4 ^ h)) else .nil
theorem bm_ (h:Nat) (c:Cn):(List.range 4).map (fun j=>f_ h (sh c (j*4 ^ h)))=N_ h c:=rfl
theorem eF_ (h:Nat) (c:Cn) (A:Option Addr) (cap:Nat):(bP (4 ^ (h+1)) c=true/\vP A cap (N_ h c)=lG none 0 0 0 0/\f_ (h+1) c = .nil)\/(bP (4 ^ (h+1)) c=false/\vP A cap (N_ h c)=lG A 4 cap 0 (kS (N_ h c))/\f_ (h+1) c = .mk (N_ h c) 0 (kS (N_ h c))):=by
 unfold vP;rw [lI,bE]
 cases bP (4 ^ (h+1)) c
 ·exact .inr ⟨rfl,rfl,rfl⟩
 ·exact .inl ⟨rfl,rfl,rfl⟩
theorem aw_ {c':Cn} (k:Nat):∀j,j<4->(if j=k then f_ h (sh c' (k*4 ^ h)) else mid h c c' k j)=if j<k+1 then f_ h (sh c' (j*4 ^ h)) else .nil:=by
 intro j _;unfold mid
 by_cases e:j=k
 ·subst e;simp
 ·by_cases e2:j<k
  ·simp [e,e2,show j<k+1 by omega]
  ·simp [e,e2,show ¬j<k+1 by omega]
structure PS (W:World) (b:Nat) (a b' c d:Obj) (S:Nat->Prop) (f:Nat->T) (w:World):Prop where
 h0:w.heap[b]?=some a
 h1:w.heap[b+1]?=some b'
 h2:w.heap[b+2]?=some c
 h3:w.heap[b+3]?=some d
 kr:KR w (b+4) (fun z=>S z/\z≠b+3/\z≠b+4) f
 below:q_ W w
theorem PS.step {a c d:Obj} (h:PS W b a b' c d S f w) (hb:q_ w w'):PS W b a b' c d S f w':=
 ⟨i_ h.h0 hb,i_ h.h1 hb,i_ h.h2 hb,i_ h.h3 hb,h.kr.step hb,d_ h.below hb⟩
theorem PS.congr {a c d:Obj} {f f':Nat->T} (h:PS W b a b' c d S f w) (hf:∀i,i<4->f i=f' i):PS W b a b' c d S f' w:={h with kr:=h.kr.congr hf}
theorem PS.set {a b' c d:Obj} (h:PS W b a b' c d S f w) (hW:W<=b) (hj:j<4) (A:Option Addr) (cap:Nat) (t:T) (h1:t.kids.length<=maxLen) (h2:t.kids.length<=cap) (hk:NK w (fun z=>S z/\z≠b+3/\z≠b+4) A t.kids) :
  PS W b a b' c d S (fun i=>if i=j then t else f i) (w.setCells (b+4) (j*3) [S_ A t.kids.length cap,I_ t.val,I_ t.marks]):=
 ⟨(u_ _ _ _ w b O_).trans h.h0,(u_ _ _ _ w (b+1) O_).trans h.h1,(u_ _ _ _ w (b+2) O_).trans h.h2,(u_ _ _ _ w (b+3) O_).trans h.h3,
  h.kr.set (fun h=>h.2.2 rfl) hj A cap t h1 h2 hk,aS h.below O_ _ _⟩
theorem jY_:∀(h:Nat) (c:Cn) (A:Option Addr) (cap:Nat) (S:Nat->Prop) (i:Nat) (xa:Option Addr) (xcap:Nat) (x m:Int) (w:World),h<=4->i<256->(f_ h c).kids.length<=cap->NK w S A (f_ h c).kids->(∀b,w.heap.size<=b->S b)->
  C_ 225 #[lG A (f_ h c).kids.length cap (f_ h c).val (f_ h c).marks,I_ h,pQ i,lG xa 0 xcap x m] w (zH (f_ h (upd c (i % 4 ^ h) (x,m))) S w):=by
 intro h
 induction h with
 | zero=>
  intro c A cap S i xa xcap x m w hh hi I hk hS;unfold pQ;obtain ⟨n,D⟩:∃n,(f_ 0 c).kids.length=n:=⟨_,rfl⟩;obtain ⟨v,hv⟩:∃v,(f_ 0 c).val=v:=⟨_,rfl⟩;obtain ⟨mm,hm⟩:∃m,(f_ 0 c).marks=m:=⟨_,rfl⟩;rw [D,hv,hm];clear D hv hm hk I;have hR:=l_ (((w.alloc (.cells #[S_ A n cap,I_ v,I_ mm] 56)).alloc (.cells #[I_ ((i / 4 / 4 / 4 % 4:Nat):Int),I_ ((i / 4 / 4 % 4:Nat):Int),I_ ((i / 4 % 4:Nat):Int),I_ ((i % 4:Nat):Int)] 249)).alloc (.cells #[S_ xa 0 xcap,I_ x,I_ m] 56)) (.cells #[S_ none 0 0,I_ 0,I_ 0] 56) (w+1+1+1) z_;have HU:=H_ (show f_ 0 (upd c (i % 4 ^ 0) (x,m)) = .mk [] x m by simp [f_,upd,Nat.mod_one]);go_enter func225,ntmps225
  go_wp2_with (refine cV rfl 56 (.tmp 8) (.tmp 13) rfl rfl (w+1+1+1) #[S_ xa 0 xcap,I_ x,I_ m] rfl rfl 56 _ (hR) V_ rfl (aN) ?_)
  show bodyPost prog f225 _ _ _ _
  refine bodyPost_ret (cZ rfl rfl (setRow_heap _ _ _ _ _ _ hR)) rfl ?_;rw [HU.out];exact ⟨xa,xcap,rfl,Nat.zero_le _,.nil _,j_ (b_ (b_ (b_ (b_ B_ _) _) _) _) O_ _⟩
 | succ h ih=>
  intro c A cap S i xa xcap x m w hh hi I hk hS;obtain ⟨b,B⟩:=aZ w.heap.size;have s:=H_ B;have em:=fun w=>fK A (f_ (h+1) c).kids.length cap (f_ (h+1) c).val (f_ (h+1) c).marks w;rw [show rP (f_ (h+1) c).kids.length (f_ (h+1) c).val (f_ (h+1) c).marks=(f_ (h+1) c).emB from rfl] at em;have HF:=H_ (fun k hk=>iU_ (h:=h) (i:=i) (k:=k) (c:=c) (y:=(x,m)) hk);have HI:=H_ (fun A cap=>eF_ h (upd c (i % 4 ^ (h+1)) (x,m)) A cap);have HE:=H_ (cH (h+1) c);have ai:=H_ (show bP (4 ^ (h+1)) c=false->(f_ (h+1) c).kids=N_ h c from fun D=>by rw [bE,D];rfl);have ah:=H_ (fun w' (B:q_ w w')=>(hk.weak (S':=fun z=>S z/\z≠b+3/\z≠b+4) fun z N h=>⟨h,O_,O_⟩).step B);have Y:=H_ (fun w b B=>co_ (w:=w) (b:=b) (h:=h) hi B O_);have hp:=fun c A cap S w=>ih c A cap S i xa xcap x m w O_ hi;have Z:=H_ hS;obtain ⟨n,D⟩:∃n,(f_ (h+1) c).kids.length=n:=⟨_,rfl⟩;obtain ⟨v,hv⟩:∃v,(f_ (h+1) c).val=v:=⟨_,rfl⟩;obtain ⟨mm,hm⟩:∃m,(f_ (h+1) c).marks=m:=⟨_,rfl⟩;rw [D,hv,hm] at em;rw [D] at I;rw [D,hv,hm,show ((h+1:Nat):Int)=(h:Int)+1 by omega];have Hn:=H_ D;unfold pQ at hp ⊢;obtain ⟨p0,ac⟩:∃p:Int,((i / 4 / 4 / 4 % 4:Nat):Int)=p:=⟨_,rfl⟩;obtain ⟨p1,ad⟩:∃p:Int,((i / 4 / 4 % 4:Nat):Int)=p:=⟨_,rfl⟩;obtain ⟨p2,ae⟩:∃p:Int,((i / 4 % 4:Nat):Int)=p:=⟨_,rfl⟩;obtain ⟨p3,af⟩:∃p:Int,((i % 4:Nat):Int)=p:=⟨_,rfl⟩;rw [ac,ad,ae,af] at hp Y ⊢;have d0:i / 4 ^ h % 4<4:=Nat.mod_lt _ O_;generalize upd c (i % 4 ^ (h+1)) (x,m)=c2 at HF HI ⊢;generalize i / 4 ^ h % 4=d at HF Y d0;have aq:((h:Int)+1 == 0)=false:=beq_eq_false_iff_ne.2 O_;have ap:∀w,(Instr.makeSlice 54 (I_ 4) (I_ 4)).run prog w = .ok (S_ (some ⟨w,0,none⟩) 4 4) (w.alloc (.cells #[S_ none 0 0,I_ 0,I_ 0,S_ none 0 0,I_ 0,I_ 0,S_ none 0 0,I_ 0,I_ 0,S_ none 0 0,I_ 0,I_ 0] 56)):=fun _=>by kernel_rfl
  clear D hv hm ac ad ae af hk hS ih B;go_enter func225,ntmps225
  go_upto_region 3 with fail
  go_cut [4,6,7,8,9] (fun s4 s6 s7 s8 s9 wx=>s4 = P_ b/\s6 = P_ (b+1)/\s7 = P_ (b+2)/\s8 = P_ (b+3)/\s9 = S_ (some ⟨b+4,0,none⟩) 4 4/\PS w b (.cells #[S_ A n cap,I_ v,I_ mm] 56 (0,0)) (.cells #[I_ p0,I_ p1,I_ p2,I_ p3] 249 (0,0)) (.cells #[S_ xa 0 xcap,I_ x,I_ m] 56 (0,0)) (.cells #[S_ none 0 0,I_ 0,I_ 0] 56 (0,0)) S (fun _=> .nil) wx)
  case first=>
   go_wp2;go_meet
   case rel=>
    rw [s.out];exact ⟨rfl,rfl,rfl,rfl,rfl,m_ (m_ (m_ (m_ (g_ _ _) _) _) _) _,m_ (m_ (m_ (l_ _ _ _ z_) _) _) _,m_ (m_ (l_ _ _ _ z_) _) _,m_ (l_ _ _ _ z_) _,
     KR.new (l_ _ _ _ z_),b_ (b_ (b_ (b_ (b_ B_ _) _) _) _) _⟩
  case rest=>
   clear aq ap;obtain ⟨rfl,rfl,rfl,rfl,rfl,u⟩:=hcut;have a:=H_ u;clear u;go_wp2
   go_loopw [17] (fun s17 wx=>∃k:Nat,k<=4/\s17 = I_ k/\PS w b (.cells #[S_ A n cap,I_ v,I_ mm] 56 (0,0)) (.cells #[I_ p0,I_ p1,I_ p2,I_ p3] 249 (0,0)) (.cells #[S_ xa 0 xcap,I_ x,I_ m] 56 (0,0)) (.cells #[S_ none 0 0,I_ 0,I_ 0] 56 (0,0)) S (fun j=>if j<k then f_ h (sh c2 (j*4 ^ h)) else .nil) wx) (fun s17 _=>4 - (intOf s17).toNat)
   case atStart=>exact ⟨0,O_,rfl,a.congr (fun i _=>by simp)⟩
   case round=>
    clear a;obtain ⟨k,au,rfl,u⟩:=hrel;have a:=H_ u;clear u
    by_cases g:k<4
    ·have k1:(k:Int)<4:=O_
     have k0:(0:Int)<=(k:Int):=O_
     go_upto_region 7 with fail
     go_cut [22] (fun s22 wx=>s22 = .bool (!(f_ (h+1) c).emB)/\PS w b (.cells #[S_ A n cap,I_ v,I_ mm] 56 (0,0)) (.cells #[I_ p0,I_ p1,I_ p2,I_ p3] 249 (0,0)) (.cells #[S_ xa 0 xcap,I_ x,I_ m] 56 (0,0)) (.cells #[S_ none 0 0,I_ 0,I_ 0] 56 (0,0)) S (fun j=>if j<k then f_ h (sh c2 (j*4 ^ h)) else .nil) wx)
     case first=>
      obtain ⟨x0,x1,x2⟩:=cL a.h0
      go_wp2_with (go_at_call 217;(with_reducible refine CM (em _) ?_);rintro e w1 ⟨rfl,q⟩)
      go_meet
      case rel=>exact ⟨rfl,a.step q⟩
     case rest=>
      clear a em;obtain ⟨rfl,u⟩:=hcut;have a:=H_ u;clear u;rw [HE.out]
      go_upto_if 22 with fail
      go_cut [] (fun wx=>PS w b (.cells #[S_ A n cap,I_ v,I_ mm] 56 (0,0)) (.cells #[I_ p0,I_ p1,I_ p2,I_ p3] 249 (0,0)) (.cells #[S_ xa 0 xcap,I_ x,I_ m] 56 (0,0)) (.cells #[S_ none 0 0,I_ 0,I_ 0] 56 (0,0)) S (mid h c c2 k) wx)
      case first=>
       cases D:bP (4 ^ (h+1)) c with
       | true=>
        have HN:=H_ (dL (rE.1 D k g));clear D;go_wp2;go_meet
        case rel=>exact a.congr (fun j _=>by
         unfold mid
         split
         ·rfl
         ·split
          ·next e=>subst e;exact HN.symm
          ·rfl)
       | false=>
        have a2:=ai D;have h4:n=4:=by rw [<-Hn.out,a2,Q_]
        have E:=ah _ a.below;rw [a2] at E;obtain ⟨b',o,t,A',cap',rfl,_,ar,L,al,aa,ao,Q⟩:=E.at_ (i:=k) (by rw [Q_];exact g);rw [dN g] at L;injection L with L
        subst L;obtain ⟨c0,c1,J⟩:=al;have aj:=H_ aa;have ak:=H_ Q;clear E a2 D Q aa;subst h4;obtain ⟨x0,x1,x2⟩:=cL a.h0
        go_wp2_with (refine pF rfl 56 (.tmp 30) (.tmp 29) rfl (b+4) (k*3) #[S_ A' (f_ h (sh c (k*4 ^ h))).kids.length cap',I_ (f_ h (sh c (k*4 ^ h))).val,I_ (f_ h (sh c (k*4 ^ h))).marks] rfl rfl (a.kr.there g) V_ (aN) ?_)
        go_meet
        case rel=>
         refine (a.set (Nat.le_of_eq s.symm) g A' cap' (f_ h (sh c (k*4 ^ h))) aj ao ak).congr fun j _=>?_;unfold mid
         by_cases e:j=k
         ·subst e;simp
         ·simp [e]
      case rest=>
       clear a;have u:=hcut;have a:=H_ u;have ag:=Y _ _ u.h1;have av:=u.below.size;have a5:=u.kr.2.1;obtain ⟨A1,G,c0,c1,J,ab,a0,a1⟩:=u.kr.at_ g;rw [show mid h c c2 k k=f_ h (sh c (k*4 ^ h)) by unfold mid;simp] at c0 c1 J ab a0 a1;have a9:=H_ a1;have a8:=H_ a0;have a6:=H_ (HF k g);have q1:i64.wrap (4 - ((h:Int)+1))=((4 - (h+1):Nat):Int):=by rw [fA O_];omega
       have q2:((4 - (h+1):Nat):Int)<4:=O_
       have q3:(0:Int)<=((4 - (h+1):Nat):Int):=O_
       have q4:=fA (x:=(h:Int)) O_;obtain ⟨W,am⟩:=aZ wc;subst am;clear hcut u a1 a0 ab;generalize 4 - (h+1)=jj at ag q1 q2 q3
       by_cases e:k=d
       ·subst e;have F:=H_ (show f_ h (sh c2 (k*4 ^ h))=f_ h (upd (sh c (k*4 ^ h)) (i % 4 ^ h) (x,m)) by rw [a6.out,if_pos rfl]);have a3:=fun x' (B:q_ W x')=>hp (sh c (k*4 ^ h)) A1 G (fun z=>S z/\z≠b+3/\z≠b+4) x' a8.out (a9.step B) (fun z N=>⟨Z.out z (by have:=s.out;have:=B.size;omega),by have:=B.size;omega,by have:=B.size;omega⟩);rw [<-F.out] at a3
        go_upto_region 10 with fail
        obtain ⟨x0,x1,x2⟩:=cL a.h2;have z0:=a_ a.h1 0;have z1:=a_ a.h1 1;have z2:=a_ a.h1 2;have z3:=a_ a.h1 3;have O:=p_ a.h1;have a4:=p_ a.h2;simp only[zl] at z0 z1 z2 z3;refine T_ 12 60 [SP.eq (S_ (some ⟨b+4,0,none⟩) 4 4),SP.eq (I_ k),SP.eq (S_ (some ⟨b+4,0,none⟩) 4 4),SP.eq (I_ k),SP.eq (.pointer (some ⟨b+4,k*3,none⟩)),SP.eq (lG A1 (f_ h (sh c (k*4 ^ h))).kids.length G (f_ h (sh c (k*4 ^ h))).val (f_ h (sh c (k*4 ^ h))).marks),SP.eq (I_ ((h:Int)+1)),SP.eq (I_ (h:Int)),SP.eq (.agg #[I_ p0,I_ p1,I_ p2,I_ p3]),SP.eq (lG xa 0 xcap x m),SP.nt (fun z=>S z/\z≠b+3/\z≠b+4) (f_ h (sh c2 (k*4 ^ h))),SP.eq (.pointer (some ⟨b+4,k*3,none⟩))] s_ s_ rfl ?_;simp only[vK];refine qC fun v0=>qC fun v1=>?_;simp only[ly];refine qC fun v2=>qC fun v3=>qC fun v4=>?_;simp only[ly];refine e_ (fun x' r P K hK=>?_) (fun v5=>?_)
        ·obtain rfl:v4=_:=P 4 s_;have y0:=(r.cell (p:=⟨b+4,_,none⟩) a5).trans c0;have y1:=(r.cell (p:=⟨b+4,_,none⟩) a5).trans c1;have y2:=(r.cell (p:=⟨b+4,_,none⟩) a5).trans J;go_simp;exact hK _ _ r B_ rfl
        simp only[ly];refine qC fun v6=>qC fun v7=>?_;simp only[ly];refine e_ (fun x' r P K hK=>?_) (fun v8=>?_)
        ·have y0:=(r.cell (p:=⟨b+1,_,none⟩) O).trans z0;have y1:=(r.cell (p:=⟨b+1,_,none⟩) O).trans z1;have y2:=(r.cell (p:=⟨b+1,_,none⟩) O).trans z2;have y3:=(r.cell (p:=⟨b+1,_,none⟩) O).trans z3;go_simp;exact hK _ _ r B_ rfl
        simp only[ly];refine e_ (fun x' r P K hK=>?_) (fun v9=>?_)
        ·have y0:=(r.cell (p:=⟨b+2,_,none⟩) a4).trans x0;have y1:=(r.cell (p:=⟨b+2,_,none⟩) a4).trans x1;have y2:=(r.cell (p:=⟨b+2,_,none⟩) a4).trans x2;go_simp;exact hK _ _ r B_ rfl
        simp only[ly];refine e_ (fun x' r P K hK=>?_) (fun v10=>?_)
        ·obtain rfl:v5=_:=P 5 s_;obtain rfl:v7=_:=P 7 s_;obtain rfl:v8=_:=P 8 s_;obtain rfl:v9=_:=P 9 s_;go_simp
         go_at_call 225
         refine (a3 x' r).mono ?_;rintro e w1 ⟨R,l,rfl,H,C,q⟩;exact hK _ _ (d_ r q) q ⟨R,l,rfl,H,C⟩
        simp only[ly];refine qC fun v11=>?_;simp only[ly];refine aA ?_;intro x' r hG;obtain ⟨R,l,e4,H,C⟩:=hG 10 O_;obtain rfl:v10=_:=e4;obtain rfl:v11=_:=hG 11 O_;have f:=H_ (a.step r);have V:=H_ C;clear hG a C x0 x1 x2 z0 z1 z2 z3 c0 c1 J ag a3 r
        go_wp2_with (refine pF rfl 56 (.tmp 48) (.tmp 47) rfl (b+4) (k*3) #[S_ R (f_ h (sh c2 (k*4 ^ h))).kids.length l,I_ (f_ h (sh c2 (k*4 ^ h))).val,I_ (f_ h (sh c2 (k*4 ^ h))).marks] rfl rfl (f.kr.there g) V_ (aN) ?_)
        go_roundw
        case rel=>exact ⟨k+1,O_,by go_num,(f.out.set (Nat.le_of_eq s.out.symm) g R l _ (eA _ _) H V.out).congr (aw_ k)⟩
        case measure=>exact bH
       ·have e1:((k:Int) == (d:Int))=false:=beq_eq_false_iff_ne.2 O_;have e2:(k == d)=false:=beq_eq_false_iff_ne.2 e;have e3:decide (k=d)=false:=dF e;have F:=H_ (show f_ h (sh c2 (k*4 ^ h))=f_ h (sh c (k*4 ^ h)) by rw [a6.out,if_neg e]);have an:=fun x' (B:q_ W x')=>bZ_ h (f_ h (sh c (k*4 ^ h))) (tX _ _) A1 G (fun z=>S z/\z≠b+3/\z≠b+4) x' a8.out ((a9.step B).weak fun _ _ _=>trivial) (fun z N=>⟨Z.out z (by have:=s.out;have:=B.size;omega),by have:=B.size;omega,by have:=B.size;omega⟩);clear e
        go_wp2_with (first
         | (go_at_call 229;(with_reducible refine CM (an _ B_) ?_);rintro e w1 ⟨R,l,rfl,H,C,q⟩;have f:=H_ (a.step q);have V:=H_ C;clear C)
         | (refine pF rfl 56 (.tmp 56) (.tmp 55) rfl (b+4) (k*3) #[S_ R (f_ h (sh c (k*4 ^ h))).kids.length l,I_ (f_ h (sh c (k*4 ^ h))).val,I_ (f_ h (sh c (k*4 ^ h))).marks] rfl rfl (f.kr.there g) V_ (aN) ?_))
        go_roundw
        case rel=>exact ⟨k+1,O_,by go_num,((f.out.set (Nat.le_of_eq s.out.symm) g R l _ (eA _ _) H V.out).congr (by rw [<-F.out];exact aw_ k))⟩
        case measure=>exact bH
    ·obtain rfl:k=4:=O_
     have u:=a.out;have E:=(u.kr.congr (f':=fun j=>f_ h (sh c2 (j*4 ^ h))) fun j hj=>by simp [hj]).nk (S':=fun z=>S z/\z≠b+3) ⟨Z.out _ (by have:=s.out;omega),O_⟩ (fun z N=>⟨N.1,N.2.1⟩);rw [bm_] at E;have X:=H_ E;have M:=fun w' (B:NK w' (fun z=>S z/\z≠b+3) (some ⟨b+4,0,none⟩) (N_ h c2))=>uJ 4 _ (Q_ _ _) O_ B;clear u E
     rcases HI.out (some ⟨b+4,0,none⟩) 4 with ⟨g0,g1,g2⟩ | ⟨g0,g1,g2⟩
     ·rw [g1] at M;have U:=H_ g2;clear g0 g1 g2
      go_wp2_with (first
       | (go_at_call 224;(with_reducible refine CM (M _ X.out) ?_);rintro e w1 ⟨rfl,q⟩;have f:=H_ (a.step q))
       | (refine cV rfl 56 (.tmp 8) (.tmp 59) rfl rfl (b+3) #[S_ none 0 0,I_ 0,I_ 0] rfl rfl 56 _ (f.h3) V_ rfl (aN) ?_))
      show bodyPost prog f225 _ _ _ _
      refine bodyPost_ret (cZ rfl rfl (setRow_heap _ _ _ _ _ _ f.h3)) rfl ?_;rw [U.out];exact ⟨none,0,rfl,Nat.zero_le _,.nil _,j_ f.below (by rw [s.out];omega) _⟩
     ·rw [g1] at M;have U:=H_ g2;clear g0 g1 g2
      go_wp2_with (first
       | (go_at_call 224;(with_reducible refine CM (M _ X.out) ?_);rintro e w1 ⟨rfl,q⟩;have f:=H_ (a.step q);have a7:=H_ (X.step q))
       | (refine cV rfl 56 (.tmp 8) (.tmp 59) rfl rfl (b+3) #[S_ (some ⟨b+4,0,none⟩) 4 4,I_ 0,I_ (kS (N_ h c2))] rfl rfl 56 _ (f.h3) V_ rfl (aN) ?_))
      show bodyPost prog f225 _ _ _ _
      refine bodyPost_ret (cZ rfl rfl (setRow_heap _ _ _ _ _ _ f.h3)) rfl ?_;rw [U.out];exact ⟨some ⟨b+4,0,none⟩,4,by rw [show (T.mk (N_ h c2) 0 (kS (N_ h c2))).kids.length=4 from Q_ _ _];rfl,by rw [show (T.mk (N_ h c2) 0 (kS (N_ h c2))).kids.length=4 from Q_ _ _];omega,(a7.kept (by simp [World.setRow]) (fun z N g=>setRow_other _ _ _ _ N.2)).weak fun z _ N=>N.1,j_ f.below (by rw [s.out];omega) _⟩
end
section
theorem L_:(prog.info? 58).map (·.size)=some 4:=by kernel_rfl
theorem aD {h:Int} {v:Int}:(#[Value.int i64 h,Value.slice A n cap,I_ v,I_ m]:Array Value).all (·.oneCell')=true:=by simp [Value.oneCell']
theorem vE (h:fn.results=#[.cell p 58]) {b c:Value}
  (hp:tmps.getD p undef = P_ g) (hg:w.heap[g]?=some (.cells #[a,b,c,d] t fr)):(results fn tmps).run prog w = .ok (.agg #[a,b,c,d]) w:=
 results_cell_row h tmps w g t _ fr _ hp hg underlying58 rfl L_
theorem kF_ {x' y' z':Value} (h:w.heap[b]?=some (.cells #[a,x,y,z] t fr)):(w.setCells b 1 [x',y',z']).heap[b]?=some (.cells #[a,x',y',z'] t fr):=by
 have h1:=R_ (i:=1) h x';have h2:=R_ (i:=2) h1 y';have h3:=R_ (i:=3) h2 z'
 simpa [World.setCells] using h3
theorem bH_ (h:w.heap[b]?=some (.cells #[a,x,y,z] t (0,0))):w.there b 1 3:=fun j hj=>by
 rw [a_ h,t_ h]
 match j,hj with
 | 0,_=>exact ⟨rfl,rfl⟩
 | 1,_=>exact ⟨rfl,rfl⟩
 | 2,_=>exact ⟨rfl,rfl⟩
 | j+3,hj=>omega
def hy_ (c:Cn) (S:Nat->Prop) (w:World) (e:Ending) (w':World):Prop:=∃(h:Nat) (A:Option Addr) (cap:Nat),e = .returned (oD h A (f_ h c).kids.length cap (f_ h c).val (f_ h c).marks)/\X_ h c/\(f_ h c).kids.length<=cap/\NK w' S A (f_ h c).kids/\q_ w w'
theorem c1_ (hz:∀i,4 ^ H<=i->c i=(0,0)):[f_ H c,.nil,.nil,.nil]=N_ H c:=by
 have h0:f_ H (sh c (0*4 ^ H))=f_ H c:=by rw [Nat.zero_mul,qB]
 have h1:∀k,1<=k->f_ H (sh c (k*4 ^ H)) = .nil:=fun k a=>dL (aU.2 fun i _=>hz _ (by have:1*4 ^ H<=k*4 ^ H:=Nat.mul_le_mul_right _ a;omega))
 show _=[f_ H (sh c (0*4 ^ H)),f_ H (sh c (1*4 ^ H)),f_ H (sh c (2*4 ^ H)),f_ H (sh c (3*4 ^ H))]
 rw [h0,h1 1 O_,h1 2 O_,h1 3 O_]
theorem go_ (hz:∀i,4 ^ H<=i->c i=(0,0)) (he:(f_ H c).emB=true):f_ H c = .nil/\f_ (H+1) c = .nil:=by
 refine ⟨be_ he,dL (aU.2 fun i _=>?_)⟩;rw [cH,aU] at he
 rcases Nat.lt_or_ge i (4 ^ H) with h | h
 ·exact he i h
 ·exact hz i h
theorem uT {a:Nat} (h:a<=b):4 ^ a<=4 ^ b:=Nat.pow_le_pow_right O_ h
theorem av_ (hz:∀i,4 ^ (H+1)<=i->c i=(0,0)) (hh:gS (f_ (H+1) c)=false):∀i,4 ^ H<=i->c i=(0,0):=fun i hi=>by
 rcases Nat.lt_or_ge i (4 ^ (H+1)) with h | h
 ·apply Classical.byContradiction;intro hc;rw [mY.2 ⟨i,hi,h,hc⟩] at hh
  cases hh
 ·exact hz i h
theorem gy_ (he:(f_ (H+1) c).emB=false):(f_ (H+1) c).kids.length=4/\(f_ (H+1) c).kids[0]?=some (f_ H c):=by
 rw [cH] at he;rw [bE,he,if_neg z_];refine ⟨Q_ _ _,?_⟩
 show (N_ H c)[0]?=_
 rw [dN O_,Nat.zero_mul,qB]
theorem iu_ (he:(f_ (H+1) c).emB=true):f_ (H+1) c = .nil/\f_ H c = .nil:=by
 refine ⟨be_ he,?_⟩;rw [cH,rE] at he;have:=he 0 O_;rw [Nat.zero_mul,qB] at this;exact dL this
theorem c3_ (hh:gS (f_ (H+1) c)=true):∃i,4 ^ H<=i/\c i≠(0,0):=by
 obtain ⟨i,h1,_,h3⟩:=mY.1 hh;exact ⟨i,h1,h3⟩
structure WS (W:World) (b g:Nat) (xo po:Obj) (S:Nat->Prop) (H:Nat) (t:T) (A:Option Addr) (cap:Nat) (w:World):Prop where
 h0:w.heap[b]?=some (.cells #[I_ H,S_ A t.kids.length cap,I_ t.val,I_ t.marks] 58 (0,0))
 h1:w.heap[b+1]?=some xo
 h2:w.heap[b+2]?=some (.cells #[I_ 0,S_ none 0 0,I_ 0,I_ 0] 58 (0,0))
 h3:w.heap[g]?=some po
 hc:t.kids.length<=cap
 nk:NK w (fun z=>S z/\z≠b/\z≠b+2) A t.kids
 below:q_ W w
theorem WS.step {t:T} (h:WS W b g xo po S H t A cap w) (hb:q_ w w'):WS W b g xo po S H t A cap w':=
 ⟨i_ h.h0 hb,i_ h.h1 hb,i_ h.h2 hb,i_ h.h3 hb,h.hc,h.nk.step hb,d_ h.below hb⟩
theorem WS.setH {t:T} (h:WS W b g xo po S H t A cap w) (hW:W<=b) (hg:b+2<g) (H':Nat) (z:Int) (hz:z=(H':Int)):WS W b g xo po S H' t A cap (w.setCell ⟨b,0,none⟩ (I_ z)):=by
 subst hz;exact
 ⟨by simpa using R_ (i:=0) h.h0 (I_ (H':Int)),aM h.h1 _ _ z_,aM h.h2 _ _ z_,aM h.h3 _ _ (by simp;omega),h.hc,h.nk.kept (by simp [World.setCell]) (fun z hz _=>jO w _ _ z hz.2.1),h.below.setCell (p:=⟨b,0,none⟩) hW _⟩
theorem WS.setR {t:T} (h:WS W b g xo po S H t A cap w) (hW:W<=b) (hg:b+2<g) (t':T) (A':Option Addr) (cap':Nat) (hc:t'.kids.length<=cap') (nk:NK w (fun z=>S z/\z≠b/\z≠b+2) A' t'.kids) :
  WS W b g xo po S H t' A' cap' (w.setCells b 1 [S_ A' t'.kids.length cap',I_ t'.val,I_ t'.marks]):=
 ⟨kF_ h.h0,(u_ b _ _ w _ O_).trans h.h1,(u_ b _ _ w _ O_).trans h.h2,(u_ b _ _ w _ O_).trans h.h3,hc,nk.kept (Nat.le_of_eq (eV b _ _ w).2.2.2.symm) (fun z a _=>u_ b _ _ w z a.2.1),aS h.below hW _ _⟩
theorem WS.setR' {t:T} (h:WS W b g xo po S H t A cap w) (hW:W<=b) (hg:b+2<g) (t':T) (A':Option Addr) (cap' n:Nat) (v m:Int) (hn:t'.kids.length=n) (hv:t'.val=v) (hm:t'.marks=m) (hc:n<=cap') (nk:NK w (fun z=>S z/\z≠b/\z≠b+2) A' t'.kids) :
  WS W b g xo po S H t' A' cap' (w.setCells b 1 [S_ A' n cap',I_ v,I_ m]):=by
 subst hn hv hm;exact h.setR hW hg t' A' cap' hc nk
theorem nk4 {t:T} (h:w.heap[g]?=some (.cells #[S_ A t.kids.length cap,I_ t.val,I_ t.marks,S_ none 0 0,I_ 0,I_ 0,S_ none 0 0,I_ 0,I_ 0,S_ none 0 0,I_ 0,I_ 0] 56 (0,0))) (hS:S g) (hm:t.kids.length<=maxLen) (hc:t.kids.length<=cap) (hk:NK w S A t.kids):NK w S (some ⟨g,0,none⟩) [t,.nil,.nil,.nil]:=by
 have hv:=fun i=>a_ h i;refine .mk g 0 _ (fun i=>if i=0 then A else none) (fun i=>if i=0 then cap else 0) hS (p_ h) (fun i k a=>?_) (fun i k a=>?_) (fun i k a=>?_)
 all_goals
  match i with
  | 0=>simp at a;subst a;first | exact ⟨(hv _).trans rfl,(hv _).trans rfl,(hv _).trans rfl⟩ | exact ⟨hm,hc⟩ | exact hk
  | 1=>simp at a;subst a;first | exact ⟨(hv _).trans rfl,(hv _).trans rfl,(hv _).trans rfl⟩ | exact ⟨Nat.zero_le _,Nat.zero_le _⟩ | exact .nil _
  | 2=>simp at a;subst a;first | exact ⟨(hv _).trans rfl,(hv _).trans rfl,(hv _).trans rfl⟩ | exact ⟨Nat.zero_le _,Nat.zero_le _⟩ | exact .nil _
  | 3=>simp at a;subst a;first | exact ⟨(hv _).trans rfl,(hv _).trans rfl,(hv _).trans rfl⟩ | exact ⟨Nat.zero_le _,Nat.zero_le _⟩ | exact .nil _
  | i+4=>simp at a
def yX (b:Nat) (w:World):Nat:=match w.cell? ⟨b,0,none⟩ with | some (.int _ n)=>n.toNat | _=>0
theorem qX (h:w.heap[b]?=some (.cells #[I_ (H:Int),x,y,z] t (0,0))):yX b w=H:=by
 unfold yX;rw [a_ h];simp
theorem fE_ (cap:Nat) (S:Nat->Prop) (i:Nat) (xa:Option Addr) (xcap:Nat) (x m:Int) (hi:i<256) (ht:X_ h c) (hcap:(f_ h c).kids.length<=cap) (hk:NK w S A (f_ h c).kids) (hS:∀b,w.heap.size<=b->S b) :
  C_ 211 #[oD h A (f_ h c).kids.length cap (f_ h c).val (f_ h c).marks,I_ i,lG xa 0 xcap x m] w (hy_ (upd c i (x,m)) S w):=by
 have h4:=ht.1;have HT:=H_ ht.2.1;have hr:=fun w=>cv_ i w hi;have hh:=fun w=>ah_ i w hi;have b0:hf i<=4:=by unfold hf;(repeat' split) <;> omega
 have a3:=H_ (fun H (h4:H<=4)=>ai_ (h:=H) hi h4);have hp:=fun H c A cap S w hH=>jY_ H c A cap S i xa xcap x m w hH hi;obtain ⟨b,hb⟩:=aZ w.heap.size;have l:=H_ hb;have an:=H_ (fun w' (hb:q_ w w')=>(hk.weak (S':=fun z=>S z/\z≠b/\z≠b+2) fun z O h=>⟨h,O_,O_⟩).step hb);have a7:=H_ hS;obtain ⟨n,hn⟩:∃n,(f_ h c).kids.length=n:=⟨_,rfl⟩;obtain ⟨v,hv⟩:∃v,(f_ h c).val=v:=⟨_,rfl⟩;obtain ⟨mm,hm⟩:∃m,(f_ h c).marks=m:=⟨_,rfl⟩;rw [hn] at hcap;rw [hn,hv,hm];obtain ⟨Hn,Hv,Hm⟩:=eT hn hv hm;unfold pQ at hp hr hh;obtain ⟨p0,ah⟩:∃p:Int,((i / 4 / 4 / 4 % 4:Nat):Int)=p:=⟨_,rfl⟩;obtain ⟨p1,ai⟩:∃p:Int,((i / 4 / 4 % 4:Nat):Int)=p:=⟨_,rfl⟩;obtain ⟨p2,aj⟩:∃p:Int,((i / 4 % 4:Nat):Int)=p:=⟨_,rfl⟩;obtain ⟨p3,ak⟩:∃p:Int,((i % 4:Nat):Int)=p:=⟨_,rfl⟩;rw [ah,ai,aj,ak] at hp hr hh;clear hn hv hm ah ai aj ak hk hS hb ht;go_enter func211,ntmps211
 go_upto_region 1 with fail
 go_cut [3,5,6,7] (fun s3 s5 s6 s7 wx=>∃(g:Nat),s3 = P_ b/\s5 = P_ (b+1)/\s6 = P_ (b+2)/\s7 = P_ g/\b+2<g/\WS w b g (.cells #[S_ xa 0 xcap,I_ x,I_ m] 56 (0,0)) (.cells #[I_ p0,I_ p1,I_ p2,I_ p3] 249 (0,0)) S h (f_ h c) A cap wx)
 case first=>
  go_wp2_with (go_at_call 215;(with_reducible refine CM (hr _) ?_);rintro e w1 ⟨rfl,a⟩)
  go_meet
  case rel=>
   have U:=l.out;have aw:=a.size;simp at aw;refine ⟨_,by rw [U],by rw [U],by rw [U],rfl,O_,?_,?_,?_,heap_alloc_new _ _,by rw [Hn.out];exact hcap,an _ ?_,?_⟩
   ·rw [Hn.out,Hv.out,Hm.out];exact m_ (i_ (m_ (m_ (l_ _ _ _ U.symm) _) _) a) _
   ·exact m_ (i_ (m_ (l_ _ _ _ (by simp;omega)) _) a) _
   ·exact m_ (i_ (l_ _ _ _ (by simp;omega)) a) _
   ·exact b_ (d_ (b_ (b_ (b_ B_ _) _) _) a) _
   ·exact b_ (d_ (b_ (b_ (b_ B_ _) _) _) a) _
 case rest=>
  clear hr;obtain ⟨g,rfl,rfl,rfl,rfl,Q,s⟩:=hcut;have f:=H_ s;clear s
  go_upto_block 0 with fail
  go_cut [] (fun wx=>∃(H:Nat) (A:Option Addr) (cap:Nat),h<=H/\hf i<=H/\H<=4/\WS w b g (.cells #[S_ xa 0 xcap,I_ x,I_ m] 56 (0,0)) (.cells #[I_ p0,I_ p1,I_ p2,I_ p3] 249 (0,0)) S H (f_ H c) A cap wx)
  case first=>
   go_wp2
   go_loopw [] (fun wx=>∃(H:Nat) (A:Option Addr) (cap:Nat),h<=H/\H<=4/\WS w b g (.cells #[S_ xa 0 xcap,I_ x,I_ m] 56 (0,0)) (.cells #[I_ p0,I_ p1,I_ p2,I_ p3] 249 (0,0)) S H (f_ H c) A cap wx) (fun wx=>4 - yX b wx)
   case atStart=>exact ⟨h,A,cap,aQ _,h4,f⟩
   case round=>
    clear f hcap;obtain ⟨H,A1,y,hH,I,s⟩:=hrel;have f:=H_ s;have ag:=qX s.h0;have HM:=H_ ag;obtain ⟨x0,L,M,N⟩:=iH s.h0;obtain ⟨y0,y1,y2,y3⟩:=iH s.h3;have lX:=p_ s.h0;have lP:=p_ s.h3;have xe:=aG wr;clear s ag
    go_upto_region 2 with fail
    go_cut [14] (fun s14 wx=>s14 = .bool (decide (H<hf i))/\WS w b g (.cells #[S_ xa 0 xcap,I_ x,I_ m] 56 (0,0)) (.cells #[I_ p0,I_ p1,I_ p2,I_ p3] 249 (0,0)) S H (f_ H c) A1 y wx)
    case first=>
     refine y_ s_ s_ ?_
     (refine wpQuiet_step (fun K E=>?_);go_simp;(with_reducible refine E _ ?_);clear E K)
     (refine wpQuiet_step (fun K E=>?_);go_simp;(with_reducible refine E _ ?_);clear E K)
     (refine wpQuiet_step (fun K E=>?_);go_simp;(with_reducible refine E _ ?_);clear E K)
     (refine wpQuiet_step (fun K E=>?_);go_simp;apply Exists.intro;refine ⟨fun _=>?_,E _ ?_⟩;(exact aB (hh _));clear E K)
     (refine wpQuiet_step (fun K E=>?_);go_simp;(with_reducible refine E _ ?_);clear E K)
     refine wpQuiet_nil ?_;rintro w' ⟨z,rfl⟩;go_wp2;go_meet
     case rel=>exact ⟨rfl,f.step (n_ _ _)⟩
    case rest=>
     clear f x0 L M N y0 y1 y2 y3 lX lP xe;obtain ⟨rfl,s⟩:=hcut;have f:=H_ s;clear s;have r:=fun w=>fK A1 (f_ H c).kids.length y (f_ H c).val (f_ H c).marks w;rw [show rP (f_ H c).kids.length (f_ H c).val (f_ H c).marks=(f_ H c).emB from rfl] at r
     by_cases af:H<hf i
     ·have hd:decide (H<hf i)=true:=dT af;have HZ:=H_ (show ∀j,4 ^ H<=j->c j=(0,0) from fun j hj=>HT j (dO (uT hH) hj));have b4:=fA (x:=(H:Int)+1) O_;obtain ⟨x0,L,M,N⟩:=iH f.h0;have Y:=t_ f.h0 0
      cases he:(f_ H c).emB with
      | true=>
       obtain ⟨R,Z⟩:=go_ HZ.out he;rw [he] at r;have F:=H_ R;have G:=H_ Z;clear he R Z
       go_wp2_with (go_at_call 217;(with_reducible refine CM (r _) ?_);rintro e w1 ⟨rfl,a⟩;have d:=H_ (f.step a);have x0:=a_ d.h0 0;have Y:=t_ d.h0 0;simp only[zl] at x0)
       go_roundw
       case rel=>
        have:=d.setH (Nat.le_of_eq l.symm) Q (H+1) ((H:Int)+1) O_;rw [F.out,<-G.out] at this;exact ⟨H+1,_,_,O_,O_,this⟩
       case measure=>rw [HM.out,qX (d.setH (Nat.le_of_eq l.symm) Q (H+1) ((H:Int)+1) O_).h0];omega
      | false=>
       rw [he] at r;have am:=H_ (c1_ HZ);have ab:=fun g w' (hb:NK w' (fun z=>S z/\z≠b/\z≠b+2) (some ⟨g,0,none⟩) (N_ H c))=>uJ 4 (fun z=>S z/\z≠b/\z≠b+2) (Q_ _ _) O_ hb;have a4:=H_ (show bP (4 ^ (H+1)) c=false by
        rw [cH] at he;obtain ⟨j,h1,h2⟩:=eG.1 he;exact eG.2 ⟨j,iS h1 (uT O_),h2⟩)
       have G:=H_ (show f_ (H+1) c = .mk (N_ H c) 0 (kS (N_ H c)) by rw [bE,a4.out];rfl);have az:=H_ (show (f_ (H+1) c).kids.length=4 by rw [G.out];exact Q_ _ _);have HV:=H_ (fun A=>show vP A 4 (N_ H c)=lG A 4 4 0 (kS (N_ H c)) by unfold vP;rw [lI,a4.out];rfl);simp only[HV.out] at ab;have ay:=f.below.size;have ax:=p_ f.h2;have a5:=H_ (fun w1 (a:q_ wc w1)=>show NK (w1.alloc (.cells #[S_ A1 (f_ H c).kids.length y,I_ (f_ H c).val,I_ (f_ H c).marks,S_ none 0 0,I_ 0,I_ 0,S_ none 0 0,I_ 0,I_ 0,S_ none 0 0,I_ 0,I_ 0] 56)) (fun z=>S z/\z≠b/\z≠b+2) (some ⟨w1,0,none⟩) (N_ H c) by
        have b1:=a.size;rw [<-am.out];exact nk4 (g_ _ _) ⟨a7.out _ O_,O_,O_⟩ (eA _ _) f.hc ((f.nk.step a).alloc _))
       clear he
       go_wp2_with (first
        | (go_at_call 217;(with_reducible refine CM (r _) ?_);rintro e w1 ⟨rfl,a⟩;have d:=H_ (f.step a);have X:=H_ (a5 _ a);clear a5;obtain ⟨x0,L,M,N⟩:=iH d.h0)
        | (go_at_call 224;(with_reducible refine CM (ab _ _ X.out) ?_);rintro e w2 ⟨rfl,u⟩;have q:=H_ ((d.step (b_ B_ _)).step u);have a6:=H_ (X.step u))
        | ((refine pF rfl 56 (.tmp 26) (.tmp 25) rfl b (1) #[S_ (some ⟨w1,0,none⟩) 4 4,I_ 0,I_ (kS (N_ H c))] rfl rfl (bH_ q.h0) V_ (aN) ?_);have C:=H_ (q.setR' (Nat.le_of_eq l.symm) Q (.mk (N_ H c) 0 (kS (N_ H c))) (some ⟨w1,0,none⟩) 4 4 0 (kS (N_ H c)) (Q_ _ _) rfl rfl O_ a6.out);have x0:=a_ C.h0 0;have Y:=t_ C.h0 0;simp only[zl] at x0))
       go_roundw
       case rel=>
        have:=C.setH (Nat.le_of_eq l.symm) Q (H+1) ((H:Int)+1) O_;rw [<-G.out] at this;exact ⟨H+1,_,_,O_,O_,this⟩
       case measure=>rw [HM.out,qX (C.setH (Nat.le_of_eq l.symm) Q (H+1) ((H:Int)+1) O_).h0];omega
     ·have hd:decide (H<hf i)=false:=dF af;go_wp2;go_meet
      case rel=>exact ⟨H,A1,y,hH,O_,I,f.out⟩
  case rest=>
   clear f hcap;obtain ⟨P,A1,y,hH,a1,I,s⟩:=hcut;have f:=H_ s;clear s
   go_upto_region 6 with fail
   go_cut [] (fun wx=>∃(A:Option Addr) (cap:Nat),WS w b g (.cells #[S_ xa 0 xcap,I_ x,I_ m] 56 (0,0)) (.cells #[I_ p0,I_ p1,I_ p2,I_ p3] 249 (0,0)) S P (f_ P (upd c i (x,m))) A cap wx)
   case first=>
    have HU:=H_ (show upd c (i % 4 ^ P) (x,m)=upd c i (x,m) by rw [Nat.mod_eq_of_lt ((a3.out P I).1 a1)]);have ax:=p_ f.h2;have ay:=f.below.size;have al:=hp P c A1 y (fun z=>S z/\z≠b/\z≠b+2) wc I f.hc f.nk (fun z O=>⟨a7.out z O_,O_,O_⟩);rw [HU.out] at al;obtain ⟨x0,L,M,N⟩:=iH f.h0;have y0:=a_ f.h3 0;have y1:=a_ f.h3 1;have y2:=a_ f.h3 2;have y3:=a_ f.h3 3;have z0:=a_ f.h1 0;have z1:=a_ f.h1 1;have z2:=a_ f.h1 2;simp only[zl] at y0 y1 y2 y3 z0 z1 z2
    go_wp2_with (first
     | (go_at_call 225;(with_reducible refine CM al ?_);rintro e w1 ⟨A2,D,rfl,ar,ac,a⟩;have d:=H_ (f.step a);have ao:=H_ ac;clear ac)
     | (refine pF rfl 56 (.tmp 38) (.tmp 37) rfl b (1) #[S_ A2 (f_ P (upd c i (x,m))).kids.length D,I_ (f_ P (upd c i (x,m))).val,I_ (f_ P (upd c i (x,m))).marks] rfl rfl (bH_ d.h0) V_ (aN) ?_))
    go_meet
    case rel=>exact ⟨A2,D,d.setR (Nat.le_of_eq l.symm) Q _ A2 D ar ao⟩
   case rest=>
    clear f hp hh;obtain ⟨A2,D,s⟩:=hcut;have a8:=H_ (show ∀j,4 ^ P<=j->upd c i (x,m) j=(0,0) from fun j hj=>by
     have h1:=HT j (dO (uT hH) hj);have h2:=(a3 P I).1 a1;unfold upd;rw [if_neg O_];exact h1)
    have f:=H_ s;clear s a1;generalize upd c i (x,m)=c2 at *;go_wp2
    go_loopw [] (fun wx=>∃(H:Nat) (A:Option Addr) (cap:Nat),H<=4/\(∀j,4 ^ H<=j->c2 j=(0,0))/\WS w b g (.cells #[S_ xa 0 xcap,I_ x,I_ m] 56 (0,0)) (.cells #[I_ p0,I_ p1,I_ p2,I_ p3] 249 (0,0)) S H (f_ H c2) A cap wx) (fun wx=>yX b wx)
    case atStart=>exact ⟨P,A2,D,I,a8,f⟩
    case round=>
     clear f a8;obtain ⟨H,A3,B,aa,O,s⟩:=hrel;have f:=H_ s;have HZ:=H_ O;have HM:=H_ (qX s.h0);have J:=fun w' (hb:q_ wr w')=>ex_ (f_ H c2) B (eA _ _) f.hc (f.nk.step hb);have r:=fun w=>fK A3 (f_ H c2).kids.length B (f_ H c2).val (f_ H c2).marks w;rw [show rP (f_ H c2).kids.length (f_ H c2).val (f_ H c2).marks=(f_ H c2).emB from rfl] at r;obtain ⟨x0,L,M,N⟩:=iH s.h0;clear s O
     rcases H with _ | H
     ·have a0:=H_ (show X_ 0 c2 from ⟨O_,HZ.out,.inl rfl⟩)
      go_wp2_with (refine cV rfl 58 (.tmp 6) (.tmp 62) rfl rfl (b+2) #[I_ ((0:Nat):Int),S_ A3 (f_ (0) c2).kids.length B,I_ (f_ (0) c2).val,I_ (f_ (0) c2).marks] rfl rfl 58 _ (f.h2) L_ rfl (aD) ?_)
      show bodyPost prog f211 _ _ _ _
      refine bodyPost_ret (vE rfl rfl (setRow_heap _ _ _ _ _ _ f.h2)) rfl ⟨0,A3,B,rfl,a0.out,f.hc,(f.nk.kept (by simp [World.setRow]) (fun z O av=>setRow_other _ _ _ _ O.2.2)).weak fun z _ O=>O.1,j_ f.below (by rw [l.out];omega) _⟩
     ·have b5:(0:Int)<((H+1:Nat):Int):=O_
      cases hhv:gS (f_ (H+1) c2) with
      | true=>
       have a0:=H_ (show X_ (H+1) c2 from ⟨aa,HZ,.inr (c3_ hhv)⟩);rw [hhv] at J;clear hhv
       go_wp2_with (first
        | (go_at_call 214;(with_reducible refine CM (J _ B_) ?_);rintro e w1 ⟨rfl,a⟩;have d:=H_ (f.step a);obtain ⟨x0,L,M,N⟩:=iH d.h0;have Y:=t_ d.h0 0)
        | (refine cV rfl 58 (.tmp 6) (.tmp 62) rfl rfl (b+2) #[I_ ((H+1:Nat):Int),S_ A3 (f_ (H+1) c2).kids.length B,I_ (f_ (H+1) c2).val,I_ (f_ (H+1) c2).marks] rfl rfl 58 _ (d.h2) L_ rfl (aD) ?_))
       show bodyPost prog f211 _ _ _ _
       refine bodyPost_ret (vE rfl rfl (setRow_heap _ _ _ _ _ _ d.h2)) rfl ⟨H+1,A3,B,rfl,a0.out,d.hc,(d.nk.kept (by simp [World.setRow]) (fun z O av=>setRow_other _ _ _ _ O.2.2)).weak fun z _ O=>O.1,j_ d.below (by rw [l.out];omega) _⟩
      | false=>
       have HL:=H_ (av_ HZ hhv);rw [hhv] at J;clear hhv;have b2:i64.wrap (((H+1:Nat):Int) - 1)=(H:Int):=by rw [fA O_];omega
       have b3:((H+1:Nat):Int) - 1=(H:Int):=O_
       cases he:(f_ (H+1) c2).emB with
       | true=>
        obtain ⟨R,Z⟩:=iu_ he;rw [he] at r;have F:=H_ R;have G:=H_ Z;clear he R Z
        go_wp2_with (first | (go_at_call 214;(with_reducible refine CM (J _ B_) ?_);rintro e w1 ⟨rfl,a⟩;have d:=H_ (f.step a);obtain ⟨x0,L,M,N⟩:=iH d.h0;have Y:=t_ d.h0 0) | (go_at_call 217;(with_reducible refine CM (r _) ?_);rintro e w2 ⟨rfl,u⟩;have q:=H_ (d.step u);obtain ⟨x0,L,M,N⟩:=iH q.h0;have Y:=t_ q.h0 0))
        go_roundw
        case rel=>
         have:=q.setH (Nat.le_of_eq l.symm) Q H (H:Int) rfl;rw [F.out,<-G.out] at this;exact ⟨H,_,_,O_,HL.out,this⟩
        case measure=>rw [HM.out,qX (q.setH (Nat.le_of_eq l.symm) Q H (H:Int) rfl).h0];omega
       | false=>
        obtain ⟨R,Z⟩:=gy_ he;rw [he] at r;clear he;obtain ⟨b',o,k,A4,dU,rfl,_,V,W,aq,au,ad,ae⟩:=f.nk.at_ (i:=0) O_;rw [Z] at W;injection W with W
        subst W;obtain ⟨c0,c1,a9⟩:=aq;rw [Nat.zero_mul,Nat.add_zero] at c0 c1 a9;have HK:=H_ ae;have ap:=H_ ad;rw [R] at J r;have t:=f.h0;rw [R] at t;have F:=H_ R;clear x0 L M N;obtain ⟨x0,L,M,N⟩:=iH t;clear R Z ae ad au t
        go_wp2_with (first
         | ((go_at_call 214;(with_reducible refine CM (J _ B_) ?_);rintro e w1 ⟨rfl,a⟩;have d:=H_ (f.step a);have Y:=t_ d.h0 0);have t:=d.h0;rw [F.out] at t;obtain ⟨x0,L,M,N⟩:=iH t;clear t;have k0:=(a.cell (p:=⟨b',_,none⟩) V).trans c0;have k1:=(a.cell (p:=⟨b',_,none⟩) V).trans c1;have k2:=(a.cell (p:=⟨b',_,none⟩) V).trans a9;have a2:=iS V a.size)
         | ((go_at_call 217;(with_reducible refine CM (r _) ?_);rintro e w2 ⟨rfl,u⟩;have q:=H_ (d.step u);have Y:=t_ q.h0 0);have t:=q.h0;rw [F.out] at t;obtain ⟨x0,L,M,N⟩:=iH t;clear t;have k0:=(u.cell (p:=⟨b',_,none⟩) a2).trans k0;have k1:=(u.cell (p:=⟨b',_,none⟩) a2).trans k1;have k2:=(u.cell (p:=⟨b',_,none⟩) a2).trans k2)
         | ((refine pF rfl 56 (.tmp 57) (.tmp 56) rfl b (1) #[S_ A4 (f_ H c2).kids.length dU,I_ (f_ H c2).val,I_ (f_ H c2).marks] rfl rfl (bH_ q.h0) V_ (aN) ?_);have C:=H_ (q.setR (Nat.le_of_eq l.symm) Q (f_ H c2) A4 dU ap ((HK.step a).step u));obtain ⟨x0,L,M,N⟩:=iH C.h0;have Y:=t_ C.h0 0))
        go_roundw
        case rel=>exact ⟨H,A4,dU,O_,HL.out,C.setH (Nat.le_of_eq l.symm) Q H (H:Int) rfl⟩
        case measure=>rw [HM.out,qX (C.setH (Nat.le_of_eq l.symm) Q H (H:Int) rfl).h0];omega
end
section
abbrev En:=Int × Int × Int
def oN:List En->List Value
 | []=>[]
 | (i,v,m) :: l=> I_ i :: I_ v :: I_ m :: oN l
theorem b1_ (l l':List En):oN (l ++ l')=oN l ++ oN l':=by
 induction l with
 | nil=>rfl
 | cons a l ih=>obtain ⟨x,y,z⟩:=a;simp [oN,ih]
theorem sM:∀(l:List En) (i:Nat) (d s c:Int),l[i]?=some (d,s,c)->(oN l)[i*3]?=some (I_ d)/\(oN l)[i*3+1]?=some (I_ s)/\(oN l)[i*3+2]?=some (I_ c)
 | [],i,d,s,c,h=>by simp at h
 | (x,y,z) :: l,0,d,s,c,h=>by simp at h;obtain ⟨rfl,rfl,rfl⟩:=h;simp [oN]
 | (x,y,z) :: l,i+1,d,s,c,h=>by
  have h1:=sM l i d s c (by simpa using h);rw [show (i+1)*3=i*3+3 from by omega,show i*3+3+1=i*3+1+3 from by omega,show i*3+3+2=i*3+2+3 from by omega]
  simpa [oN] using h1
def EA (w:World) (S:Nat->Prop) (v:Value) (l:List En):Prop:=
 ∃A cap,v = S_ A l.length cap/\l.length<=cap/\cap<=maxLen/\(l=[]\/∃b o,A=some ⟨b,o,none⟩/\b<w.heap.size/\S b/\∀i d s c,l[i]?=some (d,s,c)->
  w.cell? ⟨b,o+i*3,none⟩=some (I_ d)/\w.cell? ⟨b,o+i*3+1,none⟩=some (I_ s)/\w.cell? ⟨b,o+i*3+2,none⟩=some (I_ c))
theorem EA.kept {w w':World} {l:List En} (h:EA w S v l) (hs:w.heap.size<=w'.heap.size) (hb:∀b,S b->b<w.heap.size->w'.heap[b]?=w.heap[b]?):EA w' S v l:=by
 obtain ⟨A,cap,e,hc,g,h⟩:=h;refine ⟨A,cap,e,hc,g,?_⟩
 rcases h with h | ⟨b,o,h1,h2,h0,h3⟩
 ·exact .inl h
 ·refine .inr ⟨b,o,h1,O_,h0,fun i d s c f=>?_⟩;obtain ⟨c0,c1,c2⟩:=h3 i d s c f;exact ⟨(World.cell?_of_block (a:=⟨b,_,none⟩) (hb b h0 h2)).trans c0,(World.cell?_of_block (a:=⟨b,_,none⟩) (hb b h0 h2)).trans c1,(World.cell?_of_block (a:=⟨b,_,none⟩) (hb b h0 h2)).trans c2⟩
theorem EA.step {l:List En} (h:EA w S v l) (hb:q_ w w'):EA w' S v l:=h.kept hb.size fun b _ hlt=>hb.block b hlt
theorem EA.weak {S S':Nat->Prop} {l:List En} (h:EA w S v l) (hs:∀b,b<w.heap.size->S b->S' b):EA w S' v l:=by
 obtain ⟨A,cap,e,hc,hm,h⟩:=h;refine ⟨A,cap,e,hc,hm,?_⟩
 rcases h with h | ⟨b,o,h1,h2,h0,h3⟩
 ·exact .inl h
 ·exact .inr ⟨b,o,h1,h2,hs b h2 h0,h3⟩
theorem EA.of_own {base:Nat} {l:List En} {S:Nat->Prop} (h:w.ownsRow base t 3 v l.length (oN l)) (hS:∀b,v.ownBlock=some b->S b):EA w S v l:=by
 rcases h.2 with ⟨h1,h2⟩ | ⟨g,cap,cur,h1,h2,h3,h4,h5,h6,h7⟩
 ·exact ⟨none,0,by rw [h1,h2],O_,by unfold maxLen;omega,.inl (List.eq_nil_of_length_eq_zero h2)⟩
 ·refine ⟨_,cap,h1,h4,h5,.inr ⟨g,0,rfl,p_ h3,hS g (by rw [h1];rfl),fun i d s c f=>?_⟩⟩;have k:i<l.length:=bK f;obtain ⟨x0,n,o⟩:=sM l i d s c f;have a:∀j,j<l.length*3->w.cell? ⟨g,j,none⟩=(oN l)[j]?:=fun j m=>by
   rw [<-h7,List.getElem?_take,if_pos m];simp [World.cell?,h3]
  rw [Nat.zero_add];exact ⟨(a _ O_).trans x0,(a _ O_).trans n,(a _ O_).trans o⟩
theorem EA.at_ {l:List En} (h:EA w S v l) {i:Nat} (hi:i<l.length):∃b o cap d s c,v = S_ (some ⟨b,o,none⟩) l.length cap/\l.length<=cap/\cap<=maxLen/\b<w.heap.size/\l[i]?=some (d,s,c)/\
  w.cell? ⟨b,o+i*3,none⟩=some (I_ d)/\w.cell? ⟨b,o+i*3+1,none⟩=some (I_ s)/\w.cell? ⟨b,o+i*3+2,none⟩=some (I_ c):=by
 obtain ⟨A,cap,e,hc,f,h⟩:=h
 rcases h with h | ⟨b,o,h1,h2,h0,h3⟩
 ·subst h;simp at hi
 ·subst h1;have a:l[i]?=some l[i]:=cU hi;obtain ⟨c0,c1,c2⟩:=h3 i _ _ _ a;exact ⟨b,o,cap,_,_,_,e,hc,f,h2,a,c0,c1,c2⟩
theorem EA.nil (w:World) (S:Nat->Prop):EA w S (S_ none 0 0) []:=⟨none,0,rfl,z_,by unfold maxLen;omega,.inl rfl⟩
theorem kY:(prog.info? 160).map (fun i=>(i.zero,i.size,i.bytes))=some (some (.agg #[I_ 0,I_ 0,I_ 0]),3,24):=by kernel_rfl
def aH (base n:Nat) (c:Cn):List En:=(List.range n).filterMap fun j=>if c j=(0,0) then none else some (((base+j:Nat):Int),(c j).1,(c j).2)
theorem uC (base a b:Nat) (c:Cn):aH base (a+b) c=aH base a c ++ aH (base+a) b (sh c a):=by
 unfold aH;rw [List.range_add,List.filterMap_append,List.filterMap_map]
 congr 1
 refine congrArg (fun f=>List.filterMap f (List.range b)) (funext fun j=>?_);simp only[Function.comp,sh,Nat.add_assoc]
theorem qV (base:Nat) (c:Cn):aH base 0 c=[]:=rfl
theorem jW {base n:Nat} (h:bP n c=true):aH base n c=[]:=by
 unfold aH;rw [List.filterMap_eq_nil_iff];intro j hj;rw [if_pos (aU.1 h j (List.mem_range.1 hj))]
theorem jV (base n:Nat) (c:Cn):(aH base n c).length<=n:=by
 unfold aH;have:=List.length_filterMap_le (fun j=>if c j=(0,0) then none else some (((base+j:Nat):Int),(c j).1,(c j).2)) (List.range n)
 simpa using this
theorem uD {base:Nat} (h:bP 1 c=false):aH base 1 c=[((base:Int),(c 0).1,(c 0).2)]:=by
 obtain ⟨i,hi,hne⟩:=eG.1 h;obtain rfl:i=0:=O_
 unfold aH;simp [hne]
theorem wE (base p k:Nat) (c:Cn):aH base ((k+1)*p) c=aH base (k*p) c ++ aH (base+k*p) p (sh c (k*p)):=by
 rw [Nat.add_mul,Nat.one_mul,uC]
structure LS (W:World) (v:Value) (B:Nat) (L:List En) (vk:Value) (wx:World):Prop where
 own:wx.ownsRow B 160 3 vk L.length (oN L)
 gr:W.grownBy wx v.ownBlock
 ob:vk.ownBlock=v.ownBlock\/∀g,vk.ownBlock=some g->W.heap.size<=g
theorem LS.refl {L:List En} (h:W.ownsRow B 160 3 v L.length (oN L)):LS W v B L v W:=⟨h,⟨rfl,rfl,rfl,aQ _,fun _ _ _=>rfl⟩,.inl rfl⟩
theorem LS.trans {vl:Value} {L L':List En} (h:LS W v B L vk wx) (h':LS wx vk B L' vl wy):LS W v B L' vl wy:=by
 refine ⟨h'.own,⟨h'.gr.os.trans h.gr.os,h'.gr.tape.trans h.gr.tape,h'.gr.output.trans h.gr.output,dO h.gr.size h'.gr.size,fun k a b=>(h'.gr.block k (iS a h.gr.size) fun e=>?_).trans (h.gr.block k a b)⟩,?_⟩
 ·rcases h.ob with h1 | h1
  ·exact b (by rw [e];exact h1)
  ·have:=h1 k e.symm;omega
 ·rcases h'.ob with h1 | h1
  ·rw [h1];exact h.ob
  ·exact .inr fun g c=>dO h.gr.size (h1 g c)
theorem LS.step {L:List En} (h:LS W v B L vk wx) (hb:q_ wx wy):LS W v B L vk wy:=
 h.trans ⟨dA h.own hb,⟨hb.os,hb.tape,hb.output,hb.size,fun k hk _=>hb.block k hk⟩,.inl rfl⟩
theorem LS.nk {L:List En} (h:LS W v B L vk wx) {ks:List T} (hk:NK W (fun z=>v.ownBlock≠some z) A ks):NK wx (fun z=>vk.ownBlock≠some z) A ks:=by
 have h1:=(hk.weak (S':=fun z=>v.ownBlock≠some z/\vk.ownBlock≠some z) fun b c a=>⟨a,fun e=>by
  rcases h.ob with h1 | h1
  ·exact a (h1 ▸ e)
  ·have:=h1 b e;omega⟩).kept h.gr.size (fun b a c=>h.gr.block b c fun e=>a.1 e.symm)
 exact h1.weak fun b _ a=>a.2
theorem LS.bk {L:List En} (h:LS W v B L vk wx) {o:Obj} (hg:W.heap[g]?=some o) (hn:v.ownBlock≠some g):wx.heap[g]?=some o:=(h.gr.block g (p_ hg) fun e=>hn e.symm).trans hg
theorem LS.ne {L:List En} (h:LS W v B L vk wx) (hg:g<W) (hn:v.ownBlock≠some g):vk.ownBlock≠some g:=fun e=>by
 rcases h.ob with h1 | h1
 ·exact hn (h1 ▸ e)
 ·have:=h1 g e;omega
theorem LS.snoc {L:List En} {x:Int} (h:LS W v B L vk wx) (hown:wy.ownsRow B 160 3 (S_ (some ⟨g,0,none⟩) n cap) (L.length+1) (oN L ++ [I_ i,I_ x,I_ m])) (hg:wx.grownBy wy vk.ownBlock) (hat:vk.ownBlock=some g\/g=wx.heap.size) :
  LS W v B (L ++ [(i,x,m)]) (S_ (some ⟨g,0,none⟩) n cap) wy:=
 h.trans ⟨by rw [b1_];simpa [oN] using hown,hg,by
  rcases hat with hat | hat
  ·exact .inl hat.symm
  ·exact .inr fun g' hg'=>by simp only[Value.ownBlock,Option.some.injEq] at hg';omega⟩
def ku_ (B:Nat) (L:List En) (v:Value) (w:World) (e:Ending) (w':World):Prop:=∃v',e = .returned v'/\LS w v B L v' w'
end
section
theorem dm_ {P:Program} {ty:TypeId} (h:fn.results=#[.cell p ty,.tmp q]) (tmps:Array Value) (t:TypeId) {cs:Array Value} (fr:Nat × Nat) {d:TypeDesc} (u:Value)
  (hp:tmps.getD p undef = P_ g) (hq:tmps.getD q undef=u) (hg:w.heap[g]?=some (.cells cs t fr))
  (hu:P.underlying ty=some d) (hd:(match d with | .struct _ | .array _ _=>true | _=>false)=true) (hi:(P.info? ty).map (·.size)=some cs.size) :
  (results fn tmps).run P w = .ok (.tuple #[.agg cs,u]) w:=by
 have hp':tmps[p]?.getD undef = P_ g:=by simpa using hp
 have hq':tmps[q]?.getD undef=u:=by simpa using hq
 simp [results,h,hp',hq',asAddr,run_loadVar_row w g t ty cs fr d hg hu hd hi]
theorem bM (h:fn.results=#[.cell p 58,.tmp q]) {b c:Value}
  (hp:tmps.getD p undef = P_ g) (hq:tmps.getD q undef=u) (hg:w.heap[g]?=some (.cells #[a,b,c,d] t fr)):(results fn tmps).run prog w = .ok (.tuple #[.agg #[a,b,c,d],u]) w:=
 dm_ h tmps t fr u hp hq hg underlying58 rfl L_
theorem nA (h:fn.results=#[.cell p 56,.tmp q]) {b c:Value}
  (hp:tmps.getD p undef = P_ g) (hq:tmps.getD q undef=u) (hg:w.heap[g]?=some (.cells #[a,b,c] t fr)):(results fn tmps).run prog w = .ok (.tuple #[.agg #[a,b,c],u]) w:=
 dm_ h tmps t fr u hp hq hg underlying56 rfl V_
def fZ (c:Cn) (err:Int) (S:Nat->Prop) (w:World) (e:Ending) (w':World):Prop:=∃(h:Nat) (A:Option Addr) (cap:Nat),e = .returned (.tuple #[oD h A (f_ h c).kids.length cap (f_ h c).val (f_ h c).marks,I_ err])/\X_ h c/\(f_ h c).kids.length<=cap/\NK w' S A (f_ h c).kids/\q_ w w'
theorem fZ.err {err:Int} (h:q_ w w'):fZ eC err S w (.returned (.tuple #[oD 0 none 0 0 0 0,I_ err])) w':=
 ⟨0,none,0,by rfl,X_.zero,Nat.zero_le _,.nil _,h⟩
def gG (i:Int):Bool:=decide (0<=i/\i<=255)
theorem nV (h:gG i=true):0<=i/\i<=255:=by simpa [gG] using h
theorem aq_ (i:Int) (w:World):C_ 182 #[I_ i] w fun e w'=>e = .returned (.bool (gG i))/\w=w':=eE_ i w
def Z_ (c:Cn) (i v:Int):Cn × Int:=if gG i then (upd c i.toNat (v,0),0) else (eC,2)
def iN (c:Cn) (i m:Int):(Int × Int) × Int:=if gG i then (if dH m then (if (c i.toNat).1<=0 then ((0,0),4) else (c i.toNat,0)) else ((0,0),1)) else ((0,0),2)
abbrev nO (a b:Int):Int:=bits .andNot .i64 a b
abbrev gX (a b:Int):Int:=bits .and .i64 a b
def dJ (c:Cn) (i m:Int):Cn × Int:=if (iN c i m).2=0 then (upd c i.toNat ((c i.toNat).1,uP (c i.toNat).2 m),0) else (eC,(iN c i m).2)
def aV (c:Cn) (i m:Int):Cn × Int:=if (iN c i m).2=0 then (upd c i.toNat ((c i.toNat).1,nO (c i.toNat).2 m),0) else (eC,(iN c i m).2)
def D_ (c:Cn) (i:Int):Int:=if gG i then (c i.toNat).1 else 0
def jq_ (x:Int × Int) (err:Int) (w:World) (e:Ending) (w':World):Prop:=∃(A:Option Addr) (cap:Nat),e = .returned (.tuple #[lG A 0 cap x.1 x.2,I_ err])/\q_ w w'
theorem eO_ (m:Int) (w:World):C_ 192 #[I_ m] w fun e w'=>e = .returned (.bool (dH m))/\w=w':=ix_ m w
theorem b4_ (cap:Nat) (i m:Int) (hl:aX c) (ht:X_ h c) (hcap:(f_ h c).kids.length<=cap) (hk:NK w S A (f_ h c).kids) :
  C_ 210 #[oD h A (f_ h c).kids.length cap (f_ h c).val (f_ h c).marks,I_ i,I_ m] w (jq_ (iN c i m).1 (iN c i m).2 w):=by
 have g:=fun (j:Nat) w' (J:j<256) (x:q_ w w')=>en_ cap j J ht hcap (hk.step x);obtain ⟨n,E⟩:∃n,(f_ h c).kids.length=n:=⟨_,rfl⟩;obtain ⟨v,hv⟩:∃v,(f_ h c).val=v:=⟨_,rfl⟩;obtain ⟨F,D⟩:∃m,(f_ h c).marks=m:=⟨_,rfl⟩;have o:=fun w' (x:q_ w w')=>qG h (f_ h c) cap (eA _ _) hcap (hk.step x);rw [fX hl ht] at o;have N:=H_ ht;have L:=H_ hcap;have M:=H_ (fun w' (x:q_ w w')=>hk.step x);rw [E,hv,D] at o ⊢;have C:=H_ (m_ (g_ w (.cells #[I_ (h:Int),S_ A n cap,I_ v,I_ F] 58)) (.cells #[S_ none 0 0,I_ 0,I_ 0] 56));have z:=H_ (l_ (w.alloc (.cells #[I_ (h:Int),S_ A n cap,I_ v,I_ F] 58)) (.cells #[S_ none 0 0,I_ 0,I_ 0] 56) (w+1) z_);have B:=H_ (b_ (b_ (aI (w) w) (.cells #[I_ (h:Int),S_ A n cap,I_ v,I_ F] 58)) (.cells #[S_ none 0 0,I_ 0,I_ 0] 56));rw [E,hv,D] at g;clear E hv D hk hl ht;have k:=fun w=>aq_ i w;have l:=fun w=>eO_ m w
 cases hib:gG i with
 | true=>
  rw [hib] at k
  cases hob:dH m with
  | true=>
   rw [hob] at l;obtain ⟨j,rfl⟩:=sG (nV hib).1;have J:=(nV hib).2;have r:=fun w' x=>g j w' O_ x
   by_cases s:(c j).1<=0
   ·have t:=H_ (show iN c j m=((0,0),4) by unfold iN;rw [hib,hob,Int.toNat_natCast];simp [s]);clear g hib hob;generalize c j=y at r s;go_enter func210,ntmps210
    go_wp2_with (first
     | (go_at_call 181;(with_reducible refine CM (o _ fD) ?_);rintro e w1 ⟨rfl,f⟩;obtain ⟨d,a,b⟩:=bN C z B f;obtain ⟨x0,G,H,I⟩:=iH d.out)
     | (go_at_call 182;(with_reducible refine CM (k _) ?_);rintro e w2 ⟨rfl,rfl⟩)
     | (go_at_call 192;(with_reducible refine CM (l _) ?_);rintro e w2 ⟨rfl,rfl⟩)
     | (go_at_call 183;(with_reducible refine CM (r _ b.out) ?_);rintro e w2 ⟨A',cap',rfl,q⟩;have p:=H_ (m_ (i_ a q) (.cells #[S_ A' 0 cap',I_ y.1,I_ y.2] 56));have u:=H_ (b_ (d_ b q) (.cells #[S_ A' 0 cap',I_ y.1,I_ y.2] 56)))
     | (refine cV rfl 56 (.tmp 6) (.tmp 27) rfl rfl (w+1) #[S_ none 0 0,I_ 0,I_ 0] rfl rfl 56 _ (p) V_ rfl (aN) ?_))
    show bodyPost prog f210 _ _ _ _
    refine bodyPost_ret (nA rfl rfl rfl (setRow_heap _ _ _ _ _ _ p)) rfl ?_;rw [t.out];exact ⟨_,_,rfl,j_ u.out O_ _⟩
   ·have t:=H_ (show iN c j m=(c j,0) by unfold iN;rw [hib,hob,Int.toNat_natCast];simp [s]);clear g hib hob;obtain ⟨y,K⟩:∃y,c j=y:=⟨_,rfl⟩;rw [K] at r s t;clear K;go_enter func210,ntmps210
    go_wp2_with (first
     | (go_at_call 181;(with_reducible refine CM (o _ fD) ?_);rintro e w1 ⟨rfl,f⟩;obtain ⟨d,a,b⟩:=bN C z B f;obtain ⟨x0,G,H,I⟩:=iH d.out)
     | (go_at_call 182;(with_reducible refine CM (k _) ?_);rintro e w2 ⟨rfl,rfl⟩)
     | (go_at_call 192;(with_reducible refine CM (l _) ?_);rintro e w2 ⟨rfl,rfl⟩)
     | (go_at_call 183;(with_reducible refine CM (r _ b.out) ?_);rintro e w2 ⟨A',cap',rfl,q⟩;have p:=H_ (m_ (i_ a q) (.cells #[S_ A' 0 cap',I_ y.1,I_ y.2] 56));have u:=H_ (b_ (d_ b q) (.cells #[S_ A' 0 cap',I_ y.1,I_ y.2] 56)))
     | (refine cV rfl 56 (.tmp 6) (.tmp 28) rfl rfl (w+1) #[S_ A' 0 cap',I_ y.1,I_ y.2] rfl rfl 56 _ (p) V_ rfl (aN) ?_))
    show bodyPost prog f210 _ _ _ _
    refine bodyPost_ret (nA rfl rfl rfl (setRow_heap _ _ _ _ _ _ p)) rfl ?_;rw [t.out];exact ⟨_,_,rfl,j_ u.out O_ _⟩
  | false=>
   rw [hob] at l;have t:=H_ (show iN c i m=((0,0),1) by unfold iN;rw [hib,hob];simp);clear g hib hob;go_enter func210,ntmps210
   go_wp2_with (first
    | (go_at_call 181;(with_reducible refine CM (o _ fD) ?_);rintro e w1 ⟨rfl,f⟩;obtain ⟨d,a,b⟩:=bN C z B f;obtain ⟨x0,G,H,I⟩:=iH d.out)
    | (go_at_call 182;(with_reducible refine CM (k _) ?_);rintro e w2 ⟨rfl,rfl⟩)
    | (go_at_call 192;(with_reducible refine CM (l _) ?_);rintro e w2 ⟨rfl,rfl⟩)
    | (refine cV rfl 56 (.tmp 6) (.tmp 20) rfl rfl (w+1) #[S_ none 0 0,I_ 0,I_ 0] rfl rfl 56 _ (a) V_ rfl (aN) ?_))
   show bodyPost prog f210 _ _ _ _
   refine bodyPost_ret (nA rfl rfl rfl (setRow_heap _ _ _ _ _ _ a)) rfl ?_;rw [t.out];exact ⟨_,_,rfl,j_ b.out O_ _⟩
 | false=>
  rw [hib] at k;have t:=H_ (show iN c i m=((0,0),2) by unfold iN;rw [hib];simp);clear g hib;go_enter func210,ntmps210
  go_wp2_with (first
   | (go_at_call 181;(with_reducible refine CM (o _ fD) ?_);rintro e w1 ⟨rfl,f⟩;obtain ⟨d,a,b⟩:=bN C z B f;obtain ⟨x0,G,H,I⟩:=iH d.out)
   | (go_at_call 182;(with_reducible refine CM (k _) ?_);rintro e w2 ⟨rfl,rfl⟩)
   | (go_at_call 192;(with_reducible refine CM (l _) ?_);rintro e w2 ⟨rfl,rfl⟩)
   | (refine cV rfl 56 (.tmp 6) (.tmp 16) rfl rfl (w+1) #[S_ none 0 0,I_ 0,I_ 0] rfl rfl 56 _ (a) V_ rfl (aN) ?_))
  show bodyPost prog f210 _ _ _ _
  refine bodyPost_ret (nA rfl rfl rfl (setRow_heap _ _ _ _ _ _ a)) rfl ?_;rw [t.out];exact ⟨_,_,rfl,j_ b.out O_ _⟩
theorem b3_ (h:(iN c i m).2=0):gG i=true/\dH m=true/\0<(c i.toNat).1/\iN c i m=(c i.toNat,0):=by
 unfold iN at h ⊢
 cases h1:gG i with
 | false=>rw [h1] at h;simp at h
 | true=>
  rw [h1] at h
  cases h2:dH m with
  | false=>rw [h2] at h;simp at h
  | true=>
   rw [h2] at h
   by_cases h3:(c i.toNat).1<=0
   ·simp [h3] at h
   ·simp [h3];omega
theorem jQ_ (cap:Nat) (i m:Int) (hl:aX c) (ht:X_ h c) (hcap:(f_ h c).kids.length<=cap) (hk:NK w S A (f_ h c).kids) (hS:∀b,w.heap.size<=b->S b) :
  C_ 178 #[oD h A (f_ h c).kids.length cap (f_ h c).val (f_ h c).marks,I_ i,I_ m] w (fZ (dJ c i m).1 (dJ c i m).2 S w):=by
 have k:=fun (j:Nat) q r y z w' (N:j<256) (f:q_ w w') (B:w.heap.size+1<w'.heap.size)=>fE_ cap (fun z=>S z/\z≠w.heap.size+1) j q r y z N ht hcap ((hk.weak fun z B h=>⟨h,O_⟩).step f) (fun b U=>⟨hS b (dO f.size O_),O_⟩);have a:=fun w' (f:q_ w w')=>b4_ cap i m hl ht hcap (hk.step f);obtain ⟨n,G⟩:∃n,(f_ h c).kids.length=n:=⟨_,rfl⟩;obtain ⟨v,hv⟩:∃v,(f_ h c).val=v:=⟨_,rfl⟩;obtain ⟨J,F⟩:∃m,(f_ h c).marks=m:=⟨_,rfl⟩;have p:=fun w' (f:q_ w w')=>qG h (f_ h c) cap (eA _ _) hcap (hk.step f);rw [fX hl ht] at p;have X:=H_ ht;have V:=H_ hcap;have W:=H_ (fun w' (f:q_ w w')=>hk.step f);rw [G,hv,F] at p ⊢;have P:=H_ (m_ (g_ w (.cells #[I_ (h:Int),S_ A n cap,I_ v,I_ J] 58)) (.cells #[I_ 0,S_ none 0 0,I_ 0,I_ 0] 58));have K:=H_ (l_ (w.alloc (.cells #[I_ (h:Int),S_ A n cap,I_ v,I_ J] 58)) (.cells #[I_ 0,S_ none 0 0,I_ 0,I_ 0] 58) (w+1) z_);have L:=H_ (b_ (b_ (aI (w) w) (.cells #[I_ (h:Int),S_ A n cap,I_ v,I_ J] 58)) (.cells #[I_ 0,S_ none 0 0,I_ 0,I_ 0] 58));rw [G,hv,F] at k a;clear G hv F hk hS hl ht p
 by_cases o:(iN c i m).2=0
 ·obtain ⟨h1,h2,h3,M⟩:=b3_ o;obtain ⟨j,rfl⟩:=sG (nV h1).1;have N:=(nV h1).2;have t:=H_ (show dJ c j m=(upd c j ((c j).1,uP (c j).2 m),0) by unfold dJ;rw [if_pos o,Int.toNat_natCast]);have I:=fun q r y z w' f B=>k j q r y z w' O_ f B;rw [M,Int.toNat_natCast] at a;clear k o h1 h2 h3 M;obtain ⟨y,O⟩:∃y,c j=y:=⟨_,rfl⟩;rw [O] at a t;clear O;go_enter func178,ntmps178
  go_wp2_with (first
   | (go_at_call 210;(with_reducible refine CM (a _ fD) ?_);rintro e w1 ⟨q,r,rfl,g⟩;obtain ⟨u,d,l⟩:=bN P K L g;obtain ⟨x0,x1,x2,x3⟩:=iH u.out;have Y:=p_ u;have Z:=p_ d)
   | (go_at_call 211;(with_reducible refine CM (I _ _ _ _ _ fD (by simp;omega)) ?_);rintro e w2 ⟨h',A',cap',rfl,H,D,E,x⟩;have s:=H_ (i_ (m_ d _) x);have C:=H_ (d_ (b_ l _) x))
   | (refine cV rfl 58 (.tmp 6) (.tmp 29) rfl rfl (w+1) #[I_ (h':Int),S_ A' (f_ h' (upd c j (y.1,uP y.2 m))).kids.length cap',I_ (f_ h' (upd c j (y.1,uP y.2 m))).val,I_ (f_ h' (upd c j (y.1,uP y.2 m))).marks] rfl rfl 58 _ (s) L_ rfl (aD) ?_))
  show bodyPost prog f178 _ _ _ _
  refine bodyPost_ret (bM rfl rfl rfl (setRow_heap _ _ _ _ _ _ s)) rfl ?_;rw [t.out];exact ⟨h',A',cap',rfl,H,D,(E.kept (by simp [World.setRow]) (fun z B _=>setRow_other _ _ _ _ B.2)).weak fun _ _ h=>h.1,j_ C.out O_ _⟩
 ·have t:=H_ (show dJ c i m=(eC,(iN c i m).2) by unfold dJ;rw [if_neg o]);have Q:((iN c i m).2 == 0)=false:=beq_eq_false_iff_ne.2 o;have R:((iN c i m).2 != 0)=true:=bne_iff_ne.2 o;generalize iN c i m=y at a t Q R;clear k o;go_enter func178,ntmps178
  go_wp2_with (first
   | (go_at_call 210;(with_reducible refine CM (a _ fD) ?_);rintro e w1 ⟨q,r,rfl,g⟩;have d:=H_ (m_ (i_ K g) (.cells #[S_ q 0 r,I_ y.1.1,I_ y.1.2] 56));have l:=H_ (b_ (d_ L g) (.cells #[S_ q 0 r,I_ y.1.1,I_ y.1.2] 56)))
   | (refine cV rfl 58 (.tmp 6) (.tmp 19) rfl rfl (w+1) #[I_ 0,S_ none 0 0,I_ 0,I_ 0] rfl rfl 58 _ (d) L_ rfl (aD) ?_))
  show bodyPost prog f178 _ _ _ _
  refine bodyPost_ret (bM rfl rfl rfl (setRow_heap _ _ _ _ _ _ d)) rfl ?_;rw [t.out];exact fZ.err (j_ l.out O_ _)
theorem hg_ (cap:Nat) (i m:Int) (hl:aX c) (ht:X_ h c) (hcap:(f_ h c).kids.length<=cap) (hk:NK w S A (f_ h c).kids) (hS:∀b,w.heap.size<=b->S b) :
  C_ 177 #[oD h A (f_ h c).kids.length cap (f_ h c).val (f_ h c).marks,I_ i,I_ m] w (fZ (aV c i m).1 (aV c i m).2 S w):=by
 have k:=fun (j:Nat) q r y z w' (N:j<256) (f:q_ w w') (B:w.heap.size+1<w'.heap.size)=>fE_ cap (fun z=>S z/\z≠w.heap.size+1) j q r y z N ht hcap ((hk.weak fun z B h=>⟨h,O_⟩).step f) (fun b U=>⟨hS b (dO f.size O_),O_⟩);have a:=fun w' (f:q_ w w')=>b4_ cap i m hl ht hcap (hk.step f);obtain ⟨n,G⟩:∃n,(f_ h c).kids.length=n:=⟨_,rfl⟩;obtain ⟨v,hv⟩:∃v,(f_ h c).val=v:=⟨_,rfl⟩;obtain ⟨J,F⟩:∃m,(f_ h c).marks=m:=⟨_,rfl⟩;have p:=fun w' (f:q_ w w')=>qG h (f_ h c) cap (eA _ _) hcap (hk.step f);rw [fX hl ht] at p;have X:=H_ ht;have V:=H_ hcap;have W:=H_ (fun w' (f:q_ w w')=>hk.step f);rw [G,hv,F] at p ⊢;have P:=H_ (m_ (g_ w (.cells #[I_ (h:Int),S_ A n cap,I_ v,I_ J] 58)) (.cells #[I_ 0,S_ none 0 0,I_ 0,I_ 0] 58));have K:=H_ (l_ (w.alloc (.cells #[I_ (h:Int),S_ A n cap,I_ v,I_ J] 58)) (.cells #[I_ 0,S_ none 0 0,I_ 0,I_ 0] 58) (w+1) z_);have L:=H_ (b_ (b_ (aI (w) w) (.cells #[I_ (h:Int),S_ A n cap,I_ v,I_ J] 58)) (.cells #[I_ 0,S_ none 0 0,I_ 0,I_ 0] 58));rw [G,hv,F] at k a;clear G hv F hk hS hl ht p
 by_cases o:(iN c i m).2=0
 ·obtain ⟨h1,h2,h3,M⟩:=b3_ o;obtain ⟨j,rfl⟩:=sG (nV h1).1;have N:=(nV h1).2;have t:=H_ (show aV c j m=(upd c j ((c j).1,nO (c j).2 m),0) by unfold aV;rw [if_pos o,Int.toNat_natCast]);have I:=fun q r y z w' f B=>k j q r y z w' O_ f B;rw [M,Int.toNat_natCast] at a;clear k o h1 h2 h3 M;obtain ⟨y,O⟩:∃y,c j=y:=⟨_,rfl⟩;rw [O] at a t;clear O;go_enter func177,ntmps177
  go_wp2_with (first
   | (go_at_call 210;(with_reducible refine CM (a _ fD) ?_);rintro e w1 ⟨q,r,rfl,g⟩;obtain ⟨u,d,l⟩:=bN P K L g;obtain ⟨x0,x1,x2,x3⟩:=iH u.out;have Y:=p_ u;have Z:=p_ d)
   | (go_at_call 211;(with_reducible refine CM (I _ _ _ _ _ fD (by simp;omega)) ?_);rintro e w2 ⟨h',A',cap',rfl,H,D,E,x⟩;have s:=H_ (i_ (m_ d _) x);have C:=H_ (d_ (b_ l _) x))
   | (refine cV rfl 58 (.tmp 6) (.tmp 29) rfl rfl (w+1) #[I_ (h':Int),S_ A' (f_ h' (upd c j (y.1,nO y.2 m))).kids.length cap',I_ (f_ h' (upd c j (y.1,nO y.2 m))).val,I_ (f_ h' (upd c j (y.1,nO y.2 m))).marks] rfl rfl 58 _ (s) L_ rfl (aD) ?_))
  show bodyPost prog f177 _ _ _ _
  refine bodyPost_ret (bM rfl rfl rfl (setRow_heap _ _ _ _ _ _ s)) rfl ?_;rw [t.out];exact ⟨h',A',cap',rfl,H,D,(E.kept (by simp [World.setRow]) (fun z B _=>setRow_other _ _ _ _ B.2)).weak fun _ _ h=>h.1,j_ C.out O_ _⟩
 ·have t:=H_ (show aV c i m=(eC,(iN c i m).2) by unfold aV;rw [if_neg o]);have Q:((iN c i m).2 == 0)=false:=beq_eq_false_iff_ne.2 o;have R:((iN c i m).2 != 0)=true:=bne_iff_ne.2 o;generalize iN c i m=y at a t Q R;clear k o;go_enter func177,ntmps177
  go_wp2_with (first
   | (go_at_call 210;(with_reducible refine CM (a _ fD) ?_);rintro e w1 ⟨q,r,rfl,g⟩;have d:=H_ (m_ (i_ K g) (.cells #[S_ q 0 r,I_ y.1.1,I_ y.1.2] 56));have l:=H_ (b_ (d_ L g) (.cells #[S_ q 0 r,I_ y.1.1,I_ y.1.2] 56)))
   | (refine cV rfl 58 (.tmp 6) (.tmp 19) rfl rfl (w+1) #[I_ 0,S_ none 0 0,I_ 0,I_ 0] rfl rfl 58 _ (d) L_ rfl (aD) ?_))
  show bodyPost prog f177 _ _ _ _
  refine bodyPost_ret (bM rfl rfl rfl (setRow_heap _ _ _ _ _ _ d)) rfl ?_;rw [t.out];exact fZ.err (j_ l.out O_ _)
end
section
theorem jI_ (A:Option Addr) (cap:Nat) (v m:Int) (w:World):(Instr.field 56 (lG A 0 cap v m) 1).run prog w = .ok (I_ v) w:=by kernel_rfl
theorem jJ_ (cap:Nat) (i:Int) (hl:aX c) (ht:X_ h c) (hcap:(f_ h c).kids.length<=cap) (hk:NK w S A (f_ h c).kids) :
  C_ 126 #[oD h A (f_ h c).kids.length cap (f_ h c).val (f_ h c).marks,I_ i] w (sB (D_ c i) w):=by
 have b:=fun (j:Nat) w' (z:j<256) (l:q_ w w')=>en_ cap j z ht hcap (hk.step l);obtain ⟨n,s⟩:∃n,(f_ h c).kids.length=n:=⟨_,rfl⟩;obtain ⟨v,hv⟩:∃v,(f_ h c).val=v:=⟨_,rfl⟩;obtain ⟨B,r⟩:∃m,(f_ h c).marks=m:=⟨_,rfl⟩;have f:=fun w' (l:q_ w w')=>qG h (f_ h c) cap (eA _ _) hcap (hk.step l);rw [fX hl ht] at f;rw [s,hv,r] at f ⊢;have u:=H_ (g_ w (.cells #[I_ (h:Int),S_ A n cap,I_ v,I_ B] 58));have t:=H_ (b_ (aI (w) w) (.cells #[I_ (h:Int),S_ A n cap,I_ v,I_ B] 58));rw [s,hv,r] at b;clear s hv r hk hl ht;have d:=fun w=>aq_ i w
 cases hib:gG i with
 | true=>
  rw [hib] at d;obtain ⟨j,rfl⟩:=sG (nV hib).1;have z:=(nV hib).2;have o:=fun w' l=>b j w' O_ l;have p:=H_ (show D_ c j=(c j).1 by unfold D_;rw [hib,Int.toNat_natCast];rfl);clear b hib;generalize c j=y at o p;have x:=fun A' cap' w=>jI_ A' cap' y.1 y.2 w;go_enter func126,ntmps126
  go_wp2_with (first
   | (go_at_call 181;(with_reducible refine CM (f _ fD) ?_);rintro e w1 ⟨rfl,k⟩;obtain ⟨g,a⟩:=gZ u t k;obtain ⟨x0,C,D,E⟩:=iH g.out)
   | (go_at_call 182;(with_reducible refine CM (d _) ?_);rintro e w2 ⟨rfl,rfl⟩)
   | (go_at_call 183;(with_reducible refine CM (o _ a.out) ?_);rintro e w2 ⟨A',cap',rfl,q⟩))
  go_ret;exact ⟨by rw [p.out];rfl,d_ a q⟩
 | false=>
  rw [hib] at d;have p:=H_ (show D_ c i=0 by unfold D_;rw [hib];rfl);clear b hib;go_enter func126,ntmps126
  go_wp2_with (first | (go_at_call 181;(with_reducible refine CM (f _ fD) ?_);rintro e w1 ⟨rfl,k⟩;obtain ⟨g,a⟩:=gZ u t k;obtain ⟨x0,C,D,E⟩:=iH g.out) | (go_at_call 182;(with_reducible refine CM (d _) ?_);rintro e w2 ⟨rfl,rfl⟩))
  go_ret;exact ⟨by rw [p.out];rfl,a⟩
end
section
theorem e3_ {sz:Nat} {xs:List Value} (h:w.ownsRow B t sz v n xs):∀g,v.ownBlock=some g->g<w.heap.size:=fun g hg=>(h.lt g hg).2
end
section
theorem cu_:∀(h:Nat) (c:Cn) (A:Option Addr) (cap:Nat) (v:Value) (B:Nat) (L:List En) (base:Nat) (w:World),h<=4->base+4 ^ h<=256->L.length+4 ^ h<=1000->(f_ h c).kids.length<=cap->B<=w.heap.size->NK w (fun z=>v.ownBlock≠some z) A (f_ h c).kids->w.ownsRow B 160 3 v L.length (oN L)->
  C_ 160 #[v,lG A (f_ h c).kids.length cap (f_ h c).val (f_ h c).marks,I_ h,I_ base] w (ku_ B (L ++ aH base (4 ^ h) c) v w):=by
 intro h
 induction h with
 | zero=>
  intro c A cap v B L base w hh F S Q hB hk a;obtain ⟨i0,hi,av,aw,ax⟩:=info_parts kY;have r:=fun w=>mK A 0 cap (c 0).1 (c 0).2 w;rw [show rP 0 (c 0).1 (c 0).2=(f_ 0 c).emB from rfl,cH,show 4 ^ 0=1 from rfl] at r;rw [show (f_ 0 c).kids.length=0 from rfl,show (f_ 0 c).val=(c 0).1 from rfl,show (f_ 0 c).marks=(c 0).2 from rfl,show 4 ^ 0=1 from rfl];have f:=e3_ a;have HS:=H_ (LS.refl a);have l:=H_ (g_ w (.cells #[S_ A 0 cap,I_ (c 0).1,I_ (c 0).2] 56));have H:=H_ (b_ (aI (w) w) (.cells #[S_ A 0 cap,I_ (c 0).1,I_ (c 0).2] 56))
  cases j:bP 1 c with
  | true=>
   rw [j] at r;have HE:=H_ (jW (base:=base) j);clear j a f;generalize (c 0).1=y at *;generalize (c 0).2=s at *;go_enter func160,ntmps160
   go_wp2_with (go_at_call 204;(with_reducible refine CM (r _) ?_);rintro e w1 ⟨rfl,d⟩;have E:=lJ l d;obtain ⟨x0,x1,x2⟩:=cL E.out)
   go_ret;rw [HE.out,List.append_nil]
   exact ⟨v,rfl,(HS.step H.out).step d⟩
  | false=>
   rw [j] at r;have HE:=H_ (uD (base:=base) j);clear j a f;generalize (c 0).1=y at *;generalize (c 0).2=s at *;go_enter func160,ntmps160
   go_wp2_with (first
    | (go_at_call 204;(with_reducible refine CM (r _) ?_);rintro e w1 ⟨rfl,d⟩;have E:=lJ l d;have C:=H_ ((HS.step H.out).step d);obtain ⟨x0,x1,x2⟩:=cL E.out;have au:=C.gr.size)
    | (at_builtin;(refine wpList_append_lies _ rfl (.tmp 15) (.tmp 22) 157 rfl B 160 i0 _ 3 24 underlying157 hi av aw ax rfl O_ v L.length (oN L) rfl ((dA C.own (b_ B_ _))) ⟨_,0,none⟩ 1 1 [I_ (base:Int),I_ y,I_ s] rfl rfl (World.news_of_block (l_ _ _ _ (by first | rfl | simp))) (by simp [Value.oneCell']) O_ (by unfold maxLen;omega) O_ (by simp;omega) _ rfl ?_);intro gg dU w4 a4 ao ad az))
   go_ret;rw [HE.out]
   exact ⟨_,rfl,(C.step (b_ B_ _)).snoc a4 ao ad⟩
 | succ h ih=>
  intro c A cap v B L base w hh F S Q hB hk a;obtain ⟨n,j⟩:∃n,(f_ (h+1) c).kids.length=n:=⟨_,rfl⟩;obtain ⟨y,hy⟩:∃v,(f_ (h+1) c).val=v:=⟨_,rfl⟩;obtain ⟨s,hm⟩:∃m,(f_ (h+1) c).marks=m:=⟨_,rfl⟩;have b7:4 ^ h<=64:=show 4 ^ h<=4 ^ 3 from Nat.pow_le_pow_right O_ O_;have b6:1<=4 ^ h:=Nat.pow_pos O_;have V:=H_ (show 4 ^ (h+1)=4*4 ^ h by rw [Nat.pow_succ];omega);rw [j] at Q;have a7:=H_ (show bP (4 ^ (h+1)) c=false->(f_ (h+1) c).kids=N_ h c from fun j=>by rw [bE,j];rfl);have a6:=H_ (show bP (4 ^ (h+1)) c=true->n=0/\aH base (4 ^ (h+1)) c=[] from fun J=>⟨by rw [<-j,dL J];rfl,jW J⟩);have aj:=H_ (fun k=>wE base (4 ^ h) k c);have f:=e3_ a;have X:=H_ (LS.refl (dA a (b_ (aI (w) w) (.cells #[S_ A n cap,I_ y,I_ s] 56))));have Z:=H_ (LS.refl a |>.step (b_ (aI (w) w) (.cells #[S_ A n cap,I_ y,I_ s] 56)));have l:=H_ (g_ w (.cells #[S_ A n cap,I_ y,I_ s] 56));have U:=H_ (hk.alloc (.cells #[S_ A n cap,I_ y,I_ s] 56));have Hn:=H_ j;have r:=fun w=>mK A n cap y s w;rw [show rP n y s=bP (4 ^ (h+1)) c by rw [<-j,<-hy,<-hm];exact cH (h+1) c] at r;rw [V.out] at r;have ar:=fun w=>gQ h w O_;rw [j,hy,hm,V.out,show ((h+1:Nat):Int)=(h:Int)+1 by omega];rw [V.out] at F S a7 a6;obtain ⟨b,hb⟩:=aZ w.heap.size;have a5:=H_ hb;have ah:v.ownBlock≠some b:=fun e=>by have:=f b e;omega
  rw [<-hb] at l;have ak:=H_ ah;have a3:b<(w.alloc (.cells #[S_ A n cap,I_ y,I_ s] 56)).heap.size:=by simp;omega
  generalize hW0:w.alloc (.cells #[S_ A n cap,I_ y,I_ s] 56)=W0 at X Z l U a3;have P:=H_ hW0;have q4:((h:Int)+1 == 0)=false:=beq_eq_false_iff_ne.2 O_;have q5:=fA (x:=(h:Int)) O_;generalize hp:4 ^ h=p at *;have Hp:=H_ hp;clear hp;clear j hy hm hk a ah hW0 hb f
  cases J:bP (4*p) c with
  | true=>
   obtain ⟨rfl,hE⟩:=a6.out J;rw [J] at r;have HE:=H_ hE;clear J hE;go_enter func160,ntmps160
   go_wp2_with (go_at_call 204;(with_reducible refine CM (r _) ?_);rintro e w1 ⟨rfl,d⟩)
   go_ret;rw [HE.out,List.append_nil]
   exact ⟨v,rfl,Z.step (by rw [<-P.out];exact d)⟩
  | false=>
   rw [J] at r;have a2:=a7 J;have h4:n=4:=by rw [<-Hn.out,a2,Q_]
   subst h4;rw [a2] at U;clear J a2;go_enter func160,ntmps160
   go_upto_region 5 with (go_at_call 204;(with_reducible refine CM (r _) ?_);rintro e w1 ⟨rfl,d⟩;have H:=H_ d)
   go_cut [5,9] (fun s5 s9 wx=>s5 = P_ b/\s9 = I_ 0/\q_ W0 wx)
   case first=>
    go_wp2;go_meet
    case rel=>exact ⟨by rw [a5.out],rfl,by rw [<-P.out];exact H.out⟩
   case rest=>
    obtain ⟨rfl,rfl,d⟩:=hcut;have E:=lJ l d;have C:=H_ (X.step d);have ay:=iS a3 d.size;clear q4 l X;go_wp2
    go_loopw [0,9] (fun s0 s9 wx=>∃(k:Nat),k<=4/\s9 = I_ k/\aW wx b #[S_ A 4 cap,I_ y,I_ s] 56/\LS W0 v B (L ++ aH base (k*p) c) s0 wx) (fun _ s9 _=>4 - (intOf s9).toNat)
    case atStart=>exact ⟨0,O_,rfl,E.out,by rw [Nat.zero_mul,qV,List.append_nil];exact C⟩
    case round=>
     obtain ⟨k,b4,rfl,hX,hS⟩:=hrel;have l:=H_ hX;clear hX;have HS:=H_ hS;have N:=hS.nk U;clear hS
     by_cases f:k<4
     ·obtain ⟨b',o,t,A',cap',rfl,b5,a0,M,ab,af,a1,G⟩:=N.at_ (i:=k) (by rw [Q_];exact f);rw [dN f,Hp.out] at M;injection M with M
      subst M;have R:=jV base (k*p) c;have ag:k*p+p<=4*p:=by
       have:=Nat.mul_le_mul_right p (show k+1<=4 by omega);rw [Nat.add_mul,Nat.one_mul] at this;exact this
      have u:=H_ (aj k);have D:=HS.out;obtain ⟨q,hq⟩:∃q,k*p=q:=⟨_,rfl⟩;have b2:i64.wrap ((k:Int)*(p:Int))=(q:Int):=by
       rw [<-Int.natCast_mul,hq];exact fA O_
      have aq:(k:Int)*(p:Int)=(q:Int):=by rw [<-Int.natCast_mul,hq]
      rw [hq] at u D R ag ab af a1 G;obtain ⟨Lk,I⟩:∃Lk,L ++ aH base q c=Lk:=⟨_,rfl⟩;have ap:Lk.length+p<=1000:=by rw [<-I,aL_];omega
      have a9:=H_ (show L ++ aH base ((k+1)*p) c=Lk ++ aH (base+q) p (sh c q) by rw [u.out,<-List.append_assoc,I]);rw [I] at D;have Y:=H_ D;have an:base+q+p<=256:=O_
      have au:=D.gr.size;have ae:=fun w' (hw:B<=w'.heap.size) N a=>ih (sh c q) A' cap' u0 B Lk (base+q) w' O_ an ap a1 hw N a;rw [show (((base+q:Nat)):Int)=(base:Int)+(q:Int) by omega] at ae;have k0:(0:Int)<=(k:Int):=O_
      have k1:(k:Int)<4:=O_
      have k2:(k:Int)<(cap:Int):=O_
      have b0:(0:Int)<=(base:Int)+(q:Int):=O_
      have b1:(base:Int)+(q:Int)<=256:=O_
      obtain ⟨c0,c1,c2⟩:=ab;have O:=H_ G;clear hq I D N G af a1 R ag HS u;generalize (f_ h (sh c q)).kids.length=kn at *;generalize (f_ h (sh c q)).val=kv at *;generalize (f_ h (sh c q)).marks=km at *;obtain ⟨x0,x1,x2⟩:=cL l.out;have lX:=p_ l;have wq:=fA (x:=(q:Int)) O_;have b8:=fA (x:=(base:Int)+(q:Int)) O_;have ai:=Y.ne a3 ak
      go_upto_region 8 with fail
      obtain ⟨W,am⟩:=aZ wr;subst am;refine T_ 15 45 [SP.eq u0,SP.eq (P_ b),SP.eq (S_ (some ⟨b',o,none⟩) 4 cap),SP.eq (I_ k),SP.eq (.pointer (some ⟨b',o+k*3,none⟩)),SP.eq (lG A' kn cap' kv km),SP.eq (I_ ((h:Int)+1)),SP.eq (I_ (h:Int)),SP.eq (I_ base),SP.eq (I_ k),SP.eq (I_ ((h:Int)+1)),SP.eq (I_ (h:Int)),SP.eq (I_ p),SP.eq (I_ q),SP.eq (I_ ((base:Int)+(q:Int)))] s_ s_ rfl ?_;simp only[vK];refine qC fun v0=>qC fun v1=>?_;simp only[ly];refine e_ (fun x g hd K hK=>?_) (fun v2=>?_)
      ·obtain rfl:v1=_:=hd 1 s_;have y0:=(g.cell (p:=⟨b,_,none⟩) lX).trans x0;go_simp;exact hK _ _ g B_ rfl
      simp only[ly];refine qC fun v3=>qC fun v4=>?_;simp only[ly];refine e_ (fun x g hd K hK=>?_) (fun v5=>?_)
      ·obtain rfl:v4=_:=hd 4 s_;have y0:=(g.cell (p:=⟨b',_,none⟩) a0).trans c0;have y1:=(g.cell (p:=⟨b',_,none⟩) a0).trans c1;have y2:=(g.cell (p:=⟨b',_,none⟩) a0).trans c2;go_simp;exact hK _ _ g B_ rfl
      simp only[ly];refine qC fun v6=>qC fun v7=>?_;simp only[ly];refine qC fun v8=>qC fun v9=>?_;simp only[ly];refine qC fun v10=>qC fun v11=>?_;simp only[ly];refine e_ (fun x g hd K hK=>?_) (fun v12=>?_)
      ·obtain rfl:v11=_:=hd 11 s_;go_simp
       go_at_call 205
       refine (ar x).mono ?_;rintro e w1 ⟨rfl,rfl⟩;exact hK _ _ g B_ rfl
      simp only[ly];refine qC fun v13=>qC fun v14=>?_;simp only[ly];refine aA ?_;intro x g hG;have e0:v0=u0:=hG 0 O_;subst e0;obtain rfl:v5=_:=hG 5 O_;obtain rfl:v7=_:=hG 7 O_;obtain rfl:v14=_:=hG 14 O_;have aa:=H_ (Y.step g);have a8:=H_ (O.step g);have al:=lJ l g;have b3:=g.size;clear hG g l Y O x0 x1 x2 c0 c1 c2
      go_wp2_with (go_at_call 160;(with_reducible refine CM (ae _ (by have:=a5.out;omega) a8.out aa.out.own) ?_);rintro e w1 ⟨v1,rfl,ac⟩)
      go_roundw
      case rel=>exact ⟨k+1,O_,by go_num,ac.bk al.out ai,by rw [a9.out];exact aa.trans ac⟩
      case measure=>exact bH
     ·obtain rfl:k=4:=O_
      go_wp2;go_ret
      exact ⟨_,rfl,Z.trans HS⟩
end
section
theorem wF (base:Nat) (c:Cn):∀n:Nat,(bP n c=true/\aH base n c=[])\/∃l' j,aH base n c=l' ++ [(((base+j:Nat):Int),(c j).1,(c j).2)]/\j<n/\c j≠(0,0)/\∀i,j<i->i<n->c i=(0,0)
 | 0=> .inl ⟨aU.2 fun i hi=>by omega,rfl⟩
 | n+1=>by
  have hadd:=uC base n 1 c
  by_cases hc:c n=(0,0)
  ·have h1:aH (base+n) 1 (sh c n)=[]:=jW (aU.2 fun i hi=>by
    obtain rfl:i=0:=O_
    show c (n+0)=_
    rw [Nat.add_zero];exact hc)
   rw [h1,List.append_nil] at hadd
   rcases wF base c n with ⟨h2,h3⟩ | ⟨l',j,h2,h3,h4,h5⟩
   ·refine .inl ⟨aU.2 fun i hi=>?_,by rw [hadd,h3]⟩
    rcases Nat.lt_or_ge i n with h | h
    ·exact aU.1 h2 i h
    ·obtain rfl:i=n:=O_
     exact hc
   ·refine .inr ⟨l',j,by rw [hadd,h2],O_,h4,fun i hi a=>?_⟩
    rcases Nat.lt_or_ge i n with h | h
    ·exact h5 i hi h
    ·obtain rfl:i=n:=O_
     exact hc
  ·have h1:aH (base+n) 1 (sh c n)=[(((base+n:Nat):Int),(c n).1,(c n).2)]:=uD (eG.2 ⟨0,O_,hc⟩);rw [h1] at hadd;exact .inr ⟨_,n,hadd,O_,hc,fun i hi a=>by omega⟩
theorem jK_ (h4:h<=4) (hj:j<4 ^ h):hf j=h↔(h=0\/4 ^ (h - 1)<=j):=by
 unfold hf
 match h,h4 with
 | 0,_=>simp at hj;simp [hj]
 | 1,_=>simp at hj ⊢;(repeat' split) <;> omega
 | 2,_=>simp at hj ⊢;(repeat' split) <;> omega
 | 3,_=>simp at hj ⊢;(repeat' split) <;> omega
 | 4,_=>simp at hj ⊢;(repeat' split) <;> omega
 | h+5,h4=>omega
theorem bM_ {h:Nat} (h4:h<=4) (hl:aX c) (hz:∀i,4 ^ h<=i->c i=(0,0)) :
  (aH 0 (4 ^ h) c=[]/\dI h (f_ h c)=decide (h=0))\/∃(l':List En) (j:Nat) (x y:Int),aH 0 (4 ^ h) c=l' ++ [((j:Int),x,y)]/\j<256/\dI h (f_ h c)=decide (h=hf j):=by
 have k:4 ^ h<=256:=show 4 ^ h<=4 ^ 4 from Nat.pow_le_pow_right O_ h4;have hv:dI h (f_ h c)=(decide (h=0)||gS (f_ h c)):=by
  unfold dI;rw [dT (show 0<=(h:Int)/\(h:Int)<=4 by omega),Int.toNat_natCast,oY h hl];simp
 rw [hv]
 rcases wF 0 c (4 ^ h) with ⟨h1,h2⟩ | ⟨l',j,h2,h3,h4',h5⟩
 ·refine .inl ⟨h2,?_⟩;rw [dL h1];simp [gS,T.nil,T.kids,eB]
 ·refine .inr ⟨l',j,_,_,by rw [h2,Nat.zero_add],O_,?_⟩;rw [Bool.eq_iff_iff,Bool.or_eq_true,decide_eq_true_eq,decide_eq_true_eq,eq_comm (b:=hf j),jK_ h4 h3]
  rcases h with _ | h
  ·simp
  ·rw [mY]
   constructor
   ·rintro (h0 | ⟨i,g,d,f⟩)
    ·omega
    ·refine .inr ?_;apply Classical.byContradiction;intro a;exact f (h5 i (by simp at a;omega) d)
   ·rintro (h0 | h0)
    ·omega
    ·exact .inr ⟨j,by simpa using h0,h3,h4'⟩
def dN_ (l:List En) (w:World) (e:Ending) (w':World):Prop:=∃v,e = .returned v/\w'.ownsRow (w) 160 3 v l.length (oN l)/\q_ w w'
theorem dN_.of {l:List En} (hw:q_ w wx) (h:LS wx (S_ none 0 0) (w) l v w'):dN_ l w (.returned v) w':=
 ⟨v,rfl,h.own,hw.trans ((show q_ wx w' from ⟨h.gr.os,h.gr.tape,h.gr.output,h.gr.size,fun k hk=>h.gr.block k hk (by simp [Value.ownBlock])⟩).mono hw.size)⟩
end
end Go.Proofs.YtehfhnbpnaiogaaGreatDoor
