/-
  Lemmas and contracts for the laws of this seat, part 5; several texts joined by a program.
-/
import Derived.Test.YtehfhnbpnaiogaaGreatDoorE04
import Derived.Test.YtehfhnbpnaiogaaGreatDoorE00
namespace Go.Proofs.YtehfhnbpnaiogaaGreatDoor
set_option linter.unusedVariables false
set_option linter.unusedSimpArgs false
set_option maxRecDepth 100000
set_option maxHeartbeats 16000000
open Go.RowKit Go.Proofs.Tryz IntKind
variable {A:Option Addr} {P:Program} {Q:Exit->Act->World->Prop} {S:Nat->Prop} {a:Act} {b base cap g h id j k n:Nat} {c:Cn} {e t:TypeId} {hI i m x:Int} {l:List Int} {o:Oper} {on:Bool} {ops:Array Oper} {rest:List Oper} {v v1 v2 v3:Value} {w w':World} {α:Type}
section
theorem zQ (hz:∀i,n<=i->c i=(0,0)):oL (aH 0 n c)=c:=by
 funext i
 show kR (aH 0 n c) (i:Int)=c i
 rw [as_ hz,if_pos O_,Int.toNat_natCast]
theorem wI {c:Cn} (hn:n<=256):oI (aH 0 n c):=fun e he=>by
 obtain ⟨j,hj,hne,rfl⟩:=fQ.1 he;exact ⟨by show (0:Int)<=((0+j:Nat):Int);omega,by show ((0+j:Nat):Int)<256;omega,hne⟩
def iU (l:List En) (i:Int):List En:=l.filter (fun e=>e.1 != i)
theorem dd_ {l:List En} {i:Int} {e:En} (h:l[k]?=some e):iU (l.take (k+1)) i=iU (l.take k) i ++ if e.1 != i then [e] else []:=by
 unfold iU;rw [List.take_add_one,h,Option.toList_some,List.filter_append,List.filter_cons,List.filter_nil]
theorem ce_ {l:List En} {i j:Int}:kR (iU l i) j=if j=i then (0,0) else kR l j:=by
 by_cases h:j=i
 ·subst h;rw [if_pos rfl];exact oQ fun e a=>by
   have:=(List.mem_filter.1 a).2
   simpa using this
 ·rw [if_neg h];unfold kR iU;rw [List.find?_filter]
  congr 2
  funext e
  by_cases a:e.1=j
  ·subst a;simp [h]
  ·have:(e.1 == j)=false:=beq_eq_false_iff_ne.2 a;rw [this];simp
theorem gw_ {l:List En} {e:En} {j:Int}:kR (l ++ [e]) j=if (l.find? (fun x=>x.1 == j)).isSome then kR l j else if e.1=j then e.2 else (0,0):=by
 unfold kR;rw [List.find?_append]
 cases l.find? (fun x=>x.1 == j) with
 | some x=>rfl
 | none=>
  simp only[Option.none_or,Option.isSome_none,List.find?_singleton]
  by_cases h:e.1=j
  ·simp [h]
  ·simp [h]
theorem e2_ {l:List En}:(iU l i).find? (fun x=>x.1 == i)=none:=by
 rw [List.find?_eq_none];intro e he;have:=(List.mem_filter.1 he).2
 simpa using this
theorem d2_ {l:List En}:oL (iU l j)=upd (oL l) j (0,0):=by
 funext k
 show kR (iU l j) (k:Int)=if k=j then (0,0) else kR l (k:Int)
 rw [ce_]
 by_cases h:k=j
 ·subst h;simp
 ·rw [if_neg h,if_neg O_]
theorem d3_ {l:List En} {y:Int}:oL (iU l j ++ [((j:Int),y,0)])=upd (oL l) j (y,0):=by
 funext k
 show kR (iU l j ++ [((j:Int),y,0)]) (k:Int)=if k=j then (y,0) else kR l (k:Int)
 rw [gw_]
 by_cases h:k=j
 ·subst h;rw [e2_];simp
 ·rw [if_neg (show ¬(j:Int)=(k:Int) by omega),if_neg h];have h2:=ce_ (l:=l) (i:=(j:Int)) (j:=(k:Int));rw [if_neg O_] at h2;rw [<-h2]
  split
  ·rfl
  ·next hn=>
   unfold kR;rw [Option.not_isSome_iff_eq_none.1 hn]
theorem af_ {l:List En} (hg:oI l):oI (iU l i):=fun e he=>hg e (List.mem_filter.1 he).1
theorem et_ {l:List En} {e:En} (hg:oI l) (h:0<=e.1/\e.1<256/\e.2≠(0,0)):oI (l ++ [e]):=fun x hx=>by
 rcases List.mem_append.1 hx with hx | hx
 ·exact hg x hx
 ·simp at hx;subst hx;exact h
theorem az_ (l:List En) (i:Int):(iU l i).length<=l.length:=List.length_filter_le _ _
theorem bD_ (cap:Nat) (i y:Int) (hl:aX c) (ht:X_ h c) (hcap:(f_ h c).kids.length<=cap) (hk:NK w S A (f_ h c).kids) (hS:∀b,w.heap.size<=b->S b) :
  C_ 134 #[oD h A (f_ h c).kids.length cap (f_ h c).val (f_ h c).marks,I_ i,I_ y] w (fZ (Z_ c i y).1 (Z_ c i y).2 S w):=by
 have h4:=ht.1;have hp:4 ^ h<=256:=show 4 ^ h<=4 ^ 4 from Nat.pow_le_pow_right O_ h4;have HG:=H_ (wI (c:=c) hp);have L:=H_ (zQ ht.2.1);have af:=jV 0 (4 ^ h) c;have D:=fun w' (hb:q_ w w')=>pV h (f_ h c) cap (eA _ _) hcap (hk.step hb);rw [fX hl ht] at D;have C:=fun w' (hb:q_ w w')=>iX cap hl ht hcap (hk.step hb);obtain ⟨n,hn⟩:∃n,(f_ h c).kids.length=n:=⟨_,rfl⟩;obtain ⟨v,hv⟩:∃v,(f_ h c).val=v:=⟨_,rfl⟩;obtain ⟨mm,hm⟩:∃m,(f_ h c).marks=m:=⟨_,rfl⟩;rw [hn,hv,hm] at D C ⊢;have HX:=H_ (m_ (g_ w (.cells #[I_ (h:Int),S_ A n cap,I_ v,I_ mm] 58)) (.cells #[I_ 0,S_ none 0 0,I_ 0,I_ 0] 58));have J:=H_ (l_ (w.alloc (.cells #[I_ (h:Int),S_ A n cap,I_ v,I_ mm] 58)) (.cells #[I_ 0,S_ none 0 0,I_ 0,I_ 0] 58) (w+1) z_);have K:=H_ (b_ (b_ (aI (w) w) (.cells #[I_ (h:Int),S_ A n cap,I_ v,I_ mm] 58)) (.cells #[I_ 0,S_ none 0 0,I_ 0,I_ 0] 58));have a0:=H_ hS;obtain ⟨i0,hi,a9,aa,ab⟩:=info_parts kY;generalize aH 0 (4 ^ h) c=g at C HG L af;clear hn hv hm hk hS hl ht hcap
 by_cases q0:i<0
 ·have Y:=H_ (show Z_ c i y=(eC,2) by unfold Z_ gG;rw [dF O_];rfl);have q1:decide (i<0)=true:=dT q0;clear C;go_enter func134,ntmps134
  go_wp2_with (first
   | (go_at_call 159;(with_reducible refine CM (D _ fD) ?_);rintro e w1 ⟨rfl,B⟩;obtain ⟨x,p,t⟩:=bN HX J K B;obtain ⟨x0,x1,x2,x3⟩:=iH x.out)
   | (refine cV rfl 58 (.tmp 6) (.tmp 21) rfl rfl (w+1) #[I_ 0,S_ none 0 0,I_ 0,I_ 0] rfl rfl 58 _ (p) L_ rfl (aD) ?_))
  show bodyPost prog f134 _ _ _ _
  refine bodyPost_ret (bM rfl rfl rfl (setRow_heap _ _ _ _ _ _ p)) rfl ?_;rw [Y.out];exact fZ.err (j_ t.out O_ _)
 ·by_cases q1:255<i
  ·have Y:=H_ (show Z_ c i y=(eC,2) by unfold Z_ gG;rw [dF O_];rfl);clear C;go_enter func134,ntmps134
   go_wp2_with (first
    | (go_at_call 159;(with_reducible refine CM (D _ fD) ?_);rintro e w1 ⟨rfl,B⟩;obtain ⟨x,p,t⟩:=bN HX J K B;obtain ⟨x0,x1,x2,x3⟩:=iH x.out)
    | (refine cV rfl 58 (.tmp 6) (.tmp 21) rfl rfl (w+1) #[I_ 0,S_ none 0 0,I_ 0,I_ 0] rfl rfl 58 _ (p) L_ rfl (aD) ?_))
   show bodyPost prog f134 _ _ _ _
   refine bodyPost_ret (bM rfl rfl rfl (setRow_heap _ _ _ _ _ _ p)) rfl ?_;rw [Y.out];exact fZ.err (j_ t.out O_ _)
  ·obtain ⟨j,rfl⟩:=sG (show 0<=i by omega);have Y:=H_ (show Z_ c j y=(upd c j (y,0),0) by unfold Z_ gG;rw [dT O_];simp);have al:¬255<j:=O_
   have j0:(0:Int)<=(j:Int):=O_
   have j1:(j:Int)<=255:=O_
   go_enter func134,ntmps134
   go_wp2_with (first | (go_at_call 159;(with_reducible refine CM (D _ fD) ?_);rintro e w1 ⟨rfl,B⟩;obtain ⟨x,p,t⟩:=bN HX J K B;obtain ⟨x0,x1,x2,x3⟩:=iH x.out) | (go_at_call 102;(with_reducible refine CM (C _ t.out) ?_);rintro e w2 ⟨vv,rfl,a,a4⟩;obtain ⟨N,a1⟩:=gZ p t a4))
   have M:=H_ (EA.of_own (S:=gL) a (fun _ _=>trivial));have ae:=M.out;obtain ⟨A2,a2,rfl,ag,a5,_⟩:=ae;unfold maxLen at a5;clear a B a4 D C x p t x0 x1 x2 x3 HX J K
   go_loopw [9,10] (fun s9 s10 wx=>∃k:Nat,k<=g.length/\s10 = I_ k/\wx.ownsRow (w2) 160 3 s9 (iU (g.take k) j).length (oN (iU (g.take k) j))/\EA wx (fun z=>z<w2.heap.size) (S_ A2 g.length a2) g/\aW wx (w+1) #[I_ 0,S_ none 0 0,I_ 0,I_ 0] 58/\q_ w2 wx) (fun _ s10 _=>g.length - (intOf s10).toNat)
   case atStart=>exact ⟨0,O_,rfl,World.ownsRow_nil _ _ _ _,M.weak (fun b hb _=>hb),N.out,aI _ _⟩
   case round=>
    have ak:=p_ N;clear N M;obtain ⟨k,hk,rfl,a,Z,hR,hW⟩:=hrel;obtain ⟨f,M,J,K⟩:=sP a Z hR hW;have aj:=hW.size;clear a Z hR hW
    by_cases W:k<g.length
    ·obtain ⟨bb,o,cap',d,s,c',e0,_,_,ai,he,c0,c1,c2⟩:=M.at_ W;injection e0 with e0 _ e2
     subst e0;have HT:=H_ (dd_ (i:=(j:Int)) he);have a6:=az_ (g.take k) (j:Int);rw [List.length_take,Nat.min_eq_left hk] at a6;have k0:(0:Int)<=(k:Int):=O_
     have k1:(k:Int)<(g.length:Int):=O_
     clear he e2
     by_cases q:d=(j:Int)
     ·have F:=H_ (show (d != (j:Int))=false by simp [q]);have e1:(d != (j:Int))=false:=F;have e2:(d == (j:Int))=true:=by simp [q]
      clear q;go_wp2;go_roundw
      case rel=>exact ⟨k+1,O_,by go_num,by rw [HT.out,F.out];simpa using f.out,M.out,J.out,K.out⟩
      case measure=>exact bH
     ·have F:=H_ (show (d != (j:Int))=true by simp [q]);have e1:(d != (j:Int))=true:=F;have e2:(d == (j:Int))=false:=by simp [q]
      clear q;generalize iU (g.take k) j=acc at *
      go_wp2_with (at_builtin;(refine wpList_append_lies _ rfl (.tmp 37) (.tmp 42) 157 rfl (w2) 160 i0 _ 3 24 underlying157 hi a9 aa ab rfl O_ _ acc.length (oN acc) rfl (dA f.out (b_ B_ _)) ⟨_,0,none⟩ 1 1 [I_ d,I_ s,I_ c'] rfl rfl (World.news_of_block (l_ _ _ _ (by first | rfl | simp))) (by simp [Value.oneCell']) O_ (by unfold maxLen;omega) O_ (by simp;omega) _ rfl ?_);intro gg dU w4 u r a3 a7)
      go_roundw
      case rel=>
       refine ⟨k+1,O_,by go_num,by rw [HT.out,F.out];exact pL u,?_,?_,(b_ K _).grown r (b_ K _).size (fun z I=>(f.lt z I).1)⟩
       ·exact (M.step (b_ B_ _)).kept r.size (fun z I W=>r.block z W (fun e=>by have:=(f.lt z e.symm).1;omega))
       ·exact (r.block _ (by simp;omega) (fun e=>by have:=(f.lt _ e.symm).1;omega)).trans (m_ J.out _)
      case measure=>exact bH
    ·obtain rfl:k=g.length:=O_
     have a:=f.out;rw [List.take_length] at a;have a6:=az_ g (j:Int);have l:=H_ a;have P:=H_ (d_ a1 K);have ah:=a1.size;clear a f
     by_cases qy:y=0
     ·subst qy;have G:oL (iU g j)=upd c j (0,0):=by rw [d2_,L.out]
      have H:=fun w' (Z:EA w' gL u9 (iU g j))=>yD (fun z=>S z/\z≠w.heap.size+1) (af_ HG.out) O_ Z;rw [G] at H;have Q:=EA.of_own (S:=gL) l (fun _ _=>trivial);clear G
      go_wp2_with (first
       | (go_at_call 188;(with_reducible refine CM (H _ Q (fun z I=>⟨a0.out z (by omega),by omega⟩)) ?_);rintro e w3 ⟨h',A',cap',rfl,X,U,V,R⟩;obtain ⟨E,O⟩:=gZ J P R)
       | (refine cV rfl 58 (.tmp 6) (.tmp 53) rfl rfl (w+1) #[I_ (h':Int),S_ A' (f_ h' (upd c j (0,0))).kids.length cap',I_ (f_ h' (upd c j (0,0))).val,I_ (f_ h' (upd c j (0,0))).marks] rfl rfl 58 _ (E) L_ rfl (aD) ?_))
      show bodyPost prog f134 _ _ _ _
      refine bodyPost_ret (bM rfl rfl rfl (setRow_heap _ _ _ _ _ _ E)) rfl ?_;rw [Y.out];exact ⟨h',A',cap',rfl,X,U,(V.kept (by simp [World.setRow]) (fun z I _=>setRow_other _ _ _ _ I.2)).weak fun _ _ h=>h.1,j_ O.out O_ _⟩
     ·have y1:(y != 0)=true:=bne_iff_ne.2 qy;have y2:(y == 0)=false:=beq_eq_false_iff_ne.2 qy;have G:oL (iU g j ++ [((j:Int),y,0)])=upd c j (y,0):=by rw [d3_,L.out]
      have H:=fun vx w' (Z:EA w' gL vx (iU g j ++ [((j:Int),y,0)]))=>yD (fun z=>S z/\z≠w.heap.size+1) (et_ (af_ HG) ⟨j0,by show (j:Int)<256;omega,fun e=>by injection e with e _;exact qy e⟩) (by rw [aL_];simp;omega) Z
      rw [G] at H;clear G qy
      go_wp2_with (first
       | (at_builtin;(refine wpList_append_lies _ rfl (.tmp 46) (.tmp 50) 157 rfl (w2) 160 i0 _ 3 24 underlying157 hi a9 aa ab rfl O_ _ (iU g j).length (oN (iU g j)) rfl (dA l.out (b_ B_ _)) ⟨_,0,none⟩ 1 1 [I_ j,I_ y,I_ 0] rfl rfl (World.news_of_block (l_ _ _ _ (by first | rfl | simp))) (by simp [Value.oneCell']) O_ (by unfold maxLen;omega) O_ (by simp;omega) _ rfl ?_);intro gg dU w4 u r a3 a7;have ac:=H_ ((r.block (w+1) (by simp;omega) (fun e=>by have:=(l.lt _ e.symm).1;omega)).trans (m_ J.out _));have ad:=H_ ((b_ P (.cells #[I_ j,I_ y,I_ 0] 160)).grown r (b_ P _).size (fun z I=>by have:=(l.lt z I).1;omega));have Q:=EA.of_own (S:=gL) (pL u) (fun _ _=>trivial);have a8:=r.size;simp at a8)
       | (go_at_call 188;(with_reducible refine CM (H _ _ Q (fun z I=>⟨a0.out z (by omega),by omega⟩)) ?_);rintro e w3 ⟨h',A',cap',rfl,X,U,V,R⟩;obtain ⟨E,O⟩:=gZ ac ad R)
       | (refine cV rfl 58 (.tmp 6) (.tmp 53) rfl rfl (w+1) #[I_ (h':Int),S_ A' (f_ h' (upd c j (y,0))).kids.length cap',I_ (f_ h' (upd c j (y,0))).val,I_ (f_ h' (upd c j (y,0))).marks] rfl rfl 58 _ (E) L_ rfl (aD) ?_))
      show bodyPost prog f134 _ _ _ _
      refine bodyPost_ret (bM rfl rfl rfl (setRow_heap _ _ _ _ _ _ E)) rfl ?_;rw [Y.out];exact ⟨h',A',cap',rfl,X,U,(V.kept (by simp [World.setRow]) (fun z I _=>setRow_other _ _ _ _ I.2)).weak fun _ _ h=>h.1,j_ O.out O_ _⟩
end
section
theorem ae_ {p:En->Bool} {e':En} (he':p e'=false):∀(l:List En) (k:Nat),(∀e,l[k]?=some e->p e=false)->(l.set k e').find? p=l.find? p
 | [],_,_=>rfl
 | e :: l,0,h=>by
  rw [List.set_cons_zero,List.find?_cons,List.find?_cons,he',h e z_]
 | e :: l,k+1,h=>by
  rw [List.set_cons_succ,List.find?_cons,List.find?_cons,ae_ he' l k (fun x hx=>h x (by simpa using hx))]
theorem gx_ {l:List En} {j:Int} {v:Int} {x:Int × Int} (hf:iB l i=(k:Int)) (h:l[k]?=some (i,v,m)):kR (l.set k (i,x)) j=if j=i then x else kR l j:=by
 have q:=bK h
 by_cases g:j=i
 ·subst g;rw [if_pos rfl];have h1:(l.set k (j,x))[k]?=some (j,x.1,x.2):=by rw [nU q]
  have h2:iB (l.set k (j,x)) j=(k:Int):=ad_ h1 fun a d s c p b=>by
   rw [gN_ O_] at b;intro e;unfold iB at hf
   cases hx:l.findIdx? (fun e=>e.1 == j) with
   | none=>rw [hx] at hf;simp at hf
   | some k'=>
    rw [hx] at hf;obtain rfl:k'=k:=by simp only at hf;omega
    rw [List.findIdx?_eq_some_iff_getElem] at hx;obtain ⟨r,t,o⟩:=hx;have:=o a p;have n:a<l.length:=bK b;rw [cU n] at b;injection b with b
    rw [b] at this;simp [e] at this
  exact bo_ h2 h1
 ·rw [if_neg g];unfold kR;rw [ae_ (by simpa using fun e=>g e.symm) l k (fun e f=>by rw [h] at f;injection f with f;rw [<-f];simpa using fun e=>g e.symm)]
theorem zR {l:List En} {v:Int} {x:Int × Int} (hf:iB l j=(k:Int)) (h:l[k]?=some ((j:Int),v,m)):oL (l.set k ((j:Int),x))=upd (oL l) j x:=by
 funext a
 show kR _ (a:Int)=if a=j then x else kR l (a:Int)
 rw [gx_ hf h]
 by_cases e:a=j
 ·subst e;simp
 ·rw [if_neg e,if_neg O_]
theorem ag_ {l:List En} {e:En} (hg:oI l) (he:0<=e.1/\e.1<256/\e.2≠(0,0)):oI (l.set k e):=fun x hx=>by
 rcases List.mem_or_eq_of_mem_set hx with hx | rfl
 ·exact hg x hx
 ·exact he
theorem iF_ {B:Nat} {l:List En} {d s c:Int} (h:w.ownsRow B 160 3 v l.length (oN l)) (hk:l[k]?=some (d,s,c)) :
  ∃g cap,v = S_ (some ⟨g,0,none⟩) l.length cap/\l.length<=cap/\cap<=maxLen/\B<=g/\g<w.heap.size/\w.cell? ⟨g,k*3,none⟩=some (I_ d)/\w.cell? ⟨g,k*3+1,none⟩=some (I_ s)/\w.cell? ⟨g,k*3+2,none⟩=some (I_ c)/\w.frozen? ⟨g,k*3+2,none⟩=false/\
   ∀x:Int,EA (w.setCell ⟨g,k*3+2,none⟩ (I_ x)) gL v (l.set k (d,s,x)):=by
 have n:=bK hk
 rcases h.2 with ⟨h1,h2⟩ | ⟨g,cap,cur,h1,h2,h3,h4,h5,h6,h7⟩
 ·omega
 ·have b:∀j,j<l.length*3->w.cell? ⟨g,j,none⟩=(oN l)[j]?:=fun j t=>by
   rw [<-h7,List.getElem?_take,if_pos t];simp [World.cell?,h3]
  obtain ⟨x0,o,y⟩:=sM l k d s c hk;have f:=(b (k*3+2) O_).trans y;refine ⟨g,cap,h1,h4,h5,h2,p_ h3,(b _ O_).trans x0,(b _ O_).trans o,f,t_ h3 _,fun x=>?_⟩;refine ⟨_,cap,by rw [h1,lL],by rw [lL];exact h4,h5,.inr ⟨g,0,rfl,by have:=p_ h3;simpa [World.setCell] using this,trivial,fun i q u p a=>?_⟩⟩;have r:i<l.length:=by have:=bK a;rwa [lL] at this
  rw [Nat.zero_add]
  by_cases m:i=k
  ·subst m;rw [nU n] at a;injection a with a
   injection a with e1 a
   injection a with e2 e3
   subst e1 e2 e3;refine ⟨?_,?_,?_⟩
   ·rw [World.cell?_setCell_other _ _ _ _ (by first | (simp;done) | (simp;omega))];exact (b _ O_).trans x0
   ·rw [World.cell?_setCell_other _ _ _ _ (by first | (simp;done) | (simp;omega))];exact (b _ O_).trans o
   ·exact World.cell?_setCell_same _ _ _ f
  ·rw [gN_ O_] at a;obtain ⟨z,A,C⟩:=sM l i q u p a;refine ⟨?_,?_,?_⟩
   ·rw [World.cell?_setCell_other _ _ _ _ (by first | (simp;done) | (simp;omega))];exact (b _ O_).trans z
   ·rw [World.cell?_setCell_other _ _ _ _ (by first | (simp;done) | (simp;omega))];exact (b _ O_).trans A
   ·rw [World.cell?_setCell_other _ _ _ _ (by first | (simp;done) | (simp;omega))];exact (b _ O_).trans C
def chR (on:Bool) (c:Cn) (i m:Int):Cn × Int:=if on then dJ c i m else aV c i m
def chI (on:Bool) (a m:Int):Int:=if on then uP a m else nO a m
theorem pH (h:(iN c i m).2≠0):chR on c i m=(eC,(iN c i m).2):=by
 unfold chR dJ aV
 cases on <;> simp [h]
theorem d6_ (h:(iN c i m).2=0):chR on c i m=(upd c i.toNat ((c i.toNat).1,chI on (c i.toNat).2 m),0):=by
 unfold chR dJ aV chI
 cases on <;> simp [h]
theorem zS (on:Bool) (cap:Nat) (S:Nat->Prop) (i m:Int) (hl:aX c) (ht:X_ h c) (hcap:(f_ h c).kids.length<=cap) (hk:NK w S A (f_ h c).kids) (hS:∀b,w.heap.size<=b->S b) :
  C_ 212 #[oD h A (f_ h c).kids.length cap (f_ h c).val (f_ h c).marks,I_ i,I_ m,.bool on] w (fZ (chR on c i m).1 (chR on c i m).2 S w):=by
 have h4:=ht.1;have hp:4 ^ h<=256:=show 4 ^ h<=4 ^ 4 from Nat.pow_le_pow_right O_ h4;have HG:=H_ (wI (c:=c) hp);have L:=H_ (zQ ht.2.1);have a7:=jV 0 (4 ^ h) c;have a4:=H_ hl;have C:=fun w' (hb:q_ w w')=>pV h (f_ h c) cap (eA _ _) hcap (hk.step hb);rw [fX hl ht] at C;have y:=fun w' (hb:q_ w w')=>iX cap hl ht hcap (hk.step hb);obtain ⟨n,hn⟩:∃n,(f_ h c).kids.length=n:=⟨_,rfl⟩;obtain ⟨v,hv⟩:∃v,(f_ h c).val=v:=⟨_,rfl⟩;obtain ⟨mm,hm⟩:∃m,(f_ h c).marks=m:=⟨_,rfl⟩;rw [hn,hv,hm] at C y ⊢;have HX:=H_ (m_ (g_ w (.cells #[I_ (h:Int),S_ A n cap,I_ v,I_ mm] 58)) (.cells #[I_ 0,S_ none 0 0,I_ 0,I_ 0] 58));have HR:=H_ (l_ (w.alloc (.cells #[I_ (h:Int),S_ A n cap,I_ v,I_ mm] 58)) (.cells #[I_ 0,S_ none 0 0,I_ 0,I_ 0] 58) (w+1) z_);have HW:=H_ (b_ (b_ (aI (w) w) (.cells #[I_ (h:Int),S_ A n cap,I_ v,I_ mm] 58)) (.cells #[I_ 0,S_ none 0 0,I_ 0,I_ 0] 58));have a1:=H_ hS;have B:=fun w=>jT_ m w;generalize aH 0 (4 ^ h) c=x at y HG L a7;clear hn hv hm hk hS hl ht hcap
 by_cases q0:i<0
 ·have a:iN c i m=((0,0),2):=by unfold iN gG;rw [dF O_];rfl
  have q1:decide (i<0)=true:=dT q0;clear y;have D:=H_ (show chR on c i m=(eC,2) by rw [pH (by rw [a];simp),a]);go_enter func212,ntmps212
  go_wp2_with (first
   | (go_at_call 159;(with_reducible refine CM (C _ fD) ?_);rintro e w1 ⟨rfl,q⟩;obtain ⟨p,d,l⟩:=bN HX HR HW q;obtain ⟨x0,x1,x2,x3⟩:=iH p.out)
   | (go_at_call 226;(with_reducible refine CM (B _) ?_);rintro e w2 ⟨rfl,rfl⟩)
   | (refine cV rfl 58 (.tmp 8) (.tmp 22) rfl rfl (w+1) #[I_ 0,S_ none 0 0,I_ 0,I_ 0] rfl rfl 58 _ (d) L_ rfl (aD) ?_))
  show bodyPost prog f212 _ _ _ _
  refine bodyPost_ret (bM rfl rfl rfl (setRow_heap _ _ _ _ _ _ d)) rfl ?_;rw [D.out];exact fZ.err (j_ l.out O_ _)
 ·by_cases q1:255<i
  ·have a:iN c i m=((0,0),2):=by unfold iN gG;rw [dF O_];rfl
   clear y;have D:=H_ (show chR on c i m=(eC,2) by rw [pH (by rw [a];simp),a]);go_enter func212,ntmps212
   go_wp2_with (first
    | (go_at_call 159;(with_reducible refine CM (C _ fD) ?_);rintro e w1 ⟨rfl,q⟩;obtain ⟨p,d,l⟩:=bN HX HR HW q;obtain ⟨x0,x1,x2,x3⟩:=iH p.out)
    | (go_at_call 226;(with_reducible refine CM (B _) ?_);rintro e w2 ⟨rfl,rfl⟩)
    | (refine cV rfl 58 (.tmp 8) (.tmp 22) rfl rfl (w+1) #[I_ 0,S_ none 0 0,I_ 0,I_ 0] rfl rfl 58 _ (d) L_ rfl (aD) ?_))
   show bodyPost prog f212 _ _ _ _
   refine bodyPost_ret (bM rfl rfl rfl (setRow_heap _ _ _ _ _ _ d)) rfl ?_;rw [D.out];exact fZ.err (j_ l.out O_ _)
  ·obtain ⟨j,rfl⟩:=sG (show 0<=i by omega);have t:gG (j:Int)=true:=dT O_;have ak:¬255<j:=O_
   have j0:(0:Int)<=(j:Int):=O_
   have j1:(j:Int)<=255:=O_
   cases ho:dH m with
   | false=>
    have a:iN c j m=((0,0),1):=by unfold iN;rw [t,ho];rfl
    rw [ho] at B;clear y ho t;have D:=H_ (show chR on c j m=(eC,1) by rw [pH (by rw [a];simp),a]);go_enter func212,ntmps212
    go_wp2_with (first
     | (go_at_call 159;(with_reducible refine CM (C _ fD) ?_);rintro e w1 ⟨rfl,q⟩;obtain ⟨p,d,l⟩:=bN HX HR HW q;obtain ⟨x0,x1,x2,x3⟩:=iH p.out)
     | (go_at_call 226;(with_reducible refine CM (B _) ?_);rintro e w2 ⟨rfl,rfl⟩)
     | (refine cV rfl 58 (.tmp 8) (.tmp 26) rfl rfl (w+1) #[I_ 0,S_ none 0 0,I_ 0,I_ 0] rfl rfl 58 _ (d) L_ rfl (aD) ?_))
    show bodyPost prog f212 _ _ _ _
    refine bodyPost_ret (bM rfl rfl rfl (setRow_heap _ _ _ _ _ _ d)) rfl ?_;rw [D.out];exact fZ.err (j_ l.out O_ _)
   | true=>
    rw [ho] at B;have N:c j=kR x j:=by rw [<-L.out];rfl
    have P:=a4 j;go_enter func212,ntmps212
    go_upto_region 8 with (first | (go_at_call 159;(with_reducible refine CM (C _ fD) ?_);rintro e w1 ⟨rfl,q⟩;obtain ⟨p,d,l⟩:=bN HX HR HW q;obtain ⟨x0,x1,x2,x3⟩:=iH p.out) | (go_at_call 226;(with_reducible refine CM (B _) ?_);rintro e w2 ⟨rfl,rfl⟩) | (go_at_call 102;(with_reducible refine CM (y _ l.out) ?_);rintro e w2 ⟨vv,rfl,K,W⟩;obtain ⟨o,M⟩:=gZ d l W))
    have F:=H_ (EA.of_own (S:=gL) K (fun _ _=>trivial));have a5:=H_ K;have a6:=F.out;obtain ⟨A2,f,rfl,ab,a2,_⟩:=a6;have E:=fun w' (h:EA w' gL (S_ A2 x.length f) x)=>ct_ (j:Int) h;have ae:=W.size;have ac:=p_ d;unfold maxLen at a2;clear K q W C y p d l x0 x1 x2 x3 HX HR HW B
    rcases rS x (j:Int) with hf | ⟨k,hf,hkl,s,c',hat⟩
    ·have a:iN c j m=((0,0),4):=by unfold iN;rw [t,ho,Int.toNat_natCast,N,eL_ hf];simp
     have D:=H_ (show chR on c j m=(eC,4) by rw [pH (by rw [a];simp),a]);rw [hf] at E;clear t ho N P hf a
     go_wp2_with (first | (go_at_call 184;(with_reducible refine CM (E _ F.out) ?_);rintro e w3 ⟨rfl,rfl⟩) | (refine cV rfl 58 (.tmp 8) (.tmp 42) rfl rfl (w+1) #[I_ 0,S_ none 0 0,I_ 0,I_ 0] rfl rfl 58 _ (o) L_ rfl (aD) ?_))
     show bodyPost prog f212 _ _ _ _
     refine bodyPost_ret (bM rfl rfl rfl (setRow_heap _ _ _ _ _ _ o)) rfl ?_;rw [D.out];exact fZ.err (j_ M.out O_ _)
    ·rw [hf] at E;have r:c j=(s,c'):=by rw [N];exact bo_ hf hat
     rw [r] at P;have a3:(s,c')≠(0,0):=(HG _ (fF hat)).2.2;have aj:s≠0:=by
      rcases P with e | e
      ·exact absurd e a3
      ·exact e.1
     obtain ⟨g,aa,a9,ah,ai,af,ag,c0,c1,c2,f2,u⟩:=iF_ a5.out hat;injection a9 with hv1 _ hv3
     subst hv1 hv3;have k0:(0:Int)<=(k:Int):=O_
     have k1:(k:Int)<(x.length:Int):=O_
     have k2:¬(k:Int)<0:=O_
     clear N P a3
     by_cases ad:s<0
     ·have a:iN c j m=((0,0),4):=by unfold iN;rw [t,ho,Int.toNat_natCast,r,if_pos rfl,if_pos rfl,if_pos (show s<=0 by omega)]
      have D:=H_ (show chR on c j m=(eC,4) by rw [pH (by rw [a];simp),a]);clear t ho hf a r hat u
      go_wp2_with (first | (go_at_call 184;(with_reducible refine CM (E _ F.out) ?_);rintro e w3 ⟨rfl,rfl⟩) | (refine cV rfl 58 (.tmp 8) (.tmp 42) rfl rfl (w+1) #[I_ 0,S_ none 0 0,I_ 0,I_ 0] rfl rfl 58 _ (o) L_ rfl (aD) ?_))
      show bodyPost prog f212 _ _ _ _
      refine bodyPost_ret (bM rfl rfl rfl (setRow_heap _ _ _ _ _ _ o)) rfl ?_;rw [D.out];exact fZ.err (j_ M.out O_ _)
     ·have O:(iN c (j:Int) m).2=0:=by unfold iN;rw [t,ho,Int.toNat_natCast,r,if_pos rfl,if_pos rfl,if_neg (show ¬s<=0 by omega)]
      clear t ho
      cases on with
      | true=>
       have I:oL (x.set k ((j:Int),s,uP c' m))=upd c j ((c j).1,uP (c j).2 m):=by rw [zR hf hat,L.out,r]
       have J:=fun w' (hE:EA w' gL (S_ (some ⟨g,0,none⟩) x.length f) (x.set k ((j:Int),s,uP c' m)))=>yD (fun z=>S z/\z≠w.heap.size+1) (ag_ HG.out ⟨O_,by show (j:Int)<256;omega,fun e=>by injection e with e _;omega⟩) (by rw [lL];omega) hE
       rw [I] at J;have D:=H_ (show chR true c j m=(upd c j ((c j).1,uP (c j).2 m),0) by rw [d6_ O,Int.toNat_natCast];rfl);have R:=H_ (u (uP c' m));have a8:=p_ o;have Z:w+1≠g:=O_
       clear I O hat r hf;generalize upd c j ((c j).1,uP (c j).2 m)=V at *;clear u
       go_wp2_with (first
        | (go_at_call 184;(with_reducible refine CM (E _ F.out) ?_);rintro e w3 ⟨rfl,rfl⟩)
        | (go_at_call 188;(with_reducible refine CM (J _ R.out (fun z Q=>⟨a1.out z (by simp [World.setCell] at Q;omega),by simp [World.setCell] at Q;omega⟩)) ?_);rintro e w3 ⟨h',A',cap',rfl,a0,X,Y,H⟩;have G:=H_ (i_ (aM o _ _ Z) H);have U:=H_ (d_ (M.setCell (by simp only;omega) _) H))
        | (refine cV rfl 58 (.tmp 8) (.tmp 63) rfl rfl (w+1) #[I_ (h':Int),S_ A' (f_ h' V).kids.length cap',I_ (f_ h' V).val,I_ (f_ h' V).marks] rfl rfl 58 _ (G) L_ rfl (aD) ?_))
       show bodyPost prog f212 _ _ _ _
       refine bodyPost_ret (bM rfl rfl rfl (setRow_heap _ _ _ _ _ _ G)) rfl ?_;rw [D.out];exact ⟨h',A',cap',rfl,a0,X,(Y.kept (by simp [World.setRow]) (fun z Q _=>setRow_other _ _ _ _ Q.2)).weak fun _ _ h=>h.1,j_ U.out O_ _⟩
      | false=>
       have I:oL (x.set k ((j:Int),s,nO c' m))=upd c j ((c j).1,nO (c j).2 m):=by rw [zR hf hat,L.out,r]
       have J:=fun w' (hE:EA w' gL (S_ (some ⟨g,0,none⟩) x.length f) (x.set k ((j:Int),s,nO c' m)))=>yD (fun z=>S z/\z≠w.heap.size+1) (ag_ HG.out ⟨O_,by show (j:Int)<256;omega,fun e=>by injection e with e _;omega⟩) (by rw [lL];omega) hE
       rw [I] at J;have D:=H_ (show chR false c j m=(upd c j ((c j).1,nO (c j).2 m),0) by rw [d6_ O,Int.toNat_natCast];rfl);have R:=H_ (u (nO c' m));have a8:=p_ o;have Z:w+1≠g:=O_
       clear I O hat r hf;generalize upd c j ((c j).1,nO (c j).2 m)=V at *;clear u
       go_wp2_with (first
        | (go_at_call 184;(with_reducible refine CM (E _ F.out) ?_);rintro e w3 ⟨rfl,rfl⟩)
        | (go_at_call 188;(with_reducible refine CM (J _ R.out (fun z Q=>⟨a1.out z (by simp [World.setCell] at Q;omega),by simp [World.setCell] at Q;omega⟩)) ?_);rintro e w3 ⟨h',A',cap',rfl,a0,X,Y,H⟩;have G:=H_ (i_ (aM o _ _ Z) H);have U:=H_ (d_ (M.setCell (by simp only;omega) _) H))
        | (refine cV rfl 58 (.tmp 8) (.tmp 63) rfl rfl (w+1) #[I_ (h':Int),S_ A' (f_ h' V).kids.length cap',I_ (f_ h' V).val,I_ (f_ h' V).marks] rfl rfl 58 _ (G) L_ rfl (aD) ?_))
       show bodyPost prog f212 _ _ _ _
       refine bodyPost_ret (bM rfl rfl rfl (setRow_heap _ _ _ _ _ _ G)) rfl ?_;rw [D.out];exact ⟨h',A',cap',rfl,a0,X,(Y.kept (by simp [World.setRow]) (fun z Q _=>setRow_other _ _ _ _ Q.2)).weak fun _ _ h=>h.1,j_ U.out O_ _⟩
end
section
theorem cr_ (i m:Int) (hl:aX c) (ht:X_ h c) (hcap:(f_ h c).kids.length<=cap) (hk:NK w S A (f_ h c).kids) (hS:∀b,w.heap.size<=b->S b) :
  C_ 179 #[oD h A (f_ h c).kids.length cap (f_ h c).val (f_ h c).marks,I_ i,I_ m] w (fZ (dJ c i m).1 (dJ c i m).2 S w):=by
 have a:=fun w' (hb:q_ w w') (o:w.heap.size+1<w'.heap.size)=>zS true cap (fun z=>S z/\z≠w.heap.size+1) i m hl ht hcap ((hk.weak fun z o h=>⟨h,O_⟩).step hb) (fun b x=>⟨hS b (dO hb.size O_),O_⟩);rw [show chR true c i m=dJ c i m from rfl] at a;obtain ⟨n,q⟩:∃n,(f_ h c).kids.length=n:=⟨_,rfl⟩;obtain ⟨v,hv⟩:∃v,(f_ h c).val=v:=⟨_,rfl⟩;obtain ⟨s,p⟩:∃m,(f_ h c).marks=m:=⟨_,rfl⟩;rw [q,hv,p] at a ⊢;have t:=H_ (l_ (w.alloc (.cells #[I_ (h:Int),S_ A n cap,I_ v,I_ s] 58)) (.cells #[I_ 0,S_ none 0 0,I_ 0,I_ 0] 58) (w+1) z_);have u:=H_ (b_ (b_ (aI (w) w) (.cells #[I_ (h:Int),S_ A n cap,I_ v,I_ s] 58)) (.cells #[I_ 0,S_ none 0 0,I_ 0,I_ 0] 58));generalize dJ c i m=r at a ⊢;clear q hv p hk hS hl ht hcap;go_enter func179,ntmps179
 go_wp2_with (first
  | (go_at_call 212;(with_reducible refine CM (a _ fD (by simp)) ?_);rintro e w2 ⟨h',A',cap',rfl,l,j,k,g⟩;obtain ⟨d,f⟩:=gZ t u g)
  | (refine cV rfl 58 (.tmp 6) (.tmp 12) rfl rfl (w+1) #[I_ (h':Int),S_ A' (f_ h' r.1).kids.length cap',I_ (f_ h' r.1).val,I_ (f_ h' r.1).marks] rfl rfl 58 _ (d) L_ rfl (aD) ?_))
 show bodyPost prog f179 _ _ _ _
 refine bodyPost_ret (bM rfl rfl rfl (setRow_heap _ _ _ _ _ _ d)) rfl ?_;exact ⟨h',A',cap',rfl,l,j,(k.kept (by simp [World.setRow]) (fun z o _=>setRow_other _ _ _ _ o.2)).weak fun _ _ h=>h.1,j_ f.out O_ _⟩
theorem wX (i m:Int) (hl:aX c) (ht:X_ h c) (hcap:(f_ h c).kids.length<=cap) (hk:NK w S A (f_ h c).kids) (hS:∀b,w.heap.size<=b->S b) :
  C_ 180 #[oD h A (f_ h c).kids.length cap (f_ h c).val (f_ h c).marks,I_ i,I_ m] w (fZ (aV c i m).1 (aV c i m).2 S w):=by
 have a:=fun w' (hb:q_ w w') (o:w.heap.size+1<w'.heap.size)=>zS false cap (fun z=>S z/\z≠w.heap.size+1) i m hl ht hcap ((hk.weak fun z o h=>⟨h,O_⟩).step hb) (fun b x=>⟨hS b (dO hb.size O_),O_⟩);rw [show chR false c i m=aV c i m from rfl] at a;obtain ⟨n,q⟩:∃n,(f_ h c).kids.length=n:=⟨_,rfl⟩;obtain ⟨v,hv⟩:∃v,(f_ h c).val=v:=⟨_,rfl⟩;obtain ⟨s,p⟩:∃m,(f_ h c).marks=m:=⟨_,rfl⟩;rw [q,hv,p] at a ⊢;have t:=H_ (l_ (w.alloc (.cells #[I_ (h:Int),S_ A n cap,I_ v,I_ s] 58)) (.cells #[I_ 0,S_ none 0 0,I_ 0,I_ 0] 58) (w+1) z_);have u:=H_ (b_ (b_ (aI (w) w) (.cells #[I_ (h:Int),S_ A n cap,I_ v,I_ s] 58)) (.cells #[I_ 0,S_ none 0 0,I_ 0,I_ 0] 58));generalize aV c i m=r at a ⊢;clear q hv p hk hS hl ht hcap;go_enter func180,ntmps180
 go_wp2_with (first
  | (go_at_call 212;(with_reducible refine CM (a _ fD (by simp)) ?_);rintro e w2 ⟨h',A',cap',rfl,l,j,k,g⟩;obtain ⟨d,f⟩:=gZ t u g)
  | (refine cV rfl 58 (.tmp 6) (.tmp 12) rfl rfl (w+1) #[I_ (h':Int),S_ A' (f_ h' r.1).kids.length cap',I_ (f_ h' r.1).val,I_ (f_ h' r.1).marks] rfl rfl 58 _ (d) L_ rfl (aD) ?_))
 show bodyPost prog f180 _ _ _ _
 refine bodyPost_ret (bM rfl rfl rfl (setRow_heap _ _ _ _ _ _ d)) rfl ?_;exact ⟨h',A',cap',rfl,l,j,(k.kept (by simp [World.setRow]) (fun z o _=>setRow_other _ _ _ _ o.2)).weak fun _ _ h=>h.1,j_ f.out O_ _⟩
end
section
def TR (w:World) (S:Nat->Prop) (b:Nat) (hI:Int) (t:T):Prop:=∃A cap,w.heap[b]?=some (.cells #[I_ hI,S_ A t.kids.length cap,I_ t.val,I_ t.marks] 58 (0,0))/\t.kids.length<=maxLen/\t.kids.length<=cap/\NK w S A t.kids
theorem TR.step {t:T} (h:TR w S b hI t) (hb:q_ w w'):TR w' S b hI t:=by
 obtain ⟨A,cap,h1,h2,h3,h4⟩:=h;exact ⟨A,cap,i_ h1 hb,h2,h3,h4.step hb⟩
theorem TR.alloc {t:T} (h:TR w S b hI t) (o:Obj):TR (w.alloc o) S b hI t:=h.step (B_.alloc (aQ _) _)
theorem TR.lt {t:T} (h:TR w S b hI t):b<w:=by obtain ⟨A,cap,h1,_⟩:=h;exact p_ h1
theorem TR.weak {S S':Nat->Prop} {t:T} (h:TR w S b hI t) (hs:∀z,z<w.heap.size->S z->S' z):TR w S' b hI t:=by
 obtain ⟨A,cap,h1,h2,h3,h4⟩:=h;exact ⟨A,cap,h1,h2,h3,h4.weak hs⟩
theorem TR.kept {w w':World} {t:T} (h:TR w S b hI t) (hs:w.heap.size<=w'.heap.size) (hb:∀z,S z\/z=b->z<w.heap.size->w'.heap[z]?=w.heap[z]?):TR w' S b hI t:=by
 obtain ⟨A,cap,h1,h2,h3,h4⟩:=h;exact ⟨A,cap,(hb b (.inr rfl) (p_ h1)).trans h1,h2,h3,h4.kept hs fun z hz=>hb z (.inl hz)⟩
theorem TR.new {t:T} (h2:t.kids.length<=maxLen) (h3:t.kids.length<=cap) (h4:NK w S A t.kids):TR (w.alloc (.cells #[I_ hI,S_ A t.kids.length cap,I_ t.val,I_ t.marks] 58)) S (w) hI t:=
 ⟨A,cap,heap_alloc_new _ _,h2,h3,h4.alloc _⟩
structure VT (w:World) (S:Nat->Prop) (h:Nat) (c:Cn) (A:Option Addr) (cap:Nat):Prop where
 hl:aX c
 ok:X_ h c
 hc:(f_ h c).kids.length<=cap
 nk:NK w S A (f_ h c).kids
theorem VT.step (v:VT w S h c A cap) (hb:q_ w w'):VT w' S h c A cap:=⟨v.hl,v.ok,v.hc,v.nk.step hb⟩
theorem aX.upd (h:aX c) {x:Int × Int} (hx:eH_ x) (i:Nat):aX (upd c i x):=fun j=>by
 unfold Proofs.YtehfhnbpnaiogaaGreatDoor.upd
 split
 ·exact hx
 ·exact h j
end
section
structure RR (α:Type) (k:Nat) where
 p:World->(Nat->Prop)->α->List Value->Prop
 st:∀w w' S a r,r_ S w w'->p w S a r->p w' S a r
 wk:∀w S S' a r,(∀b,b<w.heap.size->S b->S' b)->p w S a r->p w S' a r
 sh:∀w S a r,p w S a r->r.length=k/\∀u ∈ r,u.oneCell'=true
def RR.flat {α:Type} {k:Nat} (f:α->List Value) (hf:∀a,(f a).length=k/\∀u ∈ f a,u.oneCell'=true):RR α k:=
 ⟨fun _ _ a r=>r=f a,fun _ _ _ _ _ _ h=>h,fun _ _ _ _ _ _ h=>h,fun _ _ a r h=>h ▸ hf a⟩
def cB {α:Type} (p:α->List Value->Prop):List α->List (List Value)->Prop
 | [],[]=>True
 | a :: l,r :: rows=>p a r/\cB p l rows
 | _,_=>False
theorem cB.len {p:α->List Value->Prop}:∀{l:List α} {rows:List (List Value)},cB p l rows->rows.length=l.length
 | [],[],_=>rfl
 | _ :: _,_ :: _,h=>by simp [cB.len h.2]
 | [],_ :: _,h=>h.elim
 | _ :: _,[],h=>h.elim
theorem cB.imp {p q:α->List Value->Prop} (hpq:∀a r,p a r->q a r):∀{l:List α} {rows:List (List Value)},cB p l rows->cB q l rows
 | [],[],_=>trivial
 | _ :: _,_ :: _,h=>⟨hpq _ _ h.1,cB.imp hpq h.2⟩
 | [],_ :: _,h=>h.elim
 | _ :: _,[],h=>h.elim
theorem cB.at_ {p:α->List Value->Prop}:∀{l:List α} {rows:List (List Value)},cB p l rows->∀{i:Nat} {a:α},l[i]?=some a->∃r,rows[i]?=some r/\p a r
 | [],[],_,i,a,h=>by simp at h
 | x :: l,r :: rows,h,0,a,hi=>by
  have:x=a:=by simpa using hi
  subst this;exact ⟨r,rfl,h.1⟩
 | x :: l,r :: rows,h,i+1,a,hi=>by
  obtain ⟨r',h1,h2⟩:=cB.at_ h.2 (i:=i) (a:=a) (by simpa using hi);exact ⟨r',by simpa using h1,h2⟩
 | [],_ :: _,h,_,_,_=>h.elim
 | _ :: _,[],h,_,_,_=>h.elim
theorem cB.set {p:α->List Value->Prop}:∀{l:List α} {rows:List (List Value)},cB p l rows->∀(i:Nat) {a:α} {r:List Value},p a r->cB p (l.set i a) (rows.set i r)
 | [],[],_,_,_,_,_=>trivial
 | x :: l,r :: rows,h,0,a,r',hp=>⟨hp,h.2⟩
 | x :: l,r :: rows,h,i+1,a,r',hp=>⟨h.1,cB.set h.2 i hp⟩
 | [],_ :: _,h,_,_,_,_=>h.elim
 | _ :: _,[],h,_,_,_,_=>h.elim
theorem cB.snoc {p:α->List Value->Prop}:∀{l:List α} {rows:List (List Value)},cB p l rows->∀{a:α} {r:List Value},p a r->cB p (l ++ [a]) (rows ++ [r])
 | [],[],_,_,_,hp=>⟨hp,trivial⟩
 | x :: l,r :: rows,h,a,r',hp=>⟨h.1,cB.snoc h.2 hp⟩
 | [],_ :: _,h,_,_,_=>h.elim
 | _ :: _,[],h,_,_,_=>h.elim
theorem cB.app {p:α->List Value->Prop}:∀{l:List α} {rows:List (List Value)},cB p l rows->∀{l':List α} {rows':List (List Value)},cB p l' rows'->cB p (l ++ l') (rows ++ rows')
 | [],[],_,_,_,h'=>h'
 | x :: l,r :: rows,h,_,_,h'=>⟨h.1,cB.app h.2 h'⟩
 | [],_ :: _,h,_,_,_=>h.elim
 | _ :: _,[],h,_,_,_=>h.elim
theorem cB.drop {p:α->List Value->Prop}:∀{l:List α} {rows:List (List Value)},cB p l rows->∀(n:Nat),cB p (l.drop n) (rows.drop n)
 | [],[],_,n=>by simp [cB]
 | x :: l,r :: rows,h,0=>h
 | x :: l,r :: rows,h,n+1=>cB.drop h.2 n
 | [],_ :: _,h,_=>h.elim
 | _ :: _,[],h,_=>h.elim
theorem cB.flat {f:α->List Value}:∀{l:List α} {rows:List (List Value)},cB (fun a r=>r=f a) l rows->rows=l.map f
 | [],[],_=>rfl
 | x :: l,r :: rows,h=>by rw [List.map_cons,<-h.1,<-cB.flat h.2]
 | [],_ :: _,h=>h.elim
 | _ :: _,[],h=>h.elim
theorem cB.of_map {f:α->List Value}:∀(l:List α),cB (fun a r=>r=f a) l (l.map f)
 | []=>trivial
 | x :: l=>⟨rfl,cB.of_map l⟩
def LA {α:Type} {k:Nat} (R:RR α k) (w:World) (S:Nat->Prop) (v:Value) (L:List α):Prop:=∃rows,RW k w S v rows/\cB (R.p w S) L rows
theorem LA.kept {R:RR α k} {w w':World} {L:List α} (h:LA R w S v L) (hk:r_ S w w'):LA R w' S v L:=by
 obtain ⟨rows,h1,h2⟩:=h;exact ⟨rows,h1.kept hk,h2.imp fun a r h=>R.st _ _ _ _ _ hk h⟩
theorem LA.step {R:RR α k} {L:List α} (h:LA R w S v L) (hb:q_ w w'):LA R w' S v L:=h.kept (r_.of_below hb)
theorem LA.alloc {R:RR α k} {L:List α} (h:LA R w S v L) (o:Obj):LA R (w.alloc o) S v L:=h.kept (r_.of_alloc w o)
theorem LA.weak {R:RR α k} {S S':Nat->Prop} {L:List α} (h:LA R w S v L) (hS:∀b,b<w.heap.size->S b->S' b):LA R w S' v L:=by
 obtain ⟨rows,h1,h2⟩:=h;exact ⟨rows,h1.weak hS,h2.imp fun a r h=>R.wk _ _ _ _ _ hS h⟩
theorem LA.nil (R:RR α k) (w:World) (S:Nat->Prop):LA R w S (S_ none 0 0) []:=⟨[],RW.nil k w S,trivial⟩
theorem LA.form {R:RR α k} {L:List α} (h:LA R w S v L):∃A cap,v = S_ A L.length cap/\L.length<=cap/\cap<=maxLen:=by
 obtain ⟨rows,h1,h2⟩:=h;rw [<-h2.len];exact h1.form
theorem LA.at_ {R:RR α k} {L:List α} (h:LA R w S v L) {i:Nat} {a:α} (hi:L[i]?=some a):∃b o cap r,v = S_ (some ⟨b,o,none⟩) L.length cap/\L.length<=cap/\cap<=maxLen/\b<w.heap.size/\S b/\R.p w S a r/\
  ∀(j:Nat) (u:Value),r[j]?=some u->w.cell? ⟨b,o+i*k+j,none⟩=some u:=by
 obtain ⟨rows,h1,h2⟩:=h;obtain ⟨r,c,l⟩:=h2.at_ hi;obtain ⟨b,o,cap,hv,c1,c2,f,d,hc⟩:=h1.at_ (i:=i) ((bK c));rw [h2.len] at hv c1;exact ⟨b,o,cap,r,hv,c1,c2,f,d,l,fun j u g=>hc i r j u c g⟩
theorem LA.cells {R:RR α k} {o:Nat} {L:List α} (h:LA R w S (S_ (some ⟨b,o,none⟩) n cap) L) {i:Nat} {a:α} (hi:L[i]?=some a):b<w/\S b/\∃r,R.p w S a r/\
  ∀(j:Nat) (u:Value),r[j]?=some u->w.cell? ⟨b,o+i*k+j,none⟩=some u:=by
 obtain ⟨b',o',cap',r,hv,c1,c2,hb,hS,hp,hc⟩:=h.at_ hi;injection hv with e1 e2 e3
 injection e1 with e1
 injection e1 with e4 e5
 subst e4 e5;exact ⟨hb,hS,r,hp,hc⟩
def LW {α:Type} {k:Nat} (R:RR α k) (w:World) (S:Nat->Prop) (g:Nat) (L:List α):Prop:=¬S g/\∃rows,WR k w g rows/\cB (R.p w S) L rows
theorem LW.kept {R:RR α k} {w w':World} {L:List α} (h:LW R w S g L) (hk:r_ S w w') (hg:w'.heap[g]?=w.heap[g]?):LW R w' S g L:=by
 obtain ⟨h0,rows,h1,h2⟩:=h;exact ⟨h0,rows,h1.block hg hk.1,h2.imp fun a r h=>R.st _ _ _ _ _ hk h⟩
theorem LW.lt {R:RR α k} {L:List α} (h:LW R w S g L):g<w:=by obtain ⟨_,rows,h1,_⟩:=h;exact h1.2.1
theorem LW.step {R:RR α k} {L:List α} (h:LW R w S g L) (hb:q_ w w'):LW R w' S g L:=h.kept (r_.of_below hb) (hb.block g h.lt)
theorem LW.alloc {R:RR α k} {L:List α} (h:LW R w S g L) (o:Obj):LW R (w.alloc o) S g L:=h.step (B_.alloc (aQ _) _)
theorem LW.la {R:RR α k} {S S':Nat->Prop} {g cap:Nat} {L:List α} (h:LW R w S g L) (hg:S' g) (hS:∀b,b<w.heap.size->S b->S' b) (h1:L.length<=cap) (h2:cap<=maxLen):LA R w S' (S_ (some ⟨g,0,none⟩) L.length cap) L:=by
 obtain ⟨_,rows,w1,w2⟩:=h;refine ⟨rows,?_,w2.imp fun a r h=>R.wk _ _ _ _ _ hS h⟩;rw [<-w2.len] at h1 ⊢;exact w1.rw hg h1 h2
theorem LW.at_ {R:RR α k} {L:List α} (h:LW R w S g L) {i:Nat} {a:α} (hi:L[i]?=some a):∃r,R.p w S a r/\∀(j:Nat) (u:Value),r[j]?=some u->w.cell? ⟨g,i*k+j,none⟩=some u:=by
 obtain ⟨_,rows,h1,h2⟩:=h;obtain ⟨r,hr,hp⟩:=h2.at_ hi;exact ⟨r,hp,fun j u hj=>h1.2.2.2 i r j u hr hj⟩
theorem LW.setPart {R:RR α k} {L:List α} (h:LW R w S g L) {i p:Nat} {a a':α} {vs:List Value} (hi:L[i]?=some a) (hp:p+vs.length<=k) (h1:∀u ∈ vs,u.oneCell'=true)
  (hr:∀r,R.p w S a r->R.p w S a' (r.take p ++ vs ++ r.drop (p+vs.length))):LW R (w.setCells g (i*k+p) vs) S g (L.set i a'):=by
 obtain ⟨h0,rows,w1,w2⟩:=h;obtain ⟨r,d,c⟩:=w2.at_ hi;have b:r_ S w (w.setCells g (i*k+p) vs):=r_.of_setCells w g _ vs h0;refine ⟨h0,_,w1.setPart d hp rfl h1,(cB.imp (fun a r h=>R.st _ _ _ _ _ b h) w2).set i (R.st _ _ _ _ _ b (hr r c))⟩
theorem LW.set {R:RR α k} {L:List α} (h:LW R w S g L) {i:Nat} {a:α} {vs:List Value} (hi:i<L.length) (hr:R.p w S a vs):LW R (w.setCells g (i*k) vs) S g (L.set i a):=by
 obtain ⟨h0,rows,w1,w2⟩:=h;have b:r_ S w (w.setCells g (i*k) vs):=r_.of_setCells w g _ vs h0;obtain ⟨s1,s2⟩:=R.sh _ _ _ _ hr;exact ⟨h0,_,w1.setRow (by rw [w2.len];exact hi) s1 s2,(cB.imp (fun a r h=>R.st _ _ _ _ _ b h) w2).set i (R.st _ _ _ _ _ b hr)⟩
theorem LW.there {R:RR α k} {L:List α} (h:LW R w S g L) {i p n:Nat} (hi:i<L.length) (hp:p+n<=k):w.there g (i*k+p) n:=by
 obtain ⟨_,rows,w1,w2⟩:=h;exact w1.there_ (by rw [w2.len];exact hi) hp
def LO {α:Type} {k:Nat} (R:RR α k) (e:TypeId) (w:World) (base:Nat) (S:Nat->Prop) (v:Value) (L:List α):Prop:=∃rows,w.ownsRow base e k v L.length rows.flatten/\cB (R.p w (fun b=>S b/\v.ownBlock≠some b)) L rows
theorem LO.kept {R:RR α k} {w w':World} {L:List α} (h:LO R e w base S v L) {r:Option Nat} (hg:w.grownBy w' r) (h1:r=none\/∃b,r=some b/\¬S b/\v.ownBlock≠some b):LO R e w' base S v L:=by
 obtain ⟨rows,w1,w2⟩:=h;refine ⟨rows,w1.kept (row:=r) hg ?_,w2.imp fun a x h=>R.st _ _ _ _ _ ⟨hg.size,fun z c hl=>hg.block z hl fun e=>?_⟩ h⟩
 ·rcases h1 with rfl | ⟨b,rfl,_,h3⟩
  ·cases hv:v.ownBlock with
   | none=>exact .inl rfl
   | some b=>exact .inr z_
  ·exact .inr (by simpa using h3)
 ·rcases h1 with rfl | ⟨b,rfl,h2,h3⟩
  ·cases e
  ·injection e with e;exact h2 (e ▸ c.1)
theorem LO.step {R:RR α k} {L:List α} (h:LO R e w base S v L) (hb:q_ w w'):LO R e w' base S v L:=h.kept (bV hb none) (.inl rfl)
theorem LO.alloc {R:RR α k} {L:List α} (h:LO R e w base S v L) (o:Obj):LO R e (w.alloc o) base S v L:=h.step (B_.alloc (aQ _) _)
theorem LO.nil (R:RR α k) (e:TypeId) (w:World) (base:Nat) (S:Nat->Prop):LO R e w base S (S_ none 0 0) []:=⟨[],World.ownsRow_nil _ _ _ _,trivial⟩
theorem cB.shp {R:RR α k} {w:World} {S:Nat->Prop}:∀{L:List α} {rows:List (List Value)},cB (R.p w S) L rows->vJ k rows
 | [],[],_=>vJ.nil
 | a :: L,r :: rows,h=>fun x hx=>by
  rcases List.mem_cons.1 hx with rfl | hx
  ·exact R.sh _ _ _ _ h.1
  ·exact cB.shp h.2 x hx
 | [],_ :: _,h=>h.elim
 | _ :: _,[],h=>h.elim
theorem LO.la {R:RR α k} {S S':Nat->Prop} {L:List α} (h:LO R e w base S v L) (hS:∀b,b<w.heap.size->S b->S' b) (hb:∀b,base<=b->S' b):LA R w S' v L:=by
 obtain ⟨rows,w1,w2⟩:=h;rw [<-w2.len] at w1;exact ⟨rows,RW.of_own w1 w2.shp (fun b hv=>hb b (w1.lt b hv).1),w2.imp fun a r h=>R.wk _ _ _ _ _ (fun b hb h=>hS b hb h.1) h⟩
theorem LO.lw {R:RR α k} {L:List α} (h:LO R e w base S v L) (h0:0<L.length):∃g cap,v = S_ (some ⟨g,0,none⟩) L.length cap/\L.length<=cap/\cap<=maxLen/\base<=g/\LW R w (fun b=>S b/\b≠g) g L:=by
 obtain ⟨rows,w1,w2⟩:=h;have hl:=w2.len;rw [<-hl] at w1 h0 ⊢;obtain ⟨g,cap,hv,c1,c2,c,d⟩:=WR.of_own w1 w2.shp h0;refine ⟨g,cap,hv,c1,c2,c,fun h=>h.2 rfl,rows,d,w2.imp fun a r h=>R.wk _ _ _ _ _ (fun b _ h=>⟨h.1,fun e=>h.2 ?_⟩) h⟩;rw [hv,e];rfl
theorem LO.own {R:RR α k} {L:List α} (h:LO R e w base S v L) (hb:v.ownBlock=some b):base<=b/\b<w:=by
 obtain ⟨rows,w1,_⟩:=h;exact w1.lt b hb
def rY (P:Program) (t e:TypeId) (k:Nat):Prop:=∃i z bytes,P.underlying t=some (.slice e)/\P.info? e=some i/\i.zero=some z/\i.size=k/\i.bytes=bytes/\z.cells.size=k/\0<k/\bytes<=1000
theorem cN (R:RR α k) (he:rY P t e k)
  (hg:o.guard=none) (s x:Operand) (hop:o.op=Op.call {callee:=Callee.builtin Builtin.append,args:=#[s,x],argTypes:=#[t,t]})
  (hs:a.eval s = S_ none 0 0) (v:Value) (S:Nat->Prop) (L:List α) (hx:a.eval x=v) (hR:LA R w S v L) (hn:L.length<=1000000)
  (hK:∀v' w',LO R e w' (w) S v' L->w.grownBy w' none->wpList P ops Q rest (a.put o.dst v') w'):wpList P ops Q (o :: rest) a w:=by
 obtain ⟨i,z,d,h1,h2,h3,n,p,q,u,y⟩:=he;obtain ⟨rows,B,l⟩:=hR;refine rK hg s x t hop e i z d h1 h2 h3 n p q u hs hx B y (by rw [l.len];exact hn) fun v' w' c f=>hK v' w' ⟨rows,by rw [<-l.len];exact c,?_⟩ f;have m:r_ S w w':=⟨f.size,fun z _ hl=>f.block z hl z_⟩;have j:∀b,v'.ownBlock=some b->w.heap.size<=b:=fun b g=>(c.lt b g).1;refine l.imp fun a r h=>R.wk _ (fun b=>S b/\b<w.heap.size) _ _ _ (fun b _ h=>⟨h.1,fun e=>by have:=j b e;omega⟩) (R.st w w' _ _ _ ⟨m.1,fun z A hl=>m.2 z A.1 hl⟩ (R.wk _ _ _ _ _ (fun b g h=>⟨h,g⟩) h))
theorem U_ {R:RR α k} (he:rY P t e k)
  (hg:o.guard=none) (s x:Operand) (hop:o.op=Op.call {callee:=Callee.builtin Builtin.append,args:=#[s,x],argTypes:=#[t,t]})
  (S:Nat->Prop) {L:List α} (hs:a.eval s=v) (hown:LO R e w base S v L) (hbase:base<=w) (hn:L.length<=1000000)
  (cs:Array Value) (hx:a.eval x = S_ (some ⟨g,0,none⟩) 1 1) {tg:TypeId} (hblk:w.heap[g]?=some (.cells cs tg (0,0))) (y:α) (hy:R.p w (fun b=>S b/\v.ownBlock≠some b) y cs.toList)
  (hK:∀v' w',LO R e w' base S v' (L ++ [y])->w.grownBy w' v.ownBlock->(∀b,v'.ownBlock=some b->v.ownBlock=some b\/b=w.heap.size)->wpList P ops Q rest (a.put o.dst v') w'):wpList P ops Q (o :: rest) a w:=by
 obtain ⟨i,z,c,h1,h2,h3,q,u,A,B,C⟩:=he;obtain ⟨rows,F,G⟩:=hown;obtain ⟨s1,s2⟩:=R.sh _ _ _ _ hy;have l:(L.length+1)*c<=1000001*1000:=Nat.mul_le_mul O_ C;refine wpList_append_lies w hg s x t hop base e i z k c h1 h2 h3 q u A B v L.length rows.flatten hs F ⟨g,0,none⟩ 1 1 cs.toList hx (by rw [s1];omega) (World.news_of_block hblk) s2 O_ (by unfold maxLen;omega) O_ hbase (w) rfl fun n cap w' j f d D=>hK _ _ ⟨rows ++ [cs.toList],?_,?_⟩ f ?_
 ·rw [aL_,List.flatten_append,List.flatten_cons,List.flatten_nil,List.append_nil];exact j
 ·have m:r_ (fun b=>(S b/\v.ownBlock≠some b)/\b<w.heap.size) w w':=⟨f.size,fun z E hl=>f.block z hl fun e=>E.1.2 e.symm⟩;have up:∀a r,R.p w (fun b=>S b/\v.ownBlock≠some b) a r->R.p w' (fun b=>S b/\(Value.slice (some ⟨n,0,none⟩) (L.length+1) cap).ownBlock≠some b) a r:=fun a r h=>
   R.wk _ _ _ _ _ (fun b _ h=>⟨h.1.1,fun e=>by
    simp only[Value.ownBlock,Option.some.injEq] at e;subst e
    rcases d with d | d
    ·exact h.1.2 d
    ·exact absurd h.2 O_⟩) (R.st _ _ _ _ _ m (R.wk _ _ _ _ _ (fun b l h=>⟨h,l⟩) h))
  exact (G.imp up).snoc (up _ _ hy)
 ·intro b l;simp only[Value.ownBlock,Option.some.injEq] at l;subst l;exact d
theorem dR_ (t:TypeId){ty:TypeId}(e:TypeId) (i:TypeInfo) (ht:P.underlying t=some (.slice e)) (hi:P.info? e=some i) {A:Addr} (B:Option Addr)(c:Nat) (hnc:n<=cap) (w:World) :
  (Builtin.append_ #[t,t] ty #[S_ (some A) n cap,S_ B 0 c]).run P w = .ok (S_ (some A) n cap) w:=by
 cases B <;> simp [Builtin.append_,hnc,storeCells,run_underlying ht,sizeOf,typeInfo,hi,Builtin.lenOf,Builtin.firstCells,loadCells,loadCellsFrom]
theorem dY (R:RR α k) (he:rY P t e k)
  (hg:o.guard=none) (s x:Operand) (hop:o.op=Op.call {callee:=Callee.builtin Builtin.append,args:=#[s,x],argTypes:=#[t,t]})
  (v:Value) (base:Nat) (S:Nat->Prop) (L:List α) (hs:a.eval s=v) (hown:LO R e w base S v L) (hbase:base<=w) (hn:L.length<=1000000)
  (u:Value) (M:List α) (hx:a.eval x=u) (hM:LA R w (fun b=>S b/\v.ownBlock≠some b) u M) (hm:M.length<=1000000)
  (hK:∀v' w',LO R e w' base S v' (L ++ M)->w.grownBy w' v.ownBlock->(∀b,v'.ownBlock=some b->v.ownBlock=some b\/b=w.heap.size)->wpList P ops Q rest (a.put o.dst v') w'):wpList P ops Q (o :: rest) a w:=by
 obtain ⟨i,z,d,h1,h2,h3,V,W,X,Y,Z⟩:=he;obtain ⟨rows,J,O⟩:=hown;obtain ⟨mr,⟨A,cap,hv,a0,a1,B,hc⟩,N⟩:=hM;have q:=N.len
 by_cases h0:M=[]
 ·subst h0;refine wpList_plain hg fun K E=>?_;have I:mr.length=0:=by simpa using q
  have hL:LO R e w base S v (L ++ []):=by rw [List.append_nil];exact ⟨rows,J,O⟩
  have C:=E _ _ (hK v w hL (World.grownBy.refl _ _) (fun b m=> .inl m));have D:(Builtin.append_ #[t,t] o.type #[v,S_ A 0 cap]).run P w = .ok v w:=by
   rcases J.2 with ⟨q1,q2⟩ | ⟨g,c,cur,q1,q2,q3,q4,q5,q6,q7⟩
   ·rw [q1];exact zM t _ e i h1 h2 A cap w
   ·rw [q1];exact dR_ t e i h1 h2 A cap q4 w
  unfold Oper.wp execOp;simp only[hop,resolve,invoke,builtin,Sem.run_bind,Sem.run_pure,Result.andThen_ok,List.map_toArray,List.map_cons,List.map_nil,hs,hx,hv,I,D];exact C
 ·have l:0<mr.length:=by rw [q];exact List.length_pos_iff.2 h0
  rcases hc with hc | ⟨b,o',e1,hb',hS,hc⟩
  ·subst hc;simp at l
  ·subst e1;have m:(L.length+mr.length)*d<=2000000*1000:=Nat.mul_le_mul O_ Z;refine wpList_append_lies w hg s x t hop base e i z k d h1 h2 h3 V W X Y v L.length rows.flatten hs J ⟨b,o',none⟩ mr.length cap mr.flatten (hx.trans hv) (jY mr B.len) (fun j u hj=>?_) B.one l (by unfold maxLen;omega) O_ hbase (w) rfl fun U cap w' y n f a2=>hK _ _ ⟨rows ++ mr,?_,?_⟩ n ?_
   ·obtain ⟨i',r,j',F,G,rfl⟩:=yA mr B.len j u hj;rw [Addr.add_mid,<-Nat.add_assoc];exact hc i' r j' u F G
   ·rw [aL_,List.flatten_append,<-q];exact y
   ·have H:r_ (fun b=>(S b/\v.ownBlock≠some b)/\b<w.heap.size) w w':=⟨n.size,fun z hz hl=>n.block z hl fun e=>hz.1.2 e.symm⟩;have up:∀a r,R.p w (fun b=>S b/\v.ownBlock≠some b) a r->R.p w' (fun b=>S b/\(Value.slice (some ⟨U,0,none⟩) (L.length+mr.length) cap).ownBlock≠some b) a r:=fun a r h=>
     R.wk _ _ _ _ _ (fun b _ h=>⟨h.1.1,fun e=>by
      simp only[Value.ownBlock,Option.some.injEq] at e;subst e
      rcases f with f | f
      ·exact h.1.2 f
      ·exact absurd h.2 O_⟩) (R.st _ _ _ _ _ H (R.wk _ _ _ _ _ (fun b m h=>⟨h,m⟩) h))
    exact (O.imp up).app (N.imp up)
   ·intro b m;simp only[Value.ownBlock,Option.some.injEq] at m;subst m;exact f
theorem LO.fresh {R:RR α k} {e:TypeId} {base g:Nat} {S:Nat->Prop} {rows:List (List Value)} {L:List α} (hg:w.heap[g]?=some (.cells rows.flatten.toArray e (0,0))) (hb:base<=g) (h:cB (R.p w (fun b=>S b/\g≠b)) L rows) (hn:L.length<=maxLen):LO R e w base S (S_ (some ⟨g,0,none⟩) L.length L.length) L:=by
 refine ⟨rows,⟨?_,.inr ⟨g,L.length,_,rfl,hb,hg,aQ _,hn,?_,?_⟩⟩,h.imp fun a r h=>R.wk _ _ _ _ _ (fun b _ h=>⟨h.1,fun e=>h.2 (by simpa [Value.ownBlock] using e)⟩) h⟩
 ·rw [jY rows h.shp.len,h.len]
 ·rw [List.size_toArray,jY rows h.shp.len,h.len]
 ·rw [List.toList_toArray,tL_ (by rw [jY rows h.shp.len,h.len];exact aQ _)]
theorem cB.take {p:α->List Value->Prop}:∀{l:List α} {rows:List (List Value)},cB p l rows->∀(n:Nat),cB p (l.take n) (rows.take n)
 | [],[],_,n=>by simp [cB]
 | x :: l,r :: rows,h,0=>trivial
 | x :: l,r :: rows,h,n+1=>⟨h.1,cB.take h.2 n⟩
 | [],_ :: _,h,_=>h.elim
 | _ :: _,[],h,_=>h.elim
theorem LA.take {R:RR α k} {m:Nat} {L:List α} (h:LA R w S (S_ A m cap) L) (hn:n<=L.length):LA R w S (S_ A n cap) (L.take n):=by
 obtain ⟨rows,⟨A',cap',e,c1,c2,f,hc⟩,h2⟩:=h;injection e with e1 e2 e3
 subst e1 e3;have hl:=h2.len;refine ⟨rows.take n,⟨A,cap,by rw [List.length_take,Nat.min_eq_left O_],by rw [List.length_take];omega,c2,f.sub fun r d=>List.mem_of_mem_take d,?_⟩,h2.take n⟩
 rcases hc with hc | ⟨b,o,e1,hb,hS,hc⟩
 ·exact .inl (by rw [hc];simp)
 ·refine .inr ⟨b,o,e1,hb,hS,fun i r j u a c=>?_⟩;rw [List.getElem?_take] at a
  split at a
  ·exact hc i r j u a c
  ·cases a
theorem LA.drop {R:RR α k} {o m:Nat} {L:List α} (h:LA R w S (S_ (some ⟨b,o,none⟩) m cap) L) {n:Nat} (hn:n<=L.length) (A:Option Addr) (hA:n<L.length->A=some ⟨b,o+n*k,none⟩):LA R w S (S_ A (L.length - n) (cap - n)) (L.drop n):=by
 obtain ⟨rows,⟨A',cap',e,c1,c2,g,hc⟩,h2⟩:=h;injection e with e1 e2 e3
 subst e1 e3;have hl:=h2.len;refine ⟨rows.drop n,⟨A,cap - n,by rw [List.length_drop,hl],by rw [List.length_drop];omega,O_,g.sub fun r f=>List.mem_of_mem_drop f,?_⟩,h2.drop n⟩
 by_cases a:n<L.length
 ·rcases hc with hc | ⟨b',o',e1,hb,hS,hc⟩
  ·rw [hc] at hl;simp at hl;omega
  ·injection e1 with e1
   injection e1 with e4 e5
   subst e4 e5;refine .inr ⟨b,o+n*k,hA a,hb,hS,fun i r j u c d=>?_⟩;rw [List.getElem?_drop] at c;have:=hc (n+i) r j u c d;rw [Nat.add_mul] at this;rw [show o+n*k+i*k+j=o+(n*k+i*k)+j by omega];exact this
 ·exact .inl (List.drop_eq_nil_of_le O_)
def M_:RR Int 1:=RR.flat (fun x=>[I_ x]) (fun a=>⟨rfl,fun u hu=>by simp at hu;subst hu;rfl⟩)
def IL (w:World) (S:Nat->Prop) (v:Value) (l:List Int):Prop:=LA M_ w S v l
theorem cS:rY prog 22 3 1:=by
 obtain ⟨i,h1,h2,h3,h4⟩:=info_parts uI;exact ⟨i,_,8,underlying22,h1,h2,h3,h4,rfl,O_,O_⟩
theorem IL.cell (h:LA M_ w S v l) {i:Nat} {x:Int} (hi:l[i]?=some x):∃b o cap,v = S_ (some ⟨b,o,none⟩) l.length cap/\l.length<=cap/\cap<=maxLen/\b<w.heap.size/\S b/\w.cell? ⟨b,o+i,none⟩=some (I_ x):=by
 obtain ⟨b,o,cap,r,hv,c1,c2,hb,hS,hp,hc⟩:=h.at_ hi;have hp:r=[I_ x]:=hp;subst hp;exact ⟨b,o,cap,hv,c1,c2,hb,hS,by have:=hc 0 _ rfl;rw [Nat.mul_one] at this;exact this⟩
theorem LA.old {R:RR α k} {L:List α} (h:LA R w S v L):LA R w (fun b=>S b/\b<w.heap.size) v L:=h.weak fun b hb h=>⟨h,hb⟩
theorem LA.weakN {R:RR α k} {L:List α} {o:Obj} {m c:Nat} (_:LA R (w.alloc o) S v L) (h:LA R w S v L):LA R (w.alloc o) (fun b=>(S b/\b<w.heap.size)/\(Value.slice (some ⟨w,n,none⟩) m c).ownBlock≠some b) v L:=
 (h.old.alloc o).weak fun b _ h=>⟨h,fun e=>by simp [Value.ownBlock] at e;omega⟩
theorem LO.base_le {R:RR α k} {base':Nat} {L:List α} (h:LO R e w base S v L) (hb:base'<=base):LO R e w base' S v L:=by
 obtain ⟨rows,⟨r1,r2⟩,r3⟩:=h;refine ⟨rows,⟨r1,?_⟩,r3⟩
 rcases r2 with r2 | ⟨g,cap,cur,q1,q2,q3⟩
 ·exact .inl r2
 ·exact .inr ⟨g,cap,cur,q1,dO hb q2,q3⟩
theorem LW.slot {R:RR α k} {L:List α} (h:LW R w S g L) {i p:Nat} (hi:i<L.length) (hp:p<k):(∃u,w.cell? ⟨g,i*k+p,none⟩=some u)/\w.frozen? ⟨g,i*k+p,none⟩=false:=by
 have:=h.there (i:=i) (p:=p) (n:=1) hi O_ 0 O_;rw [Nat.add_zero] at this;exact ⟨Option.isSome_iff_exists.1 this.1,this.2⟩
theorem LW.setOne {R:RR α k} {L:List α} (h:LW R w S g L) {i p:Nat} {a a':α} {v:Value} (hi:L[i]?=some a) (hp:p<k) (h1:v.oneCell'=true)
  (hr:∀r,R.p w S a r->R.p w S a' (r.take p ++ [v] ++ r.drop (p+1))):LW R (w.setCell ⟨g,i*k+p,none⟩ v) S g (L.set i a'):=
 h.setPart (vs:=[v]) hi (by simp;omega) (fun u hu=>by simp at hu;subst hu;exact h1) hr
end
section
def nK (v:Value) (w:World) (e:Ending) (w':World):Prop:=e = .returned v/\w=w'
def xM (l:List Int) (n:Int):Int:=if n ∈ l then (l.idxOf n:Int) else -1
theorem cH_ {n:Int} (hi:l[k]?=some n) (hn:n ∉ l.take k):xM l n=k:=by
 have b:n ∈ l:=fF hi;unfold xM;rw [if_pos b];have a:=bK hi;have e:l=l.take k ++ n :: l.drop (k+1):=by
  conv=>lhs;rw [<-List.take_append_drop k l,List.drop_eq_getElem_cons a,(List.getElem?_eq_some_iff.1 hi).2]
 rw [e,List.idxOf_append,if_neg hn];simp [List.idxOf_cons];omega
theorem dS_ {n:Int} (hn:n ∉ l.take l.length):xM l n=-1:=by
 rw [List.take_length] at hn;unfold xM;rw [if_neg hn]
theorem vS {n:Int} (hi:l[k]?=some x) (hn:n ∉ l.take k) (hx:x≠n):n ∉ l.take (k+1):=by
 rw [List.take_add_one,hi,Option.toList_some,List.mem_append,mS_];rintro (h | h)
 ·exact hn h
 ·exact hx h.symm
theorem xN (n:Int) (h:LA M_ w S v l):C_ 161 #[v,I_ n] w (nK (I_ (xM l n)) w):=by
 obtain ⟨A,cap,rfl,hc,m⟩:=h.form;have H:=H_ h;clear h;unfold maxLen at m;go_enter func161,ntmps161;go_wp2
 go_loop [5] (fun i=>∃k:Nat,i = I_ k/\k<=l.length/\n ∉ l.take k) (fun i=>l.length - (intOf i).toNat)
 case atStart=>exact ⟨0,rfl,O_,z_⟩
 case round=>
  obtain ⟨k,rfl,q,j⟩:=hrel;have c:=H_ j;clear j
  by_cases d:k<l.length
  ·obtain ⟨x,f⟩:∃x,l[k]?=some x:=⟨_,cU d⟩;obtain ⟨b,o,cap',hv,_,_,p,_,c0⟩:=IL.cell H.out f;injection hv with e1 e2 e3
   subst e1 e3;have g:=H_ f;clear f e2
   by_cases a:x=n
   ·subst a;go_wp2;go_ret;exact ⟨yN (cH_ g c).symm,rfl⟩
   ·go_wp2
    go_round
    case rel=>exact ⟨k+1,by go_num,O_,vS g.out c.out a⟩
    case measure=>exact bH
  ·obtain rfl:k=l.length:=O_
   go_wp2;go_ret
   exact ⟨yN (dS_ c).symm,rfl⟩
def bL (l:List Int) (n:Int):List Int:=l.filter (fun x=>x != n)
theorem dc_ {n:Int} (h:l[k]?=some x):bL (l.take (k+1)) n=bL (l.take k) n ++ if x != n then [x] else []:=by
 unfold bL;rw [List.take_add_one,h,Option.toList_some,List.filter_append,List.filter_cons,List.filter_nil]
theorem e1_ (l:List Int) (n:Int):(bL l n).length<=l.length:=List.length_filter_le _ _
def pG (l:List Int) (S:Nat->Prop) (w:World) (e:Ending) (w':World):Prop:=∃v,e = .returned v/\LA M_ w' S v l/\q_ w w'
theorem kO (n:Int) (S:Nat->Prop) (h:LA M_ w S v l) (hl:l.length<=1000) (hS:∀b,w.heap.size<=b->S b):C_ 221 #[v,I_ n] w (pG (bL l n) S w):=by
 obtain ⟨A,cap,rfl,hc,z⟩:=h.form;have H:=H_ h;clear h;unfold maxLen at z;go_enter func221,ntmps221;go_wp2
 go_loopw [5,6] (fun u i wx=>∃k:Nat,i = I_ k/\k<=l.length/\LO M_ 3 wx (w) S u (bL (l.take k) n)/\q_ w wx) (fun _ i _=>l.length - (intOf i).toNat)
 case atStart=>exact ⟨0,rfl,O_,LO.nil _ _ _ _ _,aI _ _⟩
 case round=>
  obtain ⟨k,rfl,B,y,g⟩:=hrel;have f:=H_ y;have d:=H_ g;clear y g
  by_cases p:k<l.length
  ·obtain ⟨x,r⟩:∃x,l[k]?=some x:=⟨_,cU p⟩;obtain ⟨b,o,cap',hv,_,_,g,_,c0⟩:=IL.cell (H.step d.out) r;injection hv with e1 e2 e3
   subst e1 e3;have s:=H_ (dc_ (n:=n) r);have q:=e1_ (l.take k) n;rw [List.length_take] at q;clear r e2
   by_cases j:x=n
   ·subst j;have a:=H_ (show bL (l.take (k+1)) x=bL (l.take k) x by rw [s.out];simp);go_wp2;go_roundw
    case rel=>exact ⟨k+1,by go_num,O_,by rw [a.out];exact f,d.out⟩
    case measure=>exact bH
   ·have a:=H_ (show bL (l.take (k+1)) n=bL (l.take k) n ++ [x] by rw [s.out];simp [j])
    go_wp2_with (at_builtin;(refine U_ cS rfl (.tmp 19) (.tmp 24) rfl S rfl (f.alloc _) (by have:=d.size;simp;omega) O_ #[I_ x] rfl (l_ _ _ _ rfl) x rfl ?_);intro v4 w4 c m t)
    go_roundw
    case rel=>exact ⟨k+1,by go_num,O_,by rw [a.out];exact c,(b_ d.out _).grown m (b_ d.out _).size (fun b g=>(f.own g).1)⟩
    case measure=>exact bH
  ·obtain rfl:k=l.length:=O_
   rw [List.take_length] at f;go_wp2;go_ret;exact ⟨_,rfl,f.la (fun _ _ h=>h) hS,d.out⟩
theorem yC (n:Int) (S:Nat->Prop) (h:LA M_ w S v l) (hl:l.length<=1000) (hS:∀b,w.heap.size<=b->S b):C_ 190 #[v,I_ n] w (pG (n :: l) S w):=by
 have H:=H_ (h.alloc (.cells #[I_ n] 3));have i:=H_ (LO.fresh (R:=M_) (e:=3) (base:=w.heap.size) (S:=fun b=>S b/\b<w.heap.size) (rows:=[[I_ n]]) (L:=[n]) (g_ w (.cells #[I_ n] 3)) (aQ _) ⟨rfl,trivial⟩ (by unfold maxLen;simp));have d:=H_ (b_ (aI (w) w) (.cells #[I_ n] 3));have g:=H_ h;clear h;go_enter func190,ntmps190
 go_wp2_with (at_builtin;refine dY M_ cS rfl (.tmp 6) (.tmp 7) rfl _ (w) (fun b=>S b/\b<w.heap.size) [n] rfl i.out z_ z_ _ l rfl (H.weakN g.out) O_ ?_;intro v4 w4 a c f)
 go_ret;exact ⟨_,rfl,a.la (fun _ _ h=>h.1) hS,d.grown c d.size (fun b j=>Nat.le_of_eq (aP j))⟩
end
section
section
variable {P:Program} {ops:Array Oper} {C:Bool->World->Prop} {kp:Nat->Bool} {G:Nat->Value->World->Prop} {s:Nat} {pl:Nat->Bool}
def hX_ (P:Program) (ops:Array Oper) (C:Bool->World->Prop) (kp:Nat->Bool) (G:Nat->Value->World->Prop) (s:Nat) (pl:Nat->Bool) (i:Nat) (o:Oper) (a:Act):Prop:=
 ∀b w,(b=true->i≠s/\pl i=false)->C b w->(∀j,Region.waitsFor .any ops i j=true->(b=true->kp j=true)->G j (eS ops a j) w)->∀K:Act->World->Prop,(∀v w',C (b||i == s) w'->(∀j u,(i=s->j<s)->(i=s\/b=true->kp j=true)->G j u w->G j u w')->G i v w'->K (a.put o.dst v) w')->Oper.wp P o a w K fH
def eH (P:Program) (ops:Array Oper) (C:Bool->World->Prop) (kp:Nat->Bool) (G:Nat->Value->World->Prop) (s:Nat) (pl:Nat->Bool) (T:Act->Prop):Nat->List Oper->Act->Prop
 | _,[],a=>T a
 | i,o :: l,a=>hX_ P ops C kp G s pl i o a/\∀v,eH P ops C kp G s pl T (i+1) l (a.put o.dst v)
def GB (kp:Nat->Bool) (G:Nat->Value->World->Prop) (s:Nat):Bool->Nat->Value->World->Prop
 | false,j,v,w=>¬(j=s\/(s<j/\kp j=true))/\G j v w
 | true,j,v,w=>kp j=true->G j v w
theorem nZ {T T':Act->Prop} (hT:∀a,T a->T' a) (hkp:∀j,j<ops.size->s<j->kp j=true->Region.waitsFor .any ops j s=true):∀(l:List Oper) (i:Nat) (a:Act),(∀k,l[k]?=ops[i+k]?)->eH P ops C kp G s pl T i l a->
  dC (Γ:=Bool) P ops (fun g d w=>g=d s/\C g w) (GB kp G s) s pl T' i l a
 | [],_,a,_,h=>hT a h
 | o :: l,i,a,hl,h=>by
  have hi:i<ops.size:=(Array.getElem?_eq_some_iff.1 ((hl 0).symm.trans rfl)).1;refine ⟨fun g d w hn hp ⟨eg,hC⟩ hd K hK=>?_,fun v=>nZ hT hkp l (i+1) _ (fun k=>by have:=hl (k+1);rw [show i+1+k=i+(k+1) by omega];simpa using this) (h.2 v)⟩;have n:(s == i)=(i == s):=vZ s i
  cases g with
  | false=>
   refine h.1 false w (fun p=>by cases p) hC (fun j f _=>(hd j f).2) K fun v w' h1 h2 h3=>hK (false||i == s) v w' ⟨by show _=(d s||s == i);rw [<-eg,n],h1⟩ ?_ ?_
   ·intro j u b
    by_cases e:i=s
    ·rw [show (false||i == s)=true by simp [e]];intro c;have f:j<s:=by
      rcases Nat.lt_trichotomy j s with h | h | h
      ·exact h
      ·exact absurd (.inl h) b.1
      ·exact absurd (.inr ⟨h,c⟩) b.1
     exact h2 j u (fun _=>f) (fun _=>c) b.2
    ·rw [show (false||i == s)=false by simp [e]];exact ⟨b.1,h2 j u (fun h=>absurd h e) (fun h=>by rcases h with h | h;exact absurd h e;cases h) b.2⟩
   ·by_cases e:i=s
    ·rw [show (false||i == s)=true by simp [e]];exact fun _=>h3
    ·rw [show (false||i == s)=false by simp [e]];refine ⟨fun h=>?_,h3⟩
     rcases h with h | h
     ·exact e h
     ·exact (hd s (hkp i hi h.1 h.2)).1 (.inl rfl)
  | true=>
   have m:i≠s:=fun e=>by subst e;rw [hn] at eg;cases eg
   refine h.1 true w (fun _=>⟨m,hp eg.symm⟩) hC (fun j f c=>hd j f (c rfl)) K fun v w' h1 h2 h3=>hK true v w' ⟨by show _=(d s||s == i);rw [<-eg];rfl,by simpa using h1⟩ (fun j u b c=>h2 j u (fun h=>absurd h m) (fun _=>c) (b c)) (fun _=>h3)
theorem vH {l:List Oper} (m s:Nat) (pl:Nat->Bool) (C:Bool->World->Prop) (kp:Nat->Bool) (G:Nat->Value->World->Prop)
  (hm:P.follows .mixedOrders=true) (hB:uW l.toArray m s pl=true) (hs:a.tmps.size=m) (hC:C false {w with drawn:=w.drawn+1}) (hkp:(List.range l.toArray.size).all (fun j=>!decide (s<j)||!kp j||Region.waitsFor .any l.toArray j s)=true) (hs0:∀o,l.toArray[s]?=some o->o.dst=none->∀w,G s undef w)
  (h:eH P l.toArray C kp G s pl (fun a'=>∀w',C true w'->(∀j,j<l.toArray.size->kp j=true->G j (eS l.toArray a' j) w')->wpList P l.toArray Q [] a' w') 0 l a):(Code.region id l.toArray true).wp P Q a w:=by
 obtain ⟨b,f⟩:=oU hB;have p:s<l.toArray.size:=by
  have:=b;simp only[mL,Bool.and_eq_true,decide_eq_true_eq] at this;exact this.1.2
 refine bU (Γ:=Bool) m s pl (fun g d w=>g=d s/\C g w) (GB kp G s) false hm b hs ⟨rfl,hC⟩ (fun i o q c g v w r=>?_) (nZ (fun a' hT g d w' c ⟨eg,hC⟩ hG=>?_) (fun j n h1 h2=>?_) l 0 a (fun k=>by simp) h)
 ·obtain rfl:=f i o q c
  cases g with
  | false=>exact absurd (.inl rfl) r.1
  | true=>exact fun _=>hs0 o q c w
 ·have:=List.all_eq_true.1 hkp j (List.mem_range.2 n)
  simpa [h1,h2] using this
 ·rw [c s p] at eg;subst eg;exact hT w' hC (fun j n t=>hG j n t)
theorem fU {T:Act->Prop} {i:Nat} {l:List Oper} (hp:pl i=true) (his:(i == s)=false)
  (h1:∀w,C false w->(∀j,Region.waitsFor .any ops i j=true->G j (eS ops a j) w)->∀K:Act->World->Prop,(∀v w',C false w'->(∀j u,G j u w->G j u w')->G i v w'->K (a.put o.dst v) w')->Oper.wp P o a w K fH)
  (h2:∀v,eH P ops C kp G s pl T (i+1) l (a.put o.dst v)):eH P ops C kp G s pl T i (o :: l) a:=by
 refine ⟨fun b w g c d K f=>?_,h2⟩
 cases b with
 | true=>rw [(g rfl).2] at hp;cases hp
 | false=>exact h1 w c (fun j m=>d j m (fun h=>by cases h)) K fun v w' h n k=>f v w' (by rw [his];exact h) (fun j u _ _=>n j u) k
theorem vV {T:Act->Prop} {l:List Oper}
  (h1:∀w,C false w->(∀j,Region.waitsFor .any ops s j=true->G j (eS ops a j) w)->∀K:Act->World->Prop,(∀v w',C true w'->(∀j u,j<s->kp j=true->G j u w->G j u w')->G s v w'->K (a.put o.dst v) w')->Oper.wp P o a w K fH)
  (h2:∀v,eH P ops C kp G s pl T (s+1) l (a.put o.dst v)):eH P ops C kp G s pl T s (o :: l) a:=by
 refine ⟨fun b w i d f K g=>?_,h2⟩
 cases b with
 | true=>exact absurd rfl (i rfl).1
 | false=>exact h1 w d (fun j c=>f j c (fun h=>by cases h)) K fun v w' h m k=>g v w' (by simpa using h) (fun j u h1 c=>m j u (h1 rfl) (c (.inl rfl))) k
theorem yL {T:Act->Prop} {i:Nat} {l:List Oper} (his:(i == s)=false)
  (h1:∀w,(∀j,Region.waitsFor .any ops i j=true->kp j=true->G j (eS ops a j) w)->∀K:Act->World->Prop,(∀v,G i v w->K (a.put o.dst v) w)->Oper.wp P o a w K fH)
  (h2:∀v,eH P ops C kp G s pl T (i+1) l (a.put o.dst v)):eH P ops C kp G s pl T i (o :: l) a:=
 ⟨fun b w hb hC hG K hK=>h1 w (fun j hj hk=>hG j hj (fun _=>hk)) K fun v hv=>hK v w (by rw [his,Bool.or_false];exact hC) (fun _ _ _ _ h=>h) hv,h2⟩
theorem yM {T:Act->Prop} {i:Nat} (h:T a):eH P ops C kp G s pl T i [] a:=h
end
theorem yU {W:World} {l:List Oper} (m s:Nat) (pl kp:Nat->Bool) (D:World->Prop) (ls:List SP)
  (hm:P.follows .mixedOrders=true) (hB:uW l.toArray m s pl=true) (hs:a.tmps.size=m) (hkp:(List.range l.toArray.size).all (fun j=>!decide (s<j)||!kp j||Region.waitsFor .any l.toArray j s)=true)
  (hs0:(l.toArray[s]?).any (fun o=>o.dst.isSome)=true\/∀w,GS ls s undef w)
  (h:eH P l.toArray (CB W D) kp (GS ls) s pl (fun a'=>∀w',D w'->(∀j,j<l.toArray.size->kp j=true->GS ls j (eS l.toArray a' j) w')->wpList P l.toArray Q [] a' w') 0 l a):(Code.region id l.toArray true).wp P Q a W:=
 vH m s pl (CB W D) kp (GS ls) hm hB hs (B_.drew) hkp (fun o ho hd w=>by
  rcases hs0 with h | h
  ·rw [ho] at h;simp [hd] at h
  ·exact h w) h
end
section
structure Lr where
 act:List Int
 ina:List Int
 ref:List Int
def sI (w:World) (S:Nat->Prop) (v1 v2 v3:Value) (a:Lr):Prop:=LA M_ w S v1 a.act/\LA M_ w S v2 a.ina/\LA M_ w S v3 a.ref
theorem sI.kept {w w':World} {a:Lr} (h:sI w S v1 v2 v3 a) (hk:r_ S w w'):sI w' S v1 v2 v3 a:=⟨h.1.kept hk,h.2.1.kept hk,h.2.2.kept hk⟩
theorem sI.step {a:Lr} (h:sI w S v1 v2 v3 a) (hb:q_ w w'):sI w' S v1 v2 v3 a:=h.kept (r_.of_below hb)
theorem sI.weak {S S':Nat->Prop} {a:Lr} (h:sI w S v1 v2 v3 a) (hS:∀b,b<w.heap.size->S b->S' b):sI w S' v1 v2 v3 a:=⟨h.1.weak hS,h.2.1.weak hS,h.2.2.weak hS⟩
theorem LA.oneCell {R:RR α k} {L:List α} (h:LA R w S v L):v.oneCell'=true:=by
 obtain ⟨A,cap,rfl,_⟩:=h.form
 rfl
def sJ:RR Lr 3 where
 p w S a r:=∃v1 v2 v3,r=[v1,v2,v3]/\sI w S v1 v2 v3 a
 st w w' S a r hk h:=by obtain ⟨v1,v2,v3,e,h⟩:=h;exact ⟨v1,v2,v3,e,h.kept hk⟩
 wk w S S' a r hS h:=by obtain ⟨v1,v2,v3,e,h⟩:=h;exact ⟨v1,v2,v3,e,h.weak hS⟩
 sh w S a r h:=by
  obtain ⟨v1,v2,v3,rfl,h1,h2,h3⟩:=h;refine ⟨rfl,fun u hu=>?_⟩;simp only[qJ,List.not_mem_nil,or_false] at hu
  rcases hu with rfl | rfl | rfl
  ·exact h1.oneCell
  ·exact h2.oneCell
  ·exact h3.oneCell
structure eQ (a:Lr):Prop where
 rng:∀x ∈ a.act ++ a.ina,1<=x/\x<=64
 dup:(a.act ++ a.ina).Nodup
 sub:∀x ∈ a.ref,x ∈ a.act ++ a.ina
 asc:a.ref.Pairwise (·<·)
theorem uQ:∀(n:Nat) (l:List Int),l.Nodup->(∀x ∈ l,1<=x/\x<=(n:Int))->l.length<=n
 | 0,l,_,h=>by
  cases l with
  | nil=>simp
  | cons x l=>have:=h x (List.mem_cons_self ..);omega
 | n+1,l,hd,h=>by
  have h1:=uQ n (l.erase ((n+1:Nat):Int)) (hd.erase _) (fun x d=>by
   have b:=(List.Nodup.mem_erase_iff hd).1 d;have:=h x b.2;have c:=b.1;omega)
  have h2:=List.length_erase_le (a:=((n+1:Nat):Int)) (l:=l);have h3:l.length<=(l.erase ((n+1:Nat):Int)).length+1:=by
   by_cases b:((n+1:Nat):Int) ∈ l
   ·rw [List.length_erase_of_mem b];omega
   ·rw [List.erase_of_not_mem b];omega
  omega
theorem wO (h:l.Pairwise (·<·)):l.Nodup:=h.imp fun {a b} hab=>by omega
theorem eQ.lens {a:Lr} (h:eQ a):a.act.length<=64/\a.ina.length<=64/\a.ref.length<=64:=by
 have h1:=uQ 64 _ h.dup h.rng;rw [aL_] at h1;have h2:=uQ 64 _ (wO h.asc) (fun x hx=>h.rng x (h.sub x hx));exact ⟨O_,O_,h2⟩
theorem fY_ (hd:l.Nodup) (hx:l[k]?=some x):xM (l.take k) x=-1:=by
 unfold xM;rw [if_neg];intro f;obtain ⟨i,c,b⟩:=List.getElem_of_mem f;rw [List.length_take] at c;rw [List.getElem_take] at b;obtain ⟨d,a⟩:=List.getElem?_eq_some_iff.1 hx;have:=(List.getElem_inj hd).1 (b.trans a.symm);omega
theorem jH (h:x ∈ l):0<=xM l x:=by unfold xM;rw [if_pos h];omega
theorem kV (h:x ∉ l):xM l x=-1:=by unfold xM;rw [if_neg h]
def eU (a:Lr) (f:Int):Bool:=decide (f ∈ a.act ++ a.ina)
def SP.la {α:Type} {k:Nat} (R:RR α k) (S:Nat->Prop) (L:List α):SP:=⟨fun v w=>LA R w S v L,fun _ _ _ hb h=>h.step hb⟩
def SP.lo {α:Type} {k:Nat} (R:RR α k) (e:TypeId) (base:Nat) (S:Nat->Prop) (L:List α):SP:=⟨fun v w=>LO R e w base S v L/\base<=w,fun _ _ _ hb h=>⟨h.1.step hb,dO h.2 hb.size⟩⟩
theorem ew_ {a:Lr} (f:Int) (h:sI w S v1 v2 v3 a):C_ 189 #[.agg #[v1,v2,v3],I_ f] w (cP (eU a f) w):=by
 obtain ⟨h1,h2,h3⟩:=h;have a1:=fun w' (hb:q_ w w')=>xN f (h1.step hb);have a2:=fun w' (hb:q_ w w')=>xN f (h2.step hb);have k:=H_ (g_ w (.cells #[v1,v2,v3] 119));have b:=H_ (b_ (aI (w) w) (.cells #[v1,v2,v3] 119));clear h1 h2 h3
 by_cases c:f ∈ a.act
 ·have d:=jH c;have i:=H_ (show eU a f=true by simp [eU,c]);clear c;generalize xM a.act f=z at a1 d;go_enter func189,ntmps189
  go_wp2_with (go_at_call 161;(with_reducible refine CM (a1 _ b.out) ?_);rintro e w' ⟨rfl,rfl⟩)
  go_ret;exact ⟨by rw [i.out];rfl,b.out⟩
 ·by_cases g:f ∈ a.ina
  ·have d:=kV c;have j:=jH g;have i:=H_ (show eU a f=true by simp [eU,g]);rw [d] at a1;clear c g d;generalize xM a.ina f=z at a2 j;go_enter func189,ntmps189
   go_wp2_with (first | (go_at_call 161;(with_reducible refine CM (a1 _ b.out) ?_);rintro e w' ⟨rfl,rfl⟩) | (go_at_call 161;(with_reducible refine CM (a2 _ b.out) ?_);rintro e w' ⟨rfl,rfl⟩))
   go_ret;exact ⟨by rw [i.out];rfl,b.out⟩
  ·have d:=kV c;have j:=kV g;have i:=H_ (show eU a f=false by simp [eU,c,g]);rw [d] at a1;rw [j] at a2;clear c g d j;go_enter func189,ntmps189
   go_wp2_with (first | (go_at_call 161;(with_reducible refine CM (a1 _ b.out) ?_);rintro e w' ⟨rfl,rfl⟩) | (go_at_call 161;(with_reducible refine CM (a2 _ b.out) ?_);rintro e w' ⟨rfl,rfl⟩))
   go_ret;exact ⟨by rw [i.out];rfl,b.out⟩
theorem lD {a:Lr} (h:sI w S v1 v2 v3 a) (ok:eQ a):C_ 105 #[.agg #[v1,v2,v3]] w (cP true w):=by
 obtain ⟨l1,l2,l3⟩:=ok.lens;have Q:=H_ ok;have HL:=H_ h;have P:=H_ (g_ w (.cells #[v1,v2,v3] 119));have G:=H_ (b_ (aI (w) w) (.cells #[v1,v2,v3] 119));clear h ok;go_enter func105,ntmps105
 go_upto_region 1 with fail
 generalize w.alloc (.cells #[v1,v2,v3] 119)=W at P G
 go_cut [3] (fun s3 wx=>LA M_ wx gL s3 (a.act ++ a.ina)/\aW wx (w) #[v1,v2,v3] 119/\q_ w wx)
 case first=>
  obtain ⟨x0,x1,x2⟩:=cL P.out;have d:=p_ P;refine yU 74 5 (fun i=>decide (i<=4)) (fun i=>decide (5<=i)) (fun wx=>q_ W wx) [SP.eq (P_ (w)),SP.eq v1,SP.lo M_ 3 (W) (fun b=>S b/\b<W.heap.size) a.act,SP.eq (.pointer (some ⟨w,1,none⟩)),SP.eq v2,SP.la M_ gL (a.act ++ a.ina),SP.la M_ gL (a.act ++ a.ina)] s_ s_ rfl s_ (.inl s_) ?_;refine fU rfl rfl (fun x r t K s=>?_) (fun v0=>?_)
  ·go_simp;exact s _ _ r (fun _ _ h=>h) rfl
  simp only[ly];refine fU rfl rfl (fun x r t K s=>?_) (fun u1=>?_)
  ·obtain rfl:v0=_:=t 0 s_;have c:q_ W x:=r;have y0:=(c.cell (p:=⟨w,_,none⟩) d).trans x0;go_simp;exact s _ _ r (fun _ _ h=>h) rfl
  simp only[ly];refine fU rfl rfl (fun x r t K s=>?_) (fun u2=>?_)
  ·obtain rfl:u1=_:=t 1 s_;have c:q_ W x:=r;have a0:=c.size;have X:=(((HL.out.1.step G.out).old).kept (w':=x) ⟨a0,fun z hz _=>c.block z hz.2⟩);refine aO (ops:=#[]) rfl (cN M_ cS rfl _ _ rfl rfl _ _ a.act rfl X O_ fun v' w' D hg=>?_);have E:=(aI (x) x).grown hg (aQ _) (fun b E=>by cases E);exact s _ _ (d_ c E) (fun j u h=>GS.keep E j u h) ⟨D.base_le a0,by have:=E.size;omega⟩
  simp only[ly];refine fU rfl rfl (fun x r t K s=>?_) (fun u3=>?_)
  ·go_simp;exact s _ _ r (fun _ _ h=>h) rfl
  simp only[ly];refine fU rfl rfl (fun x r t K s=>?_) (fun u4=>?_)
  ·obtain rfl:u3=_:=t 3 s_;have c:q_ W x:=r;have y0:=(c.cell (p:=⟨w,_,none⟩) d).trans x1;go_simp;exact s _ _ r (fun _ _ h=>h) rfl
  simp only[ly];refine vV (fun x r t K s=>?_) (fun u5=>?_)
  ·obtain rfl:u4=_:=t 4 s_;obtain ⟨g,a6⟩:=t 2 s_;have c:q_ W x:=r;have Y:=(((HL.out.2.1.step G.out).old).kept (w':=x) ⟨c.size,fun z hz _=>c.block z hz.2⟩);refine aO (ops:=#[]) rfl (dY M_ cS rfl _ _ rfl _ _ _ a.act rfl g a6 O_ _ a.ina rfl (Y.weak fun b E h=>⟨h,fun e=>by have:=(g.own e).1;have:=h.2;omega⟩) O_ fun v' w' D hg f=>?_);exact s _ _ (c.grown hg c.size (fun b E=>(g.own E).1)) (fun j u h1 h2=>by simp at h2;omega) (D.la (fun _ _ _=>trivial) (fun _ _=>trivial))
  simp only[ly];refine yL rfl (fun x t K s=>?_) (fun u6=>?_)
  ·have h5:=t 5 s_ rfl;go_simp;exact s _ h5
  simp only[ly];refine yM ?_;intro x hD hG;have h6:=hG 6 bX rfl;clear hG;go_wp2;go_meet
  case rel=>exact ⟨h6,(hD.block _ d).trans P,d_ G.out hD⟩
 case rest=>
  clear P G;obtain ⟨J,hX,hB⟩:=hcut;obtain ⟨A,cap,rfl,a3,a4⟩:=J.form;have B:=H_ J;have G:=H_ hB;obtain ⟨x0,x1,x2⟩:=cL hX;have L:=p_ hX;have Z:(a.act ++ a.ina).length<=128:=by rw [aL_];omega
  have R:=H_ Q.rng;have M:=H_ Q.dup;have U:=H_ Q.sub;have a1:=H_ Q.asc;have N:=H_ (HL.out.2.2.step G.out);obtain ⟨all,H⟩:=aZ (a.act ++ a.ina);rw [<-H] at R M U B Z a3 ⊢;clear H J hX hB HL Q;unfold maxLen at a4;go_wp2
  go_loopw [4] (fun i wx=>∃(k:Nat),i = I_ k/\k<=all.length/\q_ wc wx) (fun i _=>all.length - (intOf i).toNat)
  case atStart=>exact ⟨0,rfl,O_,aI _ _⟩
  case round=>
   obtain ⟨k,rfl,hk,C⟩:=hrel;have l:=H_ C
   by_cases d:k<all.length
   ·obtain ⟨x,F⟩:∃x,all[k]?=some x:=⟨_,cU d⟩;obtain ⟨b,o,cap',hv,_,_,E,_,c0⟩:=IL.cell (B.step l.out) F;injection hv with e1 e2 e3
    subst e1 e3;have hr:=R x (fF F);have f:=fun n=>xN x ((((B.step l.out).step (below_drewN B_ n)).take hk));rw [fY_ M.out F] at f;have d1:decide (x<1)=false:=dF O_;have d2:decide (64<x)=false:=dF O_;have k1:k<=cap:=O_
    clear F e2 C
    go_upto_region 5 with fail
    go_quiet ((go_at_call 161;exact Calls.quiet_of_eq (f _)));go_wp2;go_roundw
    case rel=>exact ⟨k+1,by go_num,O_,below_drewN l.out _⟩
    case measure=>exact bH
   ·obtain rfl:k=all.length:=O_
    have v:=H_ (N.step l.out);have O:=H_ (B.step l.out);obtain ⟨A3,V,a5,q1,q2⟩:=v.form;subst a5;have y2:wr.cell? ⟨w,2,none⟩=some (S_ A3 a.ref.length V):=(C.cell (p:=⟨w,2,none⟩) L).trans x2;have Y2:=H_ y2;have a2:=H_ (iS L C.size);clear C x0 x1 x2 N B L;unfold maxLen at q2;go_wp2
    go_loopw [5] (fun i wx=>∃(k:Nat),i = I_ k/\k<=a.ref.length/\q_ wr wx) (fun i _=>a.ref.length - (intOf i).toNat)
    case atStart=>exact ⟨0,rfl,O_,aI _ _⟩
    case round=>
     obtain ⟨k,rfl,hk,I⟩:=hrel;have q:=H_ I;have y2:=(I.cell (p:=⟨w,2,none⟩) a2).trans Y2;clear I
     by_cases d:k<a.ref.length
     ·obtain ⟨x,F⟩:∃x,a.ref[k]?=some x:=⟨_,cU d⟩;obtain ⟨b,o,cap',hv,_,_,E,_,c0⟩:=IL.cell (v.step q.out) F;injection hv with e1 e2 e3
      subst e1 e3;have f:=fun n=>xN x ((O.step q.out).step (below_drewN B_ n));have hz:=jH (U x (fF F));generalize xM all x=z at f hz;have d1:decide (z<0)=false:=dF O_
      cases k with
      | zero=>
       rw [Nat.add_zero] at c0;clear F e2
       go_upto_region 10 with fail
       go_quiet ((go_at_call 161;exact Calls.quiet_of_eq (f _)));go_wp2;go_roundw
       case rel=>exact ⟨1,rfl,O_,below_drewN q.out _⟩
       case measure=>exact bH
      | succ m=>
       obtain ⟨y,hy⟩:∃y,a.ref[m]?=some y:=⟨_,cU O_⟩;have hc:=IL.cell (v.step q.out) hy;obtain ⟨b',o',cap',hv,_,_,_,_,c1⟩:=hc;injection hv with e1 _ _
       injection e1 with e1
       injection e1 with e4 e5
       subst e4 e5;have a7:y<x:=by
        have:=List.pairwise_iff_getElem.1 a1.out m (m+1) O_ d O_;rw [<-(List.getElem?_eq_some_iff.1 hy).2,<-(List.getElem?_eq_some_iff.1 F).2];exact this
       have d2:decide (x<=y)=false:=dF O_;have w1:i64.wrap ((m:Int)+1 - 1)=(m:Int):=by rw [fA O_];omega
       have g0:(0:Int)<(m:Int)+1:=O_
       clear F hy e2
       go_upto_region 10 with fail
       go_quiet ((go_at_call 161;exact Calls.quiet_of_eq (f _)));go_wp2;go_roundw
       case rel=>exact ⟨m+2,by go_num,O_,below_drewN q.out _⟩
       case measure=>exact bH
     ·obtain rfl:k=a.ref.length:=O_
      go_wp2;go_ret
      exact ⟨rfl,d_ (d_ G.out l.out) q.out⟩
end
end Go.Proofs.YtehfhnbpnaiogaaGreatDoor
