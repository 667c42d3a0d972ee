/-
  Lemmas and contracts for the laws of this seat, part 30; several texts joined by a program.
-/
import Derived.Test.YtehfhnbpnaiogaaGreatDoorA29
import Derived.Test.YtehfhnbpnaiogaaGreatDoorA00
import Derived.Defers
import Derived.LoopIn
import Derived.LoopNIn
import Derived.OwnWalkIn
import Derived.RangeFuncBound
import Derived.RangeFuncCalls
import Derived.RangeFuncFrom
import Derived.RangeFuncLeaves
import Derived.Recover
import Derived.Shelf.Abstract
import Derived.Shelf.RegionOpen
import Derived.TacticsInMore
import Derived.WalkKit
namespace Go.Proofs.YtehfhnbpnaiogaaGreatDoor
set_option linter.all false
set_option maxRecDepth 100000
set_option maxHeartbeats 16000000
open Go.RowKit Go.Proofs.Tryz IntKind
variable {B:Nat} {C:Ck} {L:List Pt} {S:Nat->Prop} {c d e f g v:Value} {fn:Func} {w:World}
section
def fg_ (a b:Int):Int:=if a<b then -1 else if b<a then 1 else 0
def rK_ (a:Int) (w:World):C_ 228 #[I_ a] w (eg_ (.bool false) w):=by have d1:(a != a)=false:=A_;go_enter func228,ntmps228;go_wp2;go_ret;exact ⟨rfl,rfl⟩
def ix_ (a b:Int) (w:World):C_ 223 #[I_ a,I_ b] w (eg_ (I_ (fg_ a b)) w):=by have d:=fun a w'=>rK_ a w';by_cases h1:a<b;{have c:=H_ (show fg_ a b=-1 by unfold fg_;rw [if_pos h1]);go_enter func223,ntmps223;go_wp2_with (go_at_call 228;(with_reducible refine CM (d _ _) ?_);rintro e w1 ⟨rfl,rfl⟩);go_ret;exact ⟨by rw [c.out];rfl,rfl⟩};by_cases h2:b<a;{have c:=H_ (show fg_ a b=1 by unfold fg_;rw [if_neg h1,if_pos h2]);go_enter func223,ntmps223;go_wp2_with (go_at_call 228;(with_reducible refine CM (d _ _) ?_);rintro e w1 ⟨rfl,rfl⟩);go_ret;exact ⟨by rw [c.out];rfl,rfl⟩};have c:=H_ (show fg_ a b=0 by unfold fg_;rw [if_neg h1,if_neg h2]);go_enter func223,ntmps223;go_wp2_with (go_at_call 228;(with_reducible refine CM (d _ _) ?_);rintro e w1 ⟨rfl,rfl⟩);go_ret;exact ⟨by rw [c.out];rfl,rfl⟩
def r2_ (g:Nat) {a b:Int} (w:World) (h0:w.cell? ⟨g,0,none⟩=some (I_ a)) (h1:w.cell? ⟨g,1,none⟩=some (I_ b)) (hr:a=-1\/a=0/\b=-1):C_ 222 #[S_ (some ⟨g,0,none⟩) 2 2] w (hE_ (-1) w):=by rcases hr with rfl | ⟨rfl,rfl⟩;all_goals go_enter func222,ntmps222;go_wp2;refine wp_loop_rounds 3 ?_;(rw [rounds_succ];go_wp2);(try (rw [rounds_succ];go_wp2));go_ret;exact ⟨rfl,bR_ _ _⟩
def lX_ (a b c:Int) (d e:Bool) (w:World) (h:eH_ ⟨a,b,c,d,e⟩):C_ 208 #[ptV a b c d e] w (aO_ true w):=by obtain ⟨h1,h2,h3,h4,h5,h6⟩:=h;dsimp only at h1 h2 h3 h4 h5 h6;go_enter func208,ntmps208;go_wp2;go_ret;exact ⟨rfl,b_ B_ _⟩
def SP.row2 (a b:Int):SP:=⟨fun v w=>∃g,v = S_ (some ⟨g,0,none⟩) 2 2/\w.heap[g]?=some (.cells #[I_ a,I_ b] 3 (0,0)),fun v w w' hb ⟨g,h1,h2⟩=>⟨g,h1,k_ h2 hb⟩⟩
def lU_ (a b c:Int) (d e:Bool) (a' b' c':Int) (d' e':Bool) (w:World) (h:aJ_ ⟨a,b,c,d,e⟩ ⟨a',b',c',d',e'⟩=true):C_ 209 #[ptV a b c d e,ptV a' b' c' d' e'] w (hE_ (-1) w):=by have u:fg_ a a'=-1\/fg_ a a'=0/\fg_ b b'=-1:=(by have h':a<a'\/(a=a'/\b<b'):=(by simpa [aJ_] using h);rcases h' with h' | ⟨h1,h2⟩;{exact .inl (by unfold fg_;rw [if_pos h'])};subst h1;exact .inr ⟨by unfold fg_;rw [if_neg O_,if_neg O_],by unfold fg_;rw [if_pos h2]⟩);have l:=n_ (i_ w (.cells #[I_ a,I_ b,I_ c,.bool d,.bool e] 164)) (.cells #[I_ a',I_ b',I_ c',.bool d',.bool e'] 164);have m:=m_ (w.alloc (.cells #[I_ a,I_ b,I_ c,.bool d,.bool e] 164)) (.cells #[I_ a',I_ b',I_ c',.bool d',.bool e'] 164) (w+1) A_;have p:=H_ (b_ (b_ (bR_ (w) w) (.cells #[I_ a,I_ b,I_ c,.bool d,.bool e] 164)) (.cells #[I_ a',I_ b',I_ c',.bool d',.bool e'] 164));clear h;go_enter func209,ntmps209;go_upto_region 1 with fail;generalize (w.alloc _).alloc _=W at l m p;have x0:=a_ l 0;have s:=a_ l 1;have q:=a_ m 0;have t:=a_ m 1;simp only[zl] at x0 s q t;refine T_ 12 17 [SP.eq (P_ (w)),SP.eq (I_ a),SP.eq (P_ (w+1)),SP.eq (I_ a'),SP.eq (I_ (fg_ a a')),SP.eq (.pointer (some ⟨w,1,none⟩)),SP.eq (I_ b),SP.eq (.pointer (some ⟨w+1,1,none⟩)),SP.eq (I_ b'),SP.eq (I_ (fg_ b b')),SP.row2 (fg_ a a') (fg_ b b'),SP.eq (I_ (-1))] p_ p_ rfl ?_;simp only[td_];refine qC fun v0=>?_;simp only[ly];refine g_ (fun x f i K j=>?_) (fun v1=>?_);{obtain rfl:v0=_:=i 0 p_;have o:=(d_ ((show s_ W x from f).block _ (l_ l))).trans x0;go_simp;exact j _ _ f B_ rfl};simp only[ly];refine qC fun v2=>?_;simp only[ly];refine g_ (fun x f i K j=>?_) (fun v3=>?_);{obtain rfl:v2=_:=i 2 p_;have o:=(d_ ((show s_ W x from f).block _ (l_ m))).trans q;go_simp;exact j _ _ f B_ rfl};simp only[ly];refine g_ (fun x f i K j=>?_) (fun v4=>?_);{obtain rfl:v1=_:=i 1 p_;obtain rfl:v3=_:=i 3 p_;go_simp;go_at_call 223;refine (ix_ a a' x).mono ?_;rintro e w1 ⟨rfl,rfl⟩;exact j _ _ f B_ rfl};simp only[ly];refine qC fun v5=>?_;simp only[ly];refine g_ (fun x f i K j=>?_) (fun v6=>?_);{obtain rfl:v5=_:=i 5 p_;have o:=(d_ ((show s_ W x from f).block _ (l_ l))).trans s;go_simp;exact j _ _ f B_ rfl};simp only[ly];refine qC fun v7=>?_;simp only[ly];refine g_ (fun x f i K j=>?_) (fun v8=>?_);{obtain rfl:v7=_:=i 7 p_;have o:=(d_ ((show s_ W x from f).block _ (l_ m))).trans t;go_simp;exact j _ _ f B_ rfl};simp only[ly];refine g_ (fun x f i K j=>?_) (fun v9=>?_);{obtain rfl:v6=_:=i 6 p_;obtain rfl:v8=_:=i 8 p_;go_simp;go_at_call 223;refine (ix_ b b' x).mono ?_;rintro e w1 ⟨rfl,rfl⟩;exact j _ _ f B_ rfl};simp only[ly];refine g_ (fun x f i K j=>?_) (fun v10=>?_);{obtain rfl:v4=_:=i 4 p_;obtain rfl:v9=_:=i 9 p_;go_simp;exact j _ _ (b_ f _) (b_ B_ _) ⟨_,rfl,heap_alloc_new _ _⟩};simp only[ly];refine g_ (fun x f i K j=>?_) (fun v11=>?_);{obtain ⟨g,n,z⟩:=i 10 p_;obtain rfl:v10=_:=n;obtain ⟨g0,v⟩:=cs2 z;go_simp;go_at_call 222;refine (r2_ g x g0 v u).mono ?_;rintro e w1 ⟨rfl,k⟩;exact j _ _ (h_ f k) k rfl};simp only[ly];refine aa_ ?_;intro x f r;obtain rfl:v11=_:=r 11 O_;have y:=H_ (show s_ W x from f);clear r f;go_wp2;go_ret;exact ⟨rfl,h_ p y⟩
def lk_ (h:LA PtR w S v L) (ok:bY_ L):C_ 176 #[v] w (aO_ true w):=by obtain ⟨A,cap,rfl,hc,hm⟩:=h.form;have Z:=ok.len;have H:=H_ h;have OK:=H_ ok.each;have Q:=H_ ok.asc;unfold maxLen at hm;clear h ok;go_enter func176,ntmps176;go_wp2;go_loopw [7] (fun i wx=>∃k:Nat,i = I_ k/\k<=L.length/\s_ w wx) (fun i _=>L.length - (intOf i).toNat);{exact ⟨0,rfl,O_,bR_ _ _⟩};obtain ⟨k,rfl,hk,hb⟩:=hrel;have t:=H_ hb;clear hb;by_cases p:k<L.length;{obtain ⟨x,s⟩:∃x,L[k]?=some x:=⟨_,gE_ p⟩;obtain ⟨b,o,rfl,r,c0,c1,c2,I,E⟩:=PtA.cells (H.step t.out) s;have u:=fun w'=>lX_ x.proc x.page x.frame x.wr x.acc w' (OK x (mG_ s));have a2:(0:Int)<=(k:Int):=O_;have a1:(k:Int)<L.length:=O_;cases k with|zero=>rw [Nat.zero_mul,Nat.add_zero] at c0 c1 c2 I E;obtain ⟨d,g,fr,a,f⟩:=x;dsimp only at c0 c1 c2 I E u;clear s;go_upto_region 4 with fail;obtain ⟨V,q⟩:=nm_ (wr.alloc (.cells #[I_ d,I_ g,I_ fr,.bool a,.bool f] 164));have c:=H_ (b_ t.out (.cells #[I_ d,I_ g,I_ fr,.bool a,.bool f] 164));have j:=i_ wr (.cells #[I_ d,I_ g,I_ fr,.bool a,.bool f] 164);rw [<-q] at c j ⊢;clear q;obtain ⟨z0,z1,z2,z3,z4⟩:=cs5 j;have U:=l_ j;have xe:=V_ V;refine y_ p_ p_ ?_;(repeat (go_big_quiet_step ((with_reducible exact F_ (u _)))));refine wpQuiet_nil ?_;rintro w' ⟨z,rfl⟩;go_wp2;go_roundw;{exact ⟨1,rfl,O_,h_ c.out (q_ _ _)⟩};exact MS_|succ m=>obtain ⟨y,J⟩:∃y,L[m]?=some y:=⟨_,gE_ O_⟩;obtain ⟨b',o',e1,_,F,G,B,D,C⟩:=PtA.cells (H.step t.out) J;injection e1 with e1;injection e1 with e4 e5;subst e4 e5;have n:aJ_ y x=true:=(by have:=List.pairwise_iff_getElem.1 Q.out m (m+1) O_ p O_;rw [<-(List.getElem?_eq_some_iff.1 J).2,<-(List.getElem?_eq_some_iff.1 s).2];exact this);obtain ⟨d,g,fr,a,f⟩:=x;obtain ⟨N,R,P,Y,M⟩:=y;have X:=fun w'=>lU_ N R P Y M d g fr a f w' n;dsimp only at c0 c1 c2 I E F G B D C u;have w1:i64.wrap (m:Int)=m:=w64 O_;have g0:(0:Int)<(m:Int)+1:=O_;have b0:(0:Int)<=(m:Int)+1:=O_;have b1:(m:Int)+1<(L.length:Int):=O_;have b2:((m:Int)+1).toNat=m+1:=O_;have b3:m<L.length:=O_;have b4:(m:Int)<L.length:=O_;clear s J n;go_upto_region 4 with fail;obtain ⟨V,q⟩:=nm_ (wr.alloc (.cells #[I_ d,I_ g,I_ fr,.bool a,.bool f] 164));have c:=H_ (b_ t.out (.cells #[I_ d,I_ g,I_ fr,.bool a,.bool f] 164));have O:=H_ (b_ (bR_ (wr) wr) (.cells #[I_ d,I_ g,I_ fr,.bool a,.bool f] 164));have j:=i_ wr (.cells #[I_ d,I_ g,I_ fr,.bool a,.bool f] 164);rw [<-q] at c j O ⊢;clear q;obtain ⟨z0,z1,z2,z3,z4⟩:=cs5 j;have W:=kt5 (O.block _ r) F G B D C;clear F G B D C;obtain ⟨F,G,B,D,C⟩:=W;have U:=l_ j;have a0:b<V:=lL_ r O.size;have xe:=V_ V;clear c0 c1 c2 I E;refine y_ p_ p_ ?_;(repeat (first | (refine wpQuiet_step (fun K l=>?_);go_simp;(with_reducible refine l _ ?_);clear l K) | (refine wpQuiet_step (fun K l=>?_);go_simp;apply Exists.intro;refine ⟨fun _=>?_,l _ ?_⟩;(first | (with_reducible exact F_ (u _)) | (with_reducible exact F_ (X _)));clear l K)));refine wpQuiet_nil ?_;rintro w' ⟨z,rfl⟩;go_wp2;go_roundw;{exact ⟨m+2,by go_num,O_,h_ c.out (q_ _ _)⟩};exact MS_};obtain rfl:k=L.length:=O_;go_wp2;go_ret;exact ⟨rfl,t.out⟩
end
section
open Go.RowKit Go.Shelf
attribute [local go_sem] Oper.semAt_some
def oc_ (v:Value) (f:Int) (hv:v.oneCell'=true) (A:Option Addr) (n c:Nat) (e:v = S_ A n c):C_ 120 #[v,I_ f] w fun e w'=>e = .returned (.func (.func 175) #[] #[P_ (w),P_ (w+1)])/\w'=(w.alloc (.cells #[v] 28)).alloc (.cells #[I_ f] 3):=by subst e;go_enter func120,ntmps120;go_wp2;go_ret;exact ⟨rfl,rfl⟩
def upF (L:List Pt) (f:Int):(k:Nat)->k<=L.length->List (Fin L.length)
 | 0,_=>[]
 | k+1,h=>upF L f k O_ ++ (if (L[k]'h).frame=f then [⟨k,h⟩] else [])
theorem mW_ (L:List Pt) (f:Int):∀(k:Nat) (h:k<=L.length),(upF L f k h).length<=k
 | 0,_=>lR_ _
 | k+1,h=>by
  have:=mW_ L f k O_;unfold upF;rw [aL_]
  split <;> simp <;> omega
theorem ne_ (L:List Pt) (f:Int):∀(k:Nat) (h:k<=L.length) (i:Fin L.length),i ∈ upF L f k h↔i.1<k/\(L[i.1]'i.2).frame=f
 | 0,_,i=>by simp [upF]
 | k+1,h,i=>by
  unfold upF;rw [List.mem_append,ne_ L f k O_ i]
  constructor
  ·rintro (⟨h1,h2⟩ | h1)
   ·exact ⟨O_,h2⟩
   ·split at h1
    ·rename_i hf
     obtain rfl:i=⟨k,h⟩:=by simpa using h1
     exact ⟨by show k<k+1;omega,hf⟩
    ·simp at h1
  ·rintro ⟨h1,h2⟩
   by_cases a:i.1<k
   ·exact .inl ⟨a,h2⟩
   ·obtain rfl:i=⟨k,h⟩:=Fin.ext (by show i.1=k;omega);exact .inr (by rw [if_pos h2];simp)
def fG_ (L:List Pt) (pre:List (Fin L.length)):List Pt:=(List.finRange L.length).map fun i=>if i ∈ pre then {L[i.1]'i.2 with wr:=false} else L[i.1]'i.2
def ch_ (L:List Pt) (pre:List (Fin L.length)):(fG_ L pre).length=L.length:=by simp [fG_]
def fs_ (L:List Pt) (pre:List (Fin L.length)) (i:Fin L.length):(fG_ L pre)[i.1]?=some (if i ∈ pre then {L[i.1]'i.2 with wr:=false} else L[i.1]'i.2):=by rw [gE_ (by rw [ch_];exact i.2)];simp [fG_]
def n6_ (L:List Pt):fG_ L []=L:=by apply List.ext_getElem;{exact ch_ L []};intro i h1 h2;simp [fG_]
def lS_ (L:List Pt) (pre:List (Fin L.length)) (i:Fin L.length):fG_ L (pre ++ [i])=(fG_ L pre).set i.1 {L[i.1]'i.2 with wr:=false}:=by apply List.ext_getElem?;intro j;rw [List.getElem?_set];by_cases a:j<L.length;{have h1:=fs_ L (pre ++ [i]) ⟨j,a⟩;have h2:=fs_ L pre ⟨j,a⟩;dsimp only at h1 h2;rw [h1];by_cases e:i.1=j;{subst e;simp [ch_]};rw [if_neg e,h2];have b:(⟨j,a⟩:Fin L.length)≠i:=fun h=>e (by rw [<-h]);simp [b]};rw [eN_ (by rw [ch_];omega),if_neg O_,eN_ (by rw [ch_];omega)]
def nV_ (L:List Pt) (f:Int):fG_ L (upF L f L.length (lR_ _))=L.map (cm_ f):=by apply List.ext_getElem?;intro j;by_cases a:j<L.length;{have h1:=fs_ L (upF L f L.length (lR_ _)) ⟨j,a⟩;dsimp only at h1;rw [h1,gP_,gE_ a];simp only[ne_,Option.map_some];unfold cm_;by_cases hf:(L[j]'a).frame=f;{simp [hf,a]};simp [hf]};rw [eN_ (by rw [ch_];omega),eN_ (by simp;omega)]
def pz_ (x:Pt):Value:= .agg #[I_ x.proc,I_ x.page,I_ x.frame,.bool x.wr,.bool x.acc]
def tA_ (L:List Pt) (i:Fin L.length):Array Value:=#[I_ (i.1:Int),pz_ (L[i.1]'i.2)]
def iM_ (n:Nat) (hn:3<=n) (f:Int) (cap Bl Bf:Nat) (Sx:Nat->Prop) (w:World) (ok:bY_ L) (hl:Sx Bl) (hf:Sx Bf) (hlt:Bl<w.heap.size/\Bf<w.heap.size)
  (A:Option Addr) (h1:w.cell? ⟨Bl,0,none⟩=some (S_ A L.length cap)) (h2:w.cell? ⟨Bf,0,none⟩=some (I_ f)) (hLA:LA PtR w (fun z=>Sx z/\z<w.heap.size) (S_ A L.length cap) L) :
  SeqStopsK Fence.wide n prog 175 #[P_ Bl,P_ Bf] (tA_ L) (r_ Sx) (fun xs=>xs=upF L f L.length (lR_ _)) (fun _=>True) L.length w:=fun l J Jx W t P a1 X h0=>by
 have j:=(t.cell (p:=⟨Bl,0,none⟩) hlt.1).trans h1;have m:=(t.cell (p:=⟨Bf,0,none⟩) hlt.2).trans h2;have v:=hLA.step t;have I:=ok.len;have R:1<=n:=O_
 refine callsIn_of_wp func175 rfl trivial ?_ rfl;simp only[ntmps175,List.size_toArray,cL_,List.length_nil,Nat.reduceAdd,Nat.reduceSub,Array.replicate_succ,Array.replicate_zero,List.push_toArray,List.append_toArray,List.nil_append,List.cons_append]
 gi_wp2_with (refine ⟨trivial,?_⟩;gi_at_call 176;refine (callsIn_wide.2 (lk_ v ok)).mono ?_;rintro e w1 ⟨rfl,c⟩;have K:=(c.cell (p:=⟨Bl,0,none⟩) (lL_ hlt.1 t.size)).trans j)
 gi_loopw [11] (fun i wr=>∃k:Nat,∃h:k<=L.length,i = I_ k/\J (upF L f k h) wr/\W.heap.size<=wr.heap.size/\r_ (fun z=>Sx z/\z<w.heap.size) W wr)
  (fun i _=>L.length - (intOf i).toNat)
 case atStart=>exact ⟨0,Nat.zero_le _,rfl,P _ _ _ none h0 (ae_ c none) (fun r e=>by cases e),c.size,(r_.of_below c)⟩
 case round=>
  obtain ⟨k,H,rfl,C,E,s⟩:=hrel
  by_cases a:k<L.length
  ·obtain ⟨x,B⟩:∃x,L[k]'a=x:=⟨_,rfl⟩;have o:L[k]?=some x:=by rw [gE_ a,B]
   obtain ⟨b',o',rfl,a2,c0,c1,c2,c3,c4⟩:=PtA.cells (v.kept s) o;have F:wr.heap[Bf]?=W.heap[Bf]?:=s.2 Bf ⟨hf,hlt.2⟩ (lL_ hlt.2 t.size);have Q:wr.cell? ⟨Bf,0,none⟩=some (I_ f):=(d_ F).trans m;have O:Bf<wr.heap.size:=lL_ (lL_ hlt.2 t.size) E;have u:J (upF L f k H) (wr.alloc (.cells #[I_ x.proc,I_ x.page,I_ x.frame,.bool x.wr,.bool x.acc] 164)):=P _ _ _ none C (gA_ _ _ none) (fun r e=>by cases e);have g:r_ (fun z=>Sx z/\z<w.heap.size) W (wr.alloc (.cells #[I_ x.proc,I_ x.page,I_ x.frame,.bool x.wr,.bool x.acc] 164)):=s.trans (r_.of_alloc _ _);have U:(0:Int)<=(k:Int):=O_
   have a0:(k:Int)<L.length:=O_
   have d:upF L f (k+1) a=upF L f k H ++ (if x.frame=f then [⟨k,a⟩] else []):=by rw [<-B];rfl
   by_cases b:x.frame=f
   ·rw [if_pos b] at d;obtain ⟨fn,M,D,N,S,V⟩:=X _ ⟨k,a⟩ _ u (by have:=mW_ L f k H;omega);simp only[tA_,pz_,B] at S;have Y:(x.frame == f)=true:=by simp [b]
    clear B b o h1 h2 j m
    gi_wp2
    refine V.mono ?_;rintro e W3 (⟨rfl,G,q⟩ | ⟨rfl,y⟩)
    ·gi_wp2
     go_roundw
     case rel=>exact ⟨k+1,a,by go_num,by rw [d];exact G,by have:=q.1;simp at this;omega,g.trans ⟨q.1,fun z Z hl=>q.2 z Z.1 hl⟩⟩
     case measure=>exact MS_
    ·gi_wp2
     refine bodyPost_ret (results_none rfl _ _ _) rfl ?_;exact ⟨⟨_,rfl⟩,.inr ⟨_,trivial,y⟩⟩
   ·rw [if_neg b,List.append_nil] at d;have Y:(x.frame == f)=false:=by simp [b]
    clear B b o h1 h2 j m
    gi_wp2
    refine ⟨fun _ h=>(by cases h),?_⟩
    gi_wp2
    go_roundw
    case rel=>exact ⟨k+1,a,by go_num,by rw [d];exact u,by simp;omega,g⟩
    case measure=>exact MS_
  ·obtain rfl:k=L.length:=O_
   gi_wp2
   go_end0
   exact ⟨⟨_,rfl⟩,.inl ⟨_,rfl,C⟩⟩
def oF_ (hS:∀z,S z->z<B) (W:World) (l:Nat) (o o':Obj) (hl:B<=l) (_:W.heap[l]?=some o) (_:o.isCells=false) (_:o.isWalk=false):r_ S W (W.putObj l o'):=
 ⟨A_,fun z hz _=>World.putObj_heap_other (fun e=>by have:=hS z hz;omega)⟩
def LW.own {α:Type} {k:Nat} {f:α->List Value} {hf:∀a,(f a).length=k/\∀u ∈ f a,u.oneCell'=true} {A B:World} {g:Nat} {L:List α} (h:LW (RR.flat f hf) A S g L) (hk:∀o,A.heap[g]?=some o->o.isCells=true->B.heap[g]?=A.heap[g]?) (h0:0<L.length) (h1:0<k) (hs:A.heap.size<=B.heap.size):LW (RR.flat f hf) B S g L:=by obtain ⟨m,rows,c,i⟩:=h;have n:=i.len;obtain ⟨r,b⟩:∃r,rows[0]?=some r:=⟨_,gE_ O_⟩;have l:=(c.2.2.1 r (mG_ b)).1;have hc:=c.2.2.2 0 r 0 _ b (gE_ O_);obtain ⟨o,j,d⟩:=cells_of_cell hc;exact ⟨m,rows,c.block (hk o j d) hs,i⟩
def ml_ (f:Int) (h:LA PtR w S v L) (ok:bY_ L) (hS:∀b,w.heap.size<=b->S b):C_ 50 #[v,I_ f] w (pi_ (L.map (cm_ f)) S w):=by
 obtain ⟨A,cap,rfl,hc,hm⟩:=h.form;have a3:=i8_ S h (by have:=ok.len;omega);have H:=H_ h;have OK:=H_ ok;have ae:=ok.len;clear h ok;refine (callsIn_wide (n:=9)).1 ?_;refine callsIn_of_wp_marks func50 rfl trivial ?_ rfl;simp only[ntmps50,List.size_toArray,cL_,List.length_nil,Nat.reduceAdd,Nat.reduceSub,Array.replicate_succ,Array.replicate_zero,List.push_toArray,List.append_toArray,List.nil_append,List.cons_append];gi_wp2_with (first|(refine ⟨trivial,?_⟩;gi_at_call 113;refine (callsIn_wide.2 a3).mono ?_;rintro e w1 ⟨v1,rfl,N,Q⟩;obtain ⟨O,n1,c1,rfl⟩:=N.cap)|(refine ⟨trivial,?_⟩;gi_at_call 120;refine (callsIn_wide.2 (oc_ (S_ A L.length cap) f rfl A L.length cap rfl)).mono ?_;rintro e w2 ⟨rfl,rfl⟩));have G:=Q;obtain ⟨j,S2,a2,q,Y,ab⟩:∃(j:Nat) (S2:Nat->Prop),(w<=j/\j<=w1)/\(0<L.length->LW PtR w1 S2 j L)/\(0<L.length->O=some ⟨j,0,none⟩/\n1=L.length)/\(∀z,S2 z->S z):=(by by_cases h0:0<L.length;{obtain ⟨g,cp,hv,_,_,aa,E⟩:=N.lw h0;injection hv with e1 e2 e3;exact ⟨g,_,⟨aa,Nat.le_of_lt E.lt⟩,fun _=>E,fun _=>⟨e1,e2⟩,fun z M=>M.1.1⟩};exact ⟨w1,fun _=>False,⟨Q.size,lR_ _⟩,fun h=>absurd h h0,fun h=>absurd h h0,fun z h=>h.elim⟩);have m:=(N.la (S':=Any) (fun _ _ _=>trivial) (fun _ _=>trivial)).form;obtain ⟨ag,a4,m,V,F⟩:=m;have a6:n1=L.length:=(by injection m);have a8:c1=a4:=(by injection m);subst a6 a8;clear m;obtain ⟨d,a⟩:=nm_ (((w1.alloc (.cells #[S_ O L.length c1] 28)).alloc (.cells #[S_ A L.length cap] 28)).alloc (.cells #[I_ f] 3));have a1:s_ w1 d:=(by rw [a];exact ((((bR_ _ w1).alloc (lR_ _) _).alloc A_ _).alloc (by simp;omega) _));have ac:d.heap[w1.heap.size]?=some (.cells #[S_ O L.length c1] 28 (0,0)):=(by rw [a];exact n_ (n_ (i_ _ _) _) _);have a7:d.heap[w1.heap.size+1]?=some (.cells #[S_ A L.length cap] 28 (0,0)):=(by rw [a];exact n_ (m_ _ _ _ A_) _);have ad:d.heap[w1.heap.size+1+1]?=some (.cells #[I_ f] 3 (0,0)):=(by rw [a];exact m_ _ _ _ A_);have af:d.heap.size=w1.heap.size+1+1+1:=by rw [a];simp
 rw [<-a];clear a;have C:s_ w d:=G.trans (a1.mono G.size);have a9:LA PtR d (fun z=>(z<d.heap.size/\z≠j)/\z<d.heap.size) (S_ A L.length cap) L:=((H.weak (S':=fun z=>z<w.heap.size) (fun z M _=>M)).step C).weak (fun z M h=>⟨⟨M,O_⟩,M⟩);have a0:=a_ a7 0;have Z:=a_ ad 0;have X:=a_ ac 0;simp only[zl] at a0 Z X;have I:0<L.length->LW PtR d S2 j L:=fun h=>(q h).step a1;refine wpIn_rangeFunc_ownF rfl O_ (gf:=175) (lb:=#[P_ (w1+1),P_ (w1+1+1)]) rfl trivial (enters_of func175 p_ rfl)
  (iM_ 8 O_ f cap (w1+1) (w1+1+1) (fun z=>z<d.heap.size/\z≠j) d OK.out ⟨O_,O_⟩ ⟨O_,O_⟩ ⟨O_,O_⟩ A a0 Z a9) (fun h k=>r_.trans h k) (oF_ (fun z h=>h.1)) B_ (fun _=>rfl)
  (fun y W=>(W.cell? ⟨w1,0,none⟩=some (S_ O L.length c1)/\(0<L.length->LW PtR W S2 j (fG_ L y)))/\s_ w W)
  (fun _ _ _=>False)
  (OwnFrom.and (Own.from (fun s A B row hs hg P=>⟨_root_.Go.cell_kept hs.1 hg P,fun h0=>LW.own (f:=Pt.row) (hs.2 h0) (fun o N J=>grownBy_keeps_cells hg P N J) (by rw [ch_];exact h0) O_ hg.size⟩) _) (ownFrom_below (lR_ _) C.size))
  (fun _ _ _ _ _ hs _ _=>hs)
  ⟨⟨X,fun h0=>by rw [n6_];exact I h0⟩,C⟩
  (fun x=>{tmps:=#[S_ A L.length cap,I_ f,undef,undef,S_ none 0 0,P_ (w1),I_ x.1,S_ A L.length cap,S_ O L.length c1,S_ A L.length cap,I_ f,.func (.func 175) #[] #[P_ (w1+1),P_ (w1+1+1)],I_ x.1,pz_ (L[x.1]'x.2),undef,undef,undef,undef,undef],defers:=[]}) ?assign ?body ?done ?stop
 (case assign=>intro l x W K U;unfold tA_;gi_wp2;exact U);(case body=>rintro l y x W ⟨⟨hc,t⟩,hB⟩ _;have h0:0<L.length:=(by have:=x.2;omega);have E:=t h0;obtain ⟨rfl,_⟩:=Y h0;have x0:(0:Int)<=(x.1:Int):=O_;have x1:(x.1:Int)<L.length:=(by have:=x.2;omega);have hx:=fs_ L y x;obtain ⟨⟨u,hu⟩,M⟩:=E.slot (i:=x.1) (p:=3) (by rw [ch_];exact x.2) O_;have a5:w1≠j:=fun e=>(by have:=(q h0).lt;omega);gi_wp2;refine ⟨KeepsOthers.setCell _ _ _,r_.of_setCell _ _ _ (fun h=>h.2 rfl),⟨?_,?_⟩,hB.setCell (p:=⟨j,x.1*5+3,none⟩) a2.1 _⟩;{exact (d_ (hS_ W ⟨j,x.1*5+3,none⟩ (.bool false) (w1) a5)).trans hc};rw [lS_];exact E.setOne hx O_ rfl (fun r P=>by have P:r=Pt.row _:=P;subst P;split <;> rfl));(case done=>rintro D ys W hD rfl ⟨⟨hc,t⟩,hB⟩ U;gi_wp2;refine ⟨A_,.inl ⟨_,_,rfl,run_takeDeferred U,?_⟩⟩;refine ⟨_,results_tmp rfl _ _ _,S_ O L.length c1,rfl,?_,hB.trans (belowK_b (w:=w) (lR_ _) W D _ _ (by have:=C.size;omega) U rfl rfl)⟩;by_cases h0:0<L.length;{obtain ⟨rfl,_⟩:=Y h0;have E:=LW.own (f:=Pt.row) (B:=W.putObj D (.deferred none)) (t h0) (fun o N J=>grownBy_keeps_cells (grownBy_putObj' W D (.deferred none)) (fun r e=>by cases e;exact ⟨_,U,rfl⟩) N J) (by rw [ch_];exact h0) O_ A_;rw [nV_] at E;have:=LW.la (R:=PtR) (S':=S) (cap:=c1) E (hS _ a2.1) (fun z _ h=>ab z h) (by simp;exact V) F;rw [mL_] at this;exact this};have e:L=[]:=List.eq_nil_of_length_eq_zero O_;subst e;exact ⟨[],⟨O,c1,rfl,A_,F,Shp.nil,.inl rfl⟩,trivial⟩);rintro D c y W _ _ h _;exact h.elim
end
section
def cR_ {p:Addr}:CallsD prog 41 #[.pointer (some p)] .returning w fun e u' w'=>e = .returned (.tuple #[])/\u' = .returning/\w'=w:=by refine callsD_of_wpS func41 rfl fun b cs a=>?_;apply wpS_seq;apply wpS_region;simp [wpOpsS,go_sem,recoverD,a,ntmps41,Exit.thenS];refine wpS_cond (t:=false) (by simp [Act.eval,Array.replicate]) ?_;simp only[Bool.false_eq_true,if_false];refine wpS_of_wp (wp_skip ?_);cases b;simp_all [bodyPostS,results,results41]
def rb_ (f:Fl) (h:Nat) (A:Option Addr) (cap:Nat) (p:Nat) (hp:p<8) (w:World):C_ 44 #[f.v h A cap,I_ p] w (aO_ (d1_ f p) w):=by have a:=H_ (fun X=>b_ (bR_ (w) w) X);have b:=H_ (show d1_ f p=(bits .and .i64 f.blocks (wrap64 (2 ^ p)) == 0) from rfl);simp only[Fl.v,Fl.rowT,List.toArray];generalize f.blocks=bk at *;go_enter func44,ntmps44;go_upto_region 1 with fail;go_region;go_wp2;go_ret;exact ⟨by rw [b.out];rfl,(a.out _).drew⟩
def St.grown {W w':World} {l:List (Nat × Obj)} (h:St W l w) {r:Option Nat} (hg:w.grownBy w' r) (hr:∀k,r=some k->B<=k) (hl:∀g o,(g,o) ∈ l->g<B) (hB:W.heap.size<=B):St W l w':=
 ⟨fun g o hm=>(hg.block g (l_ (h.bk g o hm)) (fun e=>by have:=hr g e.symm;have:=hl g o hm;omega)).trans (h.bk g o hm),h.below.grown hg h.below.size (fun k e=>by have:=hr k e;omega)⟩
end
section
def hd_ {a:Addr} (w:World) (h:w.cell? a=some v):(loadVar 38 a).run prog w = .ok v w:=by simp [loadVar,isAgg,run_underlying underlying38,go_sem,h]
def sD_ {p r q:Tmp} (h:fn.results=#[.cell p 30,.cell r 37,.cell q 38]) (tmps:Array Value) {g g2:Nat}(g3:Nat) {cs cs2:Array Value} {u:Value}
  (hp:tmps.getD p undef = P_ g) (hr:tmps.getD r undef = P_ g2) (hq:tmps.getD q undef = P_ g3) (hg:w.heap[g]?=some (.cells cs 30 (0,0))) (hg2:w.heap[g2]?=some (.cells cs2 37 (0,0))) (hg3:w.cell? ⟨g3,0,none⟩=some u) (hs:cs.size=7) (hs2:cs2.size=10) :
  (results fn tmps).run prog w = .ok (.tuple #[.agg cs,.agg cs2,u]) w:=by
 have a:tmps[p]?.getD undef = P_ g:=by simpa using hp
 have c:tmps[r]?.getD undef = P_ g2:=by simpa using hr
 have b:tmps[q]?.getD undef = P_ g3:=by simpa using hq
 simp [results,h,a,c,b,asAddr,run_loadVar_row w g _ 30 cs (0,0) _ hg underlying30 rfl (by rw [hs];exact a8_),run_loadVar_row w g2 _ 37 cs2 (0,0) _ hg2 underlying37 rfl (by rw [hs2];exact af_),hd_ w hg3]
def S4 (S:Nat->Prop) (n:Nat):Nat->Prop:=fun z=>S z/\z≠n/\z≠n+1/\z≠n+1+1/\z≠n+1+1+1
def md_ {Pr:Ck->Value->Int->Prop} {p r q:Tmp} (h:fn.results=#[.cell p 30,.cell r 37,.cell q 38]) {tmps:Array Value} {V:World} {X gf nf cf gr nr cr:Nat} {cs rq:Array Value} (err:Int)
  (hp:tmps.getD p undef = P_ (w+1)) (hr:tmps.getD r undef = P_ (w+1+1)) (hq:tmps.getD q undef = P_ (w+1+1+1))
  (HR:∃cs0,V.heap[w.heap.size+1]?=some (.cells cs0 30 (0,0))) (HQ:∃cs0,V.heap[w.heap.size+1+1]?=some (.cells cs0 37 (0,0))) (HE:∃u,V.heap[w.heap.size+1+1+1]?=some (.cells #[u] 38 (0,0)))
  (hB:Bd V (S4 S (w)) B X gf nf cf gr nr cr c d e f g C) (hcs:cs=#[S_ (some ⟨gf,0,none⟩) nf cf,S_ (some ⟨gr,0,none⟩) nr cr,c,d,e,f,g]) (hrq:rq.size=10) (hb:s_ w V) (hP:Pr C (.agg rq) err) :
  Leaves prog fn tmps (dP_ Pr S w) [] .returning (((V.setRow (w+1) cs).setRow (w+1+1) rq).setCell ⟨w+1+1+1,0,none⟩ (I_ err)):=by subst hcs;obtain ⟨cs0,HR⟩:=HR;obtain ⟨cs1,HQ⟩:=HQ;obtain ⟨u,HE⟩:=HE;have i:=(setRow_other (V.setRow (w+1) #[S_ (some ⟨gf,0,none⟩) nf cf,S_ (some ⟨gr,0,none⟩) nr cr,c,d,e,f,g]) (w+1+1) (w+1+1+1) rq O_).trans ((setRow_other V (w+1) (w+1+1+1) #[S_ (some ⟨gf,0,none⟩) nf cf,S_ (some ⟨gr,0,none⟩) nr cr,c,d,e,f,g] O_).trans HE);have j:((V.setRow (w+1) #[S_ (some ⟨gf,0,none⟩) nf cf,S_ (some ⟨gr,0,none⟩) nr cr,c,d,e,f,g]).setRow (w+1+1) rq).heap[w.heap.size+1]?=some (.cells #[S_ (some ⟨gf,0,none⟩) nf cf,S_ (some ⟨gr,0,none⟩) nr cr,c,d,e,f,g] 30 (0,0)):=(setRow_other (V.setRow (w+1) #[S_ (some ⟨gf,0,none⟩) nf cf,S_ (some ⟨gr,0,none⟩) nr cr,c,d,e,f,g]) (w+1+1) (w+1) rq O_).trans (setRow_heap _ _ _ _ _ _ HR);have b:((V.setRow (w+1) #[S_ (some ⟨gf,0,none⟩) nf cf,S_ (some ⟨gr,0,none⟩) nr cr,c,d,e,f,g]).setRow (w+1+1) rq).heap[w.heap.size+1+1]?=some (.cells rq 37 (0,0)):=setRow_heap _ _ _ _ _ _ ((setRow_other V (w+1) (w+1+1) _ O_).trans HQ);have k:=((hB.at_.kept (r_.of_setRow V (w+1) #[S_ (some ⟨gf,0,none⟩) nf cf,S_ (some ⟨gr,0,none⟩) nr cr,c,d,e,f,g] (fun h=>h.2.2.1 rfl))).kept (r_.of_setRow _ (w+1+1) rq (fun h=>h.2.2.2.1 rfl))).kept (r_.of_setCell _ ⟨w+1+1+1,0,none⟩ (I_ err) (fun h=>h.2.2.2.2 rfl));refine ⟨_,sD_ h tmps (w+1+1+1) hp hr hq (aw_ j _ _ (by show w.heap.size+1≠w.heap.size+1+1+1;omega)) (aw_ b _ _ (by show w.heap.size+1+1≠w.heap.size+1+1+1;omega)) (a_ (Y_ i _) 0) rfl hrq,?_⟩;exact ⟨C,err,_,_,_,_,_,_,_,_,hP,rfl,k.weak (fun z _ a=>a.1),an_ (f_ (f_ hb O_ _) O_ _) _ _ (by show w.heap.size<=w.heap.size+1+1+1;omega)⟩
def qh_ (n:Int) {a b:Value} (h:w_ w S a b c d e f g C) (ok:ec_ C) (hus:∀w',s_ w w'->C_ 43 #[ckV a b c d e f g,I_ n] w' (aO_ false w')) (hS:∀z,w.heap.size<=z->S z) :
  C_ 10 #[ckV a b c d e f g,I_ n] w (dP_ (fun C' rq err=>C'=C/\rq=rq0/\err=2) S w):=by have R:=fun w' (hb:s_ w w') (hlt:w.heap.size+1+1+1<w'.heap.size)=>iO_ (S:=S4 S w.heap.size) ((h.weak (fun z hz hs=>⟨hs,O_,O_,O_,O_⟩)).step hb) ok (fun z hz=>⟨hS z O_,O_,O_,O_,O_⟩);obtain ⟨A1,Z,c1,K,W,c2,J,m3,Y,H,G,L,P,Q,U,F,m6,N,M,O,c7,rfl,rfl,rfl,rfl,rfl,rfl,rfl⟩:=w_.caps h;clear h ok;have o:=H_ (show St w [(w.heap.size,.cells (z_ A1 Z c1 K W c2 J m3 Y H G L P Q U F m6 N M O c7) 30 (0,0)),(w.heap.size+1,oCZ),(w.heap.size+1+1,oRZ),(w.heap.size+1+1+1,.cells #[I_ 0] 38 (0,0))] ((((w.alloc (.cells (z_ A1 Z c1 K W c2 J m3 Y H G L P Q U F m6 N M O c7) 30)).alloc (oCZ)).alloc (oRZ)).alloc (.cells #[I_ 0] 38)) from (((St.nil w).push _ _ rfl).push _ (w+1) A_).push _ (w+1+1) A_ |>.push _ (w+1+1+1) A_);go_enter_defers func10,ntmps10;go_upto_region 2 with fail;generalize (((w.alloc (.cells (z_ A1 Z c1 K W c2 J m3 Y H G L P Q U F m6 N M O c7) 30)).alloc (oCZ)).alloc (oRZ)).alloc (.cells #[I_ 0] 38)=V at o;have v:=o.bk _ _ M0_;obtain ⟨x0,x,y,B,A,E,D⟩:=J_ v;go_upto_region 3 with (go_at_call 42;refine CM (R _ o.below (l_ (o.bk _ _ M3_))) ?_;rintro e w1 ⟨X,gf,nf,cf,gr,nr,cr,c',d',e',f',g',rfl,m,p⟩);have i:=H_ (o.step p);have r:=H_ m;obtain ⟨E3,e3,k3,rfl⟩:=m.zones.cap;obtain ⟨E4,e4,k4,rfl⟩:=m.groups.cap;obtain ⟨E5,e5,k5,rfl⟩:=m.lists.cap;obtain ⟨E6,e6,k6,rfl⟩:=m.clocks.cap;obtain ⟨E7,e7,k7,rfl⟩:=m.ptes.cap;clear x0 x y B A E D v m p o;have q:=i.bk _ _ M0_;obtain ⟨x0,x,y,B,A,E,D⟩:=J_ q;go_upto_region 4 with (go_at_call 43;refine CM (hus _ i.below) ?_;rintro e w2 ⟨rfl,l⟩);have j:=H_ (i.step l);have u:=H_ (r.step l);clear x0 x y B A E D q l i r;have I:=u.box;obtain ⟨x0,x,y,B,A,E,D⟩:=J_ I;have s:=j.bk _ _ M1_;have t:=j.bk _ _ M2_;have k:=j.bk _ _ M3_;have e0:((w2.setRow (w+1) (z_ (o_ gf) nf cf (o_ gr) nr cr E3 e3 k3 E4 e4 k4 E5 e5 k5 E6 e6 k6 E7 e7 k7)).setRow (w+1+1) RZ_).cell? ⟨w+1+1+1,0,none⟩=some (I_ 0):=(d_ ((setRow_other _ (w+1+1) (w+1+1+1) _ O_).trans (setRow_other _ (w+1) (w+1+1+1) _ O_))).trans (a_ k 0);have ez:((w2.setRow (w+1) (z_ (o_ gf) nf cf (o_ gr) nr cr E3 e3 k3 E4 e4 k4 E5 e5 k5 E6 e6 k6 E7 e7 k7)).setRow (w+1+1) RZ_).frozen? ⟨w+1+1+1,0,none⟩=false:=(World.frozen?_of_block (a:=⟨w+1+1+1,0,none⟩) ((setRow_other _ (w+1+1) (w+1+1+1) _ O_).trans (setRow_other _ (w+1) (w+1+1+1) _ O_))).trans (t_ k 0);go_wp2_with (first|(refine G_ rfl (.tmp 4) (.tmp 22) rfl rfl rfl rfl s rfl ?_)|(refine wR_ rfl 37 (.tmp 5) (.tmp 23) rfl rfl (w+1+1) RZ_ rfl rfl 37 _ ((setRow_other _ (w+1) (w+1+1) _ O_).trans t) af_ rfl (aP_) ?_));refine leaves_cons (f:=41) (args:=#[P_ (w+1+1+1)]) A_ (by simp [go_sem]) ?_;refine (cR_).mono ?_;rintro e u' a0 ⟨rfl,rfl,rfl⟩;exact md_ rfl 2 rfl rfl rfl ⟨_,s⟩ ⟨_,t⟩ ⟨_,k⟩ u.out rfl rfl j.below ⟨rfl,rfl,rfl⟩
end
end Go.Proofs.YtehfhnbpnaiogaaGreatDoor
