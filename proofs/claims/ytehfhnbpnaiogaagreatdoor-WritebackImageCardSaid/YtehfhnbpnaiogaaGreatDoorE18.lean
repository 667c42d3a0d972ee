/-
  Lemmas and contracts for the laws of this seat, part 18; several texts joined by a program.
-/
import Derived.Test.YtehfhnbpnaiogaaGreatDoorE15
import Derived.Test.YtehfhnbpnaiogaaGreatDoorE00
import Derived.Lib.SliceRun
namespace Go.Proofs.YtehfhnbpnaiogaaGreatDoor
set_option linter.unusedVariables false
set_option linter.unusedSimpArgs false
set_option maxRecDepth 100000
set_option maxHeartbeats 16000000
open Go.RowKit Go.Proofs.Tryz IntKind
variable {A:Option Addr} {B K N X Z base cap cf cr gf gr j n nf nr:Nat} {C:Ck} {L:List Fl} {S:Nat->Prop} {a b c d e v v0 v1 v2 v3 v4 v5 v6:Value} {cs:Array Value} {m:Int} {w w':World} {x:Fr} {y:Fl} {α:Type}
section
def qM (w:World):Prop:=w.cell? ⟨1,0,none⟩=some (.int .u8 0)/\w.cell? ⟨1,1,none⟩=some (.int .u8 1)
theorem qM.step (h:qM w) (hb:q_ w w'):qM w':=by
 have h2:(1:Nat)<w.heap.size:=block_lt_of_cell h.1;exact ⟨(hb.cell (p:=⟨1,0,none⟩) h2).trans h.1,(hb.cell (p:=⟨1,1,none⟩) h2).trans h.2⟩
theorem kG_ (s a:Int) (hd:qM w) (h:(s=1/\a=0)\/(s=2/\a=1)\/(s=3/\a=0)):C_ 115 #[.int .u64 s] w (sB a w):=by
 obtain ⟨b,c⟩:=hd;have d:IntKind.u64.wrap (-1)=18446744073709551615:=by kernel_rfl
 have f:IntKind.u64.wrap (-2)=18446744073709551614:=by kernel_rfl
 have g:IntKind.u64.wrap (-3)=18446744073709551613:=by kernel_rfl
 have v1:bits BinOp.and IntKind.u64 1 18446744073709551615=1:=by kernel_rfl
 have v2:bits BinOp.and IntKind.u64 2 18446744073709551614=2:=by kernel_rfl
 have v3:bits BinOp.and IntKind.u64 3 18446744073709551613=1:=by kernel_rfl
 have w1:IntKind.u64.wrap 285870213051353865=285870213051353865:=by kernel_rfl
 have w2:IntKind.u64.wrap 571740426102707730=571740426102707730:=by kernel_rfl
 rcases h with ⟨rfl,rfl⟩ | ⟨rfl,rfl⟩ | ⟨rfl,rfl⟩
 all_goals
  go_enter func115,ntmps115;go_wp2;go_ret;exact ⟨rfl,aI _ _⟩
theorem jO_ (s a:Int) (w:World) (h:(s=1/\a=1)\/(s=2/\a=2)\/(s=3/\a=2)):C_ 116 #[.int .u64 s] w (sB a w):=by
 rcases h with ⟨rfl,rfl⟩ | ⟨rfl,rfl⟩ | ⟨rfl,rfl⟩
 all_goals
  go_enter func116,ntmps116;go_wp2;go_ret;exact ⟨by kernel_rfl,aI _ _⟩
def hY_ (a b:Int) (w:World) (e:Ending) (w':World):Prop:=e = .returned (.tuple #[I_ a,I_ b])/\q_ w w'
theorem sY (s a b:Int) (hd:qM w) (h:(s=1/\a=0/\b=1)\/(s=2/\a=1/\b=1)\/(s=3/\a=0/\b=2)):C_ 45 #[I_ s] w (hY_ a b w):=by
 have hl:=fun w'=>jO_ s (a+b) w' O_;have g:=fun w' (hb:q_ w w')=>kG_ s a (hd.step hb) O_;have hc:∀w',(convert 3 175 (I_ s)).run prog w' = .ok (.int .u64 s) w':=fun w'=>by
  rcases h with ⟨rfl,_⟩ | ⟨rfl,_⟩ | ⟨rfl,_⟩ <;> kernel_rfl
 have f:i64.wrap (a+b - a)=b:=by rw [fA O_];omega
 clear hd h;go_enter func45,ntmps45
 go_wp2_with (first
  | (go_at_call 115;(with_reducible refine CM (g _ B_) ?_);rintro e w1 ⟨rfl,c⟩)
  | (go_at_call 116;(with_reducible refine CM (hl _) ?_);rintro e w2 ⟨rfl,d⟩))
 go_ret2
 exact ⟨by first | rfl | rw [f],d_ c d⟩
end
section
def tL {α:Type} {k:Nat} (R:RR α k) (e:TypeId) (S:Nat->Prop) (L:List α) (w:World) (en:Ending) (w':World):Prop:=∃v,en = .returned v/\LO R e w' (w) S v L/\q_ w w'
theorem LA.none_nil {k:Nat} {R:RR α k} {L:List α} (h:LA R w S (S_ none n cap) L):L=[]:=by
 cases L with
 | nil=>rfl
 | cons a l=>obtain ⟨b,o,c,r,hv,_⟩:=h.at_ (i:=0) (a:=a) rfl;injection hv with e1;cases e1
theorem LA.fresh {k:Nat} {R:RR α k} {S:Nat->Prop} {L:List α} (h:LA R w S v L) (o:Obj):LA R (w.alloc o) (fun b=>(S b/\b<w.heap.size)/\(Value.slice (some ⟨w,0,none⟩) 0 0).ownBlock≠some b) v L:=LA.weakN (h.alloc o) h
theorem cN_ (S:Nat->Prop) (h:LA jG w S v L) (hn:L.length<=1000000):C_ 107 #[v] w (tL jG 64 (fun z=>S z/\z<w.heap.size) L w):=by
 have j:=fun (w:World) (a:Option Addr) (n c n' c':Nat)=>Lib.run_eql_slice_nil (P:=prog) w 23 64 a n c n' c' underlying23;obtain ⟨A,cap,rfl,g,i⟩:=h.form
 cases A with
 | none=>
  obtain rfl:=h.none_nil;go_enter func107,ntmps107;go_wp2;go_ret;exact ⟨_,rfl,LO.nil _ _ _ _ _,aI _ _⟩
 | some a=>
  have H:=H_ h;clear h;go_enter func107,ntmps107
  go_wp2_with (at_builtin;refine dY jG eo_ rfl (.tmp 5) (.tmp 6) rfl (S_ (some ⟨w,0,none⟩) 0 0) (w) (fun z=>S z/\z<w.heap.size) [] rfl (LO.fresh (rows:=[]) (g_ _ _) (aQ _) trivial z_) z_ z_ _ L rfl (H.fresh _) hn ?_;intro l w1 b f d)
  go_ret;exact ⟨_,rfl,b,((aI (w) w).alloc (aQ _) _).grown f z_ (fun k e=>by simp only[Value.ownBlock,Option.some.injEq] at e;omega)⟩
theorem cO_ (S:Nat->Prop) {L:List Fr} (h:LA rM w S v L) (hn:L.length<=1000000):C_ 108 #[v] w (tL rM 85 (fun z=>S z/\z<w.heap.size) L w):=by
 have j:=fun (w:World) (a:Option Addr) (n c n' c':Nat)=>Lib.run_eql_slice_nil (P:=prog) w 24 85 a n c n' c' underlying24;obtain ⟨A,cap,rfl,g,i⟩:=h.form
 cases A with
 | none=>
  obtain rfl:=h.none_nil;go_enter func108,ntmps108;go_wp2;go_ret;exact ⟨_,rfl,LO.nil _ _ _ _ _,aI _ _⟩
 | some a=>
  have H:=H_ h;clear h;go_enter func108,ntmps108
  go_wp2_with (at_builtin;refine dY rM eq_ rfl (.tmp 5) (.tmp 6) rfl (S_ (some ⟨w,0,none⟩) 0 0) (w) (fun z=>S z/\z<w.heap.size) [] rfl (LO.fresh (rows:=[]) (g_ _ _) (aQ _) trivial z_) z_ z_ _ L rfl (H.fresh _) hn ?_;intro l w1 b f d)
  go_ret;exact ⟨_,rfl,b,((aI (w) w).alloc (aQ _) _).grown f z_ (fun k e=>by simp only[Value.ownBlock,Option.some.injEq] at e;omega)⟩
theorem cR_ (S:Nat->Prop) {L:List Zn} (h:LA pE w S v L) (hn:L.length<=1000000):C_ 109 #[v] w (tL pE 155 (fun z=>S z/\z<w.heap.size) L w):=by
 have j:=fun (w:World) (a:Option Addr) (n c n' c':Nat)=>Lib.run_eql_slice_nil (P:=prog) w 25 155 a n c n' c' underlying25;obtain ⟨A,cap,rfl,g,i⟩:=h.form
 cases A with
 | none=>
  obtain rfl:=h.none_nil;go_enter func109,ntmps109;go_wp2;go_ret;exact ⟨_,rfl,LO.nil _ _ _ _ _,aI _ _⟩
 | some a=>
  have H:=H_ h;clear h;go_enter func109,ntmps109
  go_wp2_with (at_builtin;refine dY pE fI_ rfl (.tmp 5) (.tmp 6) rfl (S_ (some ⟨w,0,none⟩) 0 0) (w) (fun z=>S z/\z<w.heap.size) [] rfl (LO.fresh (rows:=[]) (g_ _ _) (aQ _) trivial z_) z_ z_ _ L rfl (H.fresh _) hn ?_;intro l w1 b f d)
  go_ret;exact ⟨_,rfl,b,((aI (w) w).alloc (aQ _) _).grown f z_ (fun k e=>by simp only[Value.ownBlock,Option.some.injEq] at e;omega)⟩
theorem cP_ (S:Nat->Prop) {L:List Gr} (h:LA qN w S v L) (hn:L.length<=1000000):C_ 110 #[v] w (tL qN 72 (fun z=>S z/\z<w.heap.size) L w):=by
 have j:=fun (w:World) (a:Option Addr) (n c n' c':Nat)=>Lib.run_eql_slice_nil (P:=prog) w 26 72 a n c n' c' underlying26;obtain ⟨A,cap,rfl,g,i⟩:=h.form
 cases A with
 | none=>
  obtain rfl:=h.none_nil;go_enter func110,ntmps110;go_wp2;go_ret;exact ⟨_,rfl,LO.nil _ _ _ _ _,aI _ _⟩
 | some a=>
  have H:=H_ h;clear h;go_enter func110,ntmps110
  go_wp2_with (at_builtin;refine dY qN b5_ rfl (.tmp 5) (.tmp 6) rfl (S_ (some ⟨w,0,none⟩) 0 0) (w) (fun z=>S z/\z<w.heap.size) [] rfl (LO.fresh (rows:=[]) (g_ _ _) (aQ _) trivial z_) z_ z_ _ L rfl (H.fresh _) hn ?_;intro l w1 b f d)
  go_ret;exact ⟨_,rfl,b,((aI (w) w).alloc (aQ _) _).grown f z_ (fun k e=>by simp only[Value.ownBlock,Option.some.injEq] at e;omega)⟩
theorem cQ_ (S:Nat->Prop) {L:List Lr} (h:LA sJ w S v L) (hn:L.length<=1000000):C_ 111 #[v] w (tL sJ 119 (fun z=>S z/\z<w.heap.size) L w):=by
 have j:=fun (w:World) (a:Option Addr) (n c n' c':Nat)=>Lib.run_eql_slice_nil (P:=prog) w 27 119 a n c n' c' underlying27;obtain ⟨A,cap,rfl,g,i⟩:=h.form
 cases A with
 | none=>
  obtain rfl:=h.none_nil;go_enter func111,ntmps111;go_wp2;go_ret;exact ⟨_,rfl,LO.nil _ _ _ _ _,aI _ _⟩
 | some a=>
  have H:=H_ h;clear h;go_enter func111,ntmps111
  go_wp2_with (at_builtin;refine dY sJ hI_ rfl (.tmp 5) (.tmp 6) rfl (S_ (some ⟨w,0,none⟩) 0 0) (w) (fun z=>S z/\z<w.heap.size) [] rfl (LO.fresh (rows:=[]) (g_ _ _) (aQ _) trivial z_) z_ z_ _ L rfl (H.fresh _) hn ?_;intro l w1 b f d)
  go_ret;exact ⟨_,rfl,b,((aI (w) w).alloc (aQ _) _).grown f z_ (fun k e=>by simp only[Value.ownBlock,Option.some.injEq] at e;omega)⟩
theorem iK (S:Nat->Prop) {L:List Int} (h:LA M_ w S v L) (hn:L.length<=1000000):C_ 112 #[v] w (tL M_ 3 (fun z=>S z/\z<w.heap.size) L w):=by
 have j:=fun (w:World) (a:Option Addr) (n c n' c':Nat)=>Lib.run_eql_slice_nil (P:=prog) w 22 3 a n c n' c' underlying22;obtain ⟨A,cap,rfl,g,i⟩:=h.form
 cases A with
 | none=>
  obtain rfl:=h.none_nil;go_enter func112,ntmps112;go_wp2;go_ret;exact ⟨_,rfl,LO.nil _ _ _ _ _,aI _ _⟩
 | some a=>
  have H:=H_ h;clear h;go_enter func112,ntmps112
  go_wp2_with (at_builtin;refine dY M_ cS rfl (.tmp 5) (.tmp 6) rfl (S_ (some ⟨w,0,none⟩) 0 0) (w) (fun z=>S z/\z<w.heap.size) [] rfl (LO.fresh (rows:=[]) (g_ _ _) (aQ _) trivial z_) z_ z_ _ L rfl (H.fresh _) hn ?_;intro l w1 b f d)
  go_ret;exact ⟨_,rfl,b,((aI (w) w).alloc (aQ _) _).grown f z_ (fun k e=>by simp only[Value.ownBlock,Option.some.injEq] at e;omega)⟩
theorem wC (S:Nat->Prop) {L:List Pt} (h:LA sA w S v L) (hn:L.length<=1000000):C_ 113 #[v] w (tL sA 164 (fun z=>S z/\z<w.heap.size) L w):=by
 have j:=fun (w:World) (a:Option Addr) (n c n' c':Nat)=>Lib.run_eql_slice_nil (P:=prog) w 28 164 a n c n' c' underlying28;obtain ⟨A,cap,rfl,g,i⟩:=h.form
 cases A with
 | none=>
  obtain rfl:=h.none_nil;go_enter func113,ntmps113;go_wp2;go_ret;exact ⟨_,rfl,LO.nil _ _ _ _ _,aI _ _⟩
 | some a=>
  have H:=H_ h;clear h;go_enter func113,ntmps113
  go_wp2_with (at_builtin;refine dY sA hK_ rfl (.tmp 5) (.tmp 6) rfl (S_ (some ⟨w,0,none⟩) 0 0) (w) (fun z=>S z/\z<w.heap.size) [] rfl (LO.fresh (rows:=[]) (g_ _ _) (aQ _) trivial z_) z_ z_ _ L rfl (H.fresh _) hn ?_;intro l w1 b f d)
  go_ret;exact ⟨_,rfl,b,((aI (w) w).alloc (aQ _) _).grown f z_ (fun k e=>by simp only[Value.ownBlock,Option.some.injEq] at e;omega)⟩
end
section
theorem rR (ks:List T) (A:Option Addr) (cap:Nat) (v m:Int) (S:Nat->Prop) (w:World) (hn:ks.length<=1000) (hcap:ks.length<=cap) (hk:NK w gL A ks) (hS:∀b,w.heap.size<=b->S b)
  (hkid:∀(i:Nat) (k:T),ks[i]?=some k->∀w',q_ w w'->∀A' cap' S',NK w' gL A' k.kids->k.kids.length<=cap'->(∀b,w'.heap.size<=b->S' b)->C_ 114 #[lG A' k.kids.length cap' k.val k.marks] w' (zH k S' w')) :
  C_ 114 #[lG A ks.length cap v m] w (zH (.mk ks v m) S w):=by
 have HK:=H_ (fun w' (r:q_ w w')=>hk.step r);have Q:=H_ hkid;have V:=H_ hS;clear hk hkid hS;obtain ⟨b,r⟩:=aZ w.heap.size;have n:=H_ r;obtain ⟨i0,af,ah,ai,aj⟩:=info_parts rD;go_enter func114,ntmps114
 go_upto_region 2 with fail
 go_cut [1,2,3] (fun s1 s2 s3 wx=>s1 = P_ b/\s2 = P_ (b+1)/\s3 = S_ A ks.length cap/\aW wx b #[S_ none 0 0,I_ v,I_ m] 56/\aW wx (b+1) #[S_ none 0 0,I_ 0,I_ 0] 56/\q_ w wx)
 case first=>
  go_wp2;go_meet
  case rel=>
   rw [n.out];exact ⟨rfl,rfl,rfl,m_ (g_ _ _) _,l_ _ _ _ z_,b_ (b_ B_ _) _⟩
 case rest=>
  clear r;obtain ⟨rfl,rfl,rfl,O,N,hW⟩:=hcut;obtain ⟨M,D,y⟩:=eT O N hW;clear O N hW;go_wp2
  go_loopw [11] (fun s11 wx=>∃(i:Nat) (u:Value) (xs:List Value),i<=ks.length/\s11 = I_ i/\aW wx b #[u,I_ v,I_ m] 56/\aW wx (b+1) #[S_ none 0 0,I_ 0,I_ 0] 56/\NO wx (b+2) (fun z=>S z/\(z≠b/\z≠b+1)) u (ks.take i) xs/\q_ w wx) (fun s11 _=>ks.length - (intOf s11).toNat)
  case atStart=>exact ⟨0,_,[],O_,rfl,M.out,D.out,NO.nil _ _ _,y.out⟩
  case round=>
   clear M D y;obtain ⟨i,u,xs,hi,rfl,O,N,H,hW⟩:=hrel;obtain ⟨M,D,HN,y⟩:=sP O N H hW;have lb:=p_ O;have ar:=p_ N;have t:=H.1;rw [List.length_take,Nat.min_eq_left hi] at t;have q:=H_ t;clear O N H hW t
   by_cases a6:i<ks.length
   ·have Z:=HK _ y;obtain ⟨b',o,k,A',cap',rfl,_,am,J,ae,a5,ag,a4⟩:=Z.at_ a6;obtain ⟨c0,c1,c2⟩:=ae;have a2:=fun w' (r:q_ wr w')=>Q i k J w' (d_ y r) A' cap' (fun z=>(S z/\(z≠b/\z≠b+1))/\u.ownBlock≠some z) (a4.step r) ag (fun z j=>⟨⟨V z (by have:=y.size;have:=r.size;omega),by have:=r.size;omega,by have:=r.size;omega⟩,fun e=>by have:=(q.lt z e).2;have:=r.size;omega⟩);have ac:=H_ J;have ao:(0:Int)<=(i:Int):=O_
    have ap:(i:Int)<(ks.length:Int):=O_
    have ad:=H_ a5;clear Z J a4 a5
    go_upto_region 6 with fail
    have f:=H_ ((aI (wr) wr).alloc (aQ _) (.cells #[S_ A' k.kids.length cap',I_ k.val,I_ k.marks] 56));have j:=g_ wr (.cells #[S_ A' k.kids.length cap',I_ k.val,I_ k.marks] 56);generalize wr.alloc _=W at f j ⊢;have E:=H_ (i_ M f.out);have U:=H_ (i_ D f.out);have R:=H_ (HN.step f.out);have X:=H_ (d_ y f.out);have aq:=f.out.size;have ak:b<W.heap.size:=O_
    have lz:=p_ j;have y0:=a_ j 0;have y1:=a_ j 1;have y2:=a_ j 2;have x0:=a_ E 0;simp only[zl] at x0 y0 y1 y2;clear M D HN y j;refine T_ 5 24 [SP.eq (P_ b),SP.eq u,SP.eq (lG A' k.kids.length cap' k.val k.marks),SP.nt (fun z=>(S z/\(z≠b/\z≠b+1))/\u.ownBlock≠some z) k,SP.nb (fun z=>(S z/\(z≠b/\z≠b+1))/\u.ownBlock≠some z) k] s_ s_ rfl ?_;simp only[vK];refine qC fun v0=>?_;simp only[ly];refine e_ (fun x d P K G=>?_) (fun v1=>?_)
    ·obtain rfl:v0=_:=P 0 s_;have q0:=(d.cell (p:=⟨b,_,none⟩) ak).trans x0;go_simp;exact G _ _ d B_ rfl
    simp only[ly];refine e_ (fun x d P K G=>?_) (fun v2=>?_)
    ·have q0:=(d.cell (p:=⟨wr,_,none⟩) lz).trans y0;have q1:=(d.cell (p:=⟨wr,_,none⟩) lz).trans y1;have q2:=(d.cell (p:=⟨wr,_,none⟩) lz).trans y2;go_simp;exact G _ _ d B_ rfl
    simp only[ly];refine e_ (fun x d P K G=>?_) (fun v3=>?_)
    ·obtain rfl:v2=_:=P 2 s_;go_simp
     go_at_call 114
     refine (a2 x (d_ f.out d)).mono ?_;rintro e w1 ⟨C,a,rfl,s,l,a1⟩;exact G _ _ (d_ d a1) a1 ⟨C,a,rfl,s,l⟩
    simp only[ly];refine e_ (fun x d P K G=>?_) (fun v4=>?_)
    ·obtain ⟨C,a,rfl,s,l⟩:=P 3 s_;go_simp;exact G _ _ (b_ d _) (B_.alloc (aQ _) _) ⟨_,C,a,rfl,heap_alloc_new _ _,s,l.alloc _⟩
    simp only[ly];refine aA ?_;intro x d hG;obtain rfl:u=v1:=(hG 1 O_).symm;obtain ⟨g,C,a,e4,h4,s,l⟩:=hG 4 O_;obtain rfl:v4=_:=e4;obtain ⟨ab,aa⟩:=kk_ E U d;have a9:=H_ (R.step d);have Y:=lU X d;have a7:=H_ l;have an:=d.size;have c:=H_ (show x.ownsRow (b+2) 56 3 u i xs from dA (dA q f.out) d);clear hG E U R X y0 y1 y2 x0 c0 c1 c2 a2 l d
    go_wp2_with (at_builtin;(refine wpList_append_lies _ rfl (.tmp 16) (.tmp 19) 54 rfl (b+2) 56 i0 _ 3 40 underlying54 af ah ai aj rfl O_ u i xs rfl c.out ⟨g,0,none⟩ 1 1 [S_ C k.kids.length a,I_ k.val,I_ k.marks] rfl rfl (World.news_of_block h4) (by simp [Value.oneCell']) O_ (by unfold maxLen;omega) O_ O_ _ rfl ?_);intro gg dU w4 L B a0 al;have F:=H_ ((B.block b O_ (fun e=>by have:=(c.lt b e.symm).1;omega)).trans ab.out);have f0:=t_ F 0;have x0:=a_ F 0;simp only[List.getElem?_toArray,List.getElem?_cons_zero] at x0)
    go_roundw
    case rel=>
     refine ⟨i+1,S_ (some ⟨gg,0,none⟩) (i+1) dU,xs ++ [S_ C k.kids.length a,I_ k.val,I_ k.marks],O_,by go_num,by simpa using R_ (i:=0) F.out _,?_,?_,?_⟩
     ·refine aM ((B.block (b+1) O_ (fun e=>by have:=(c.lt (b+1) e.symm).1;omega)).trans aa.out) _ _ z_
     ·rw [List.take_add_one,ac.out,Option.toList_some];refine NO.set (a9.snoc k C a ad.out s a7.out (by rw [List.length_take,Nat.min_eq_left hi];exact L) B a0) _ _ z_ z_
     ·exact (Y.grown B Y.size (fun z j=>by have:=(c.lt z j).1;have:=n.out;omega)).setCell (by simp only;have:=n.out;omega) _
    case measure=>exact bH
   ·obtain rfl:i=ks.length:=O_
    have H:=HN.out;rw [List.take_length] at H;obtain ⟨A4,dU,rfl,I,a3⟩:=H.nk (S':=fun z=>S z/\(z≠b/\z≠b+1)) (fun z j=>j) (fun z j=>⟨V.out z (by have:=n.out;omega),O_⟩);have a8:=H_ a3;clear H HN q a3;obtain ⟨x0,x1,x2⟩:=cL M.out
    go_wp2_with (refine cV rfl 56 (.tmp 2) (.tmp 23) rfl rfl (b+1) #[S_ A4 ks.length dU,I_ v,I_ m] rfl rfl 56 _ (D) V_ rfl (aN) ?_)
    show bodyPost prog f114 _ _ _ _
    refine bodyPost_ret (cZ rfl rfl (setRow_heap _ _ _ _ _ _ D.out)) rfl ⟨A4,dU,rfl,I,(a8.kept (by simp [World.setRow]) (fun z j a6=>setRow_other _ _ _ _ j.2.2)).weak fun z _ j=>j.1,j_ y.out (by rw [n.out];omega) _⟩
theorem ab_:∀(h:Nat) (t:T),dep h t->∀(A:Option Addr) (cap:Nat) (S:Nat->Prop) (w:World),t.kids.length<=cap->NK w gL A t.kids->(∀b,w.heap.size<=b->S b)->
  C_ 114 #[lG A t.kids.length cap t.val t.marks] w (zH t S w)
 | 0,.mk ks v m,hd,A,cap,S,w,hcap,hk,hS=>rR ks A cap v m S w (by have:ks=[]:=hd;rw [this];simp) hcap hk hS (fun i k hi=>by have:ks=[]:=hd;rw [this] at hi;simp at hi)
 | h+1,.mk ks v m,hd,A,cap,S,w,hcap,hk,hS=>rR ks A cap v m S w hd.1 hcap hk hS (fun i k hi w' hb A' cap' S' hk' hc' hS'=>ab_ h k (hd.2 i k hi) A' cap' S' w' hc' hk' hS')
end
section
def TB (S:Nat->Prop) (X gf gr:Nat):Nat->Prop:=fun z=>S z/\z≠X/\z≠gf/\z≠gr
structure Bd (w:World) (S:Nat->Prop) (B X gf nf cf gr nr cr:Nat) (c d e f g:Value) (C:Ck):Prop where
 box:w.heap[X]?=some (.cells #[S_ (some ⟨gf,0,none⟩) nf cf,S_ (some ⟨gr,0,none⟩) nr cr,c,d,e,f,g] 96 (0,0))
 files:LW jG w (TB S X gf gr) gf C.files
 frames:LW rM w (TB S X gf gr) gr C.frames
 zones:LA pE w (TB S X gf gr) c C.zones
 groups:LA qN w (TB S X gf gr) d C.groups
 lists:LA sJ w (TB S X gf gr) e C.lists
 clocks:LA M_ w (TB S X gf gr) f C.clocks
 ptes:LA sA w (TB S X gf gr) g C.ptes
 ef:C.files.length=nf
 er:C.frames.length=nr
 lf:nf<=cf
 lr:nr<=cr
 mf:cf<=maxLen
 mr:cr<=maxLen
 o0:B<=X
 o1:B<=gf
 o2:B<=gr
 n1:X≠gf
 n2:X≠gr
 n3:gf≠gr
 sf:S gf
 sr:S gr
def bQ_ (C:Ck) (S:Nat->Prop) (w:World) (en:Ending) (w':World):Prop:=∃X gf nf cf gr nr cr c d e f g,en = .returned (P_ X)/\Bd w' S (w) X gf nf cf gr nr cr c d e f g C/\q_ w w'
structure lS (C:Ck):Prop where
 ok:qK C
 zn:0<C.zones.length/\C.zones.length<=100
 pt:C.ptes.length<=100000
 free:∀z ∈ C.zones,z.free.length<=100000
 lru:∀l ∈ C.lists,l.act.length<=100000/\l.ina.length<=100000/\l.ref.length<=100000
theorem LO.ty {k:Nat} {R:RR α k} {e:TypeId} {L:List α} (h:LO R e w base S v L) {g:Nat} (hg:v.ownBlock=some g):∃cur,w.heap[g]?=some (.cells cur e (0,0)):=by
 obtain ⟨rows,⟨_,h2⟩,_⟩:=h
 rcases h2 with ⟨rfl,_⟩ | ⟨b,cap,cur,rfl,_,hg',_⟩
 ·cases hg
 ·simp only[Value.ownBlock,Option.some.injEq] at hg;subst hg;exact ⟨cur,hg'⟩
theorem LO.laV' {k:Nat} {R:RR α k} {e:TypeId} {S S':Nat->Prop} {L:List α} (h:LO R e w base S v L) (hS:∀b,b<w.heap.size->S b->S' b) (hb:∀b,v.ownBlock=some b->S' b):LA R w S' v L:=by
 obtain ⟨rows,w1,w2⟩:=h;rw [<-w2.len] at w1;exact ⟨rows,RW.of_own w1 w2.shp hb,w2.imp fun a r h=>R.wk _ _ _ _ _ (fun b hb h=>hS b hb h.1) h⟩
theorem jA {g h:Nat} {a b:Array Value} {s t:TypeId} {fr:Nat × Nat} {fr':Nat × Nat} (h1:w.heap[g]?=some (.cells a s fr)) (h2:w.heap[h]?=some (.cells b t fr')) (hst:s≠t):g≠h:=fun e=>by
 subst e;rw [h1] at h2;injection h2 with h2
 injection h2 with _ h2 _
 exact hst h2
def SP.bx (N:Nat) (o:Obj):SP:=⟨fun v w=>∃g,v = P_ g/\N<=g/\w.heap[g]?=some o,fun v w w' hb ⟨g,h1,h2,h3⟩=>⟨g,h1,h2,i_ h3 hb⟩⟩
structure zI (N:Nat) (S:Nat->Prop) (C:Ck) (v0 v1 v2 v3 v4 v5 v6:Value) (w:World):Prop where
 f:LO jG 64 w N S v0 C.files
 r:LO rM 85 w N S v1 C.frames
 z:LO pE 155 w N S v2 C.zones
 g:LO qN 72 w N S v3 C.groups
 l:LO sJ 119 w N S v4 C.lists
 k:LO M_ 3 w N S v5 C.clocks
 p:LO sA 164 w N S v6 C.ptes
theorem zI.step (h:zI N S C v0 v1 v2 v3 v4 v5 v6 w) (hb:q_ w w'):zI N S C v0 v1 v2 v3 v4 v5 v6 w':=
 ⟨h.f.step hb,h.r.step hb,h.z.step hb,h.g.step hb,h.l.step hb,h.k.step hb,h.p.step hb⟩
def SP.r7 (N:Nat) (S:Nat->Prop) (C:Ck):SP:=⟨fun v w=>∃v0 v1 v2 v3 v4 v5 v6,v = .agg #[v0,v1,v2,v3,v4,v5,v6]/\zI N S C v0 v1 v2 v3 v4 v5 v6 w,fun v w w' hb ⟨v0,v1,v2,v3,v4,v5,v6,h1,h2⟩=>⟨v0,v1,v2,v3,v4,v5,v6,h1,h2.step hb⟩⟩
structure yV (S:Nat->Prop) (gf gr gz gl:Nat) (vg vk vp:Value) (C:Ck) (w:World):Prop where
 f:LW jG w S gf C.files
 r:LW rM w S gr C.frames
 z:LW pE w S gz C.zones
 l:LW sJ w S gl C.lists
 g:LA qN w S vg C.groups
 k:LA M_ w S vk C.clocks
 p:LA sA w S vp C.ptes
section
variable {S:Nat->Prop} {gf gr gz gl:Nat} {vg vk vp:Value} {C:Ck} {w w':World}
theorem yV.step (h:yV S gf gr gz gl vg vk vp C w) (hb:q_ w w'):yV S gf gr gz gl vg vk vp C w':=
 ⟨h.f.step hb,h.r.step hb,h.z.step hb,h.l.step hb,h.g.step hb,h.k.step hb,h.p.step hb⟩
theorem yV.setF (h:yV S gf gr gz gl vg vk vp C w) (hk:r_ S w w') (hn:∀z,z≠gf->w'.heap[z]?=w.heap[z]?) (n:gf≠gr/\gf≠gz/\gf≠gl) (hf:LW jG w' S gf C.files):yV S gf gr gz gl vg vk vp C w':=
 ⟨hf,h.r.kept hk (hn _ n.1.symm),h.z.kept hk (hn _ n.2.1.symm),h.l.kept hk (hn _ n.2.2.symm),h.g.kept hk,h.k.kept hk,h.p.kept hk⟩
theorem yV.setZ (h:yV S gf gr gz gl vg vk vp C w) (hk:r_ S w w') (hn:∀z,z≠gz->w'.heap[z]?=w.heap[z]?) (n:gz≠gf/\gz≠gr/\gz≠gl) (hf:LW pE w' S gz C.zones):yV S gf gr gz gl vg vk vp C w':=
 ⟨h.f.kept hk (hn _ n.1.symm),h.r.kept hk (hn _ n.2.1.symm),hf,h.l.kept hk (hn _ n.2.2.symm),h.g.kept hk,h.k.kept hk,h.p.kept hk⟩
theorem yV.setL (h:yV S gf gr gz gl vg vk vp C w) (hk:r_ S w w') (hn:∀z,z≠gl->w'.heap[z]?=w.heap[z]?) (n:gl≠gf/\gl≠gr/\gl≠gz) (hf:LW sJ w' S gl C.lists):yV S gf gr gz gl vg vk vp C w':=
 ⟨h.f.kept hk (hn _ n.1.symm),h.r.kept hk (hn _ n.2.1.symm),h.z.kept hk (hn _ n.2.2.symm),hf,h.g.kept hk,h.k.kept hk,h.p.kept hk⟩
end
theorem vA {L:List α} {i:Nat} {a:α} (h:L[i]?=some a):L.set i a=L:=by
 apply List.ext_getElem?;intro j;rw [List.getElem?_set]
 split
 ·rename_i e
  subst e;rw [if_pos (bK h),h]
 ·rfl
theorem LW.root {g:Nat} (h:LW jG w S g L) (hj:L[j]?=some y) {t:Nat} (ht:X_ t y.c) (hc:(f_ t y.c).kids.length<=cap) (hk:NK w S A (f_ t y.c).kids) :
  LW jG (w.setCells g (j*15+3) [S_ A (f_ t y.c).kids.length cap,I_ (f_ t y.c).val,I_ (f_ t y.c).marks]) S g L:=by
 have:=LW.setPart (a':=y) (p:=3) h hj (vs:=[S_ A (f_ t y.c).kids.length cap,I_ (f_ t y.c).val,I_ (f_ t y.c).marks]) (by show 3+3<=15;omega) (fun u b=>by simp at b;rcases b with rfl | rfl | rfl <;> rfl) (fun r f=>by
  obtain ⟨d,B,k,i,a,l,m,rfl⟩:=f;obtain rfl:d=t:=Nat.le_antisymm (a.le ht) (ht.le a);exact ⟨d,A,cap,i,a,hc,hk,rfl⟩)
 rw [vA hj] at this;exact this
theorem LW.zfree {g:Nat} {L:List Zn} (h:LW pE w S g L) {y:Zn} (hj:L[j]?=some y) (hv:LA M_ w S v y.free) :
  LW pE (w.setCell ⟨g,j*6+5,none⟩ v) S g L:=by
 have:=LW.setOne (a':=y) (p:=5) h hj O_ (v:=v) hv.oneCell (fun r hr=>by
  obtain ⟨v',rfl,h'⟩:=hr;exact ⟨v,rfl,hv⟩)
 rw [vA hj] at this;exact this
theorem LW.lru {g:Nat} {L:List Lr} (h:LW sJ w S g L) {y:Lr} (hj:L[j]?=some y) (hv:sI w S v1 v2 v3 y) :
  LW sJ (w.setCells g (j*3) [v1,v2,v3]) S g L:=by
 have:=LW.set (a:=y) h (i:=j) (vs:=[v1,v2,v3]) (bK hj) ⟨v1,v2,v3,rfl,hv⟩;rw [vA hj] at this;exact this
theorem LW.fl_root {g:Nat} (h:LW jG w S g L) (hj:L[j]?=some y):∃t A cap,X_ t y.c/\(f_ t y.c).kids.length<=cap/\NK w S A (f_ t y.c).kids/\w.cell? ⟨g,j*15+3,none⟩=some (S_ A (f_ t y.c).kids.length cap)/\w.cell? ⟨g,j*15+4,none⟩=some (I_ (f_ t y.c).val)/\w.cell? ⟨g,j*15+5,none⟩=some (I_ (f_ t y.c).marks):=by
 obtain ⟨r,⟨t,A,cap,k1,k2,k3,k4,rfl⟩,hc⟩:=h.at_ hj;exact ⟨t,A,cap,k2,k3,k4,hc 3 _ rfl,hc 4 _ rfl,hc 5 _ rfl⟩
theorem LW.zn_free {g:Nat} {L:List Zn} (h:LW pE w S g L) {y:Zn} (hj:L[j]?=some y):∃v,LA M_ w S v y.free/\w.cell? ⟨g,j*6+5,none⟩=some v:=by
 obtain ⟨r,⟨v,rfl,hv⟩,hc⟩:=h.at_ hj;exact ⟨v,hv,hc 5 _ rfl⟩
theorem LrL.cells {L:List Lr} (h:LA sJ w S (S_ A n cap) L) {i:Nat} {x:Lr} (hi:L[i]?=some x):∃b o v1 v2 v3,A=some ⟨b,o,none⟩/\b<w.heap.size/\sI w S v1 v2 v3 x/\w.cell? ⟨b,o+i*3,none⟩=some v1/\w.cell? ⟨b,o+i*3+1,none⟩=some v2/\w.cell? ⟨b,o+i*3+2,none⟩=some v3:=by
 obtain ⟨b,o,cap',r,hv,c1,c2,hb,hS,hp,hc⟩:=h.at_ hi;injection hv with e1 _ _
 obtain ⟨v1,v2,v3,rfl,ha⟩:=hp;exact ⟨b,o,v1,v2,v3,e1,hb,ha,hc 0 _ rfl,hc 1 _ rfl,hc 2 _ rfl⟩
structure OfN (n Z gf gr gz gl:Nat):Prop where
 z:n<Z
 f:n<gf
 r:n<gr
 zn:n<gz
 l:n<gl
 a1:Z≠gf/\Z≠gr/\Z≠gz/\Z≠gl
 a2:gf≠gr/\gf≠gz/\gf≠gl
 a3:gr≠gz/\gr≠gl
 a4:gz≠gl
def xJ (S:Nat->Prop) (n Z gf gr gz gl:Nat):Nat->Prop:=fun z=>S z/\z≠n/\z≠Z/\z≠gf/\z≠gr/\z≠gz/\z≠gl
theorem eU_ (hl:lS C) (hn:n<N) (h:zI N (fun z=>S z/\z≠n/\z<N) C v0 v1 v2 v3 v4 v5 v6 w) (hZ:w.heap[Z]?=some (cG)) (hZN:N<=Z) (hS:∀z,N<=z->S z) :
  ∃gf cf gr cr gz cz gl cl,v0 = S_ (some ⟨gf,0,none⟩) C.files.length cf/\v1 = S_ (some ⟨gr,0,none⟩) C.frames.length cr/\v2 = S_ (some ⟨gz,0,none⟩) C.zones.length cz/\v4 = S_ (some ⟨gl,0,none⟩) C.lists.length cl/\
   OfN n Z gf gr gz gl/\yV (xJ S n Z gf gr gz gl) gf gr gz gl v3 v5 v6 C w/\C.files.length<=cf/\cf<=maxLen/\C.frames.length<=cr/\cr<=maxLen/\C.zones.length<=cz/\cz<=maxLen/\C.lists.length<=cl/\cl<=maxLen:=by
 obtain ⟨gf,cf,rfl,K,M,f3,hf⟩:=h.f.lw hl.ok.files.1;obtain ⟨gr,cr,rfl,U,V,r3,O⟩:=h.r.lw hl.ok.frames.1;obtain ⟨gz,cz,rfl,Y,z2,z3,c⟩:=h.z.lw hl.zn.1;obtain ⟨gl,cl,rfl,P,Q,l3,q⟩:=h.l.lw hl.ok.lists.1;obtain ⟨bf,j⟩:=h.f.ty rfl;obtain ⟨br,tr⟩:=h.r.ty rfl;obtain ⟨bz,o⟩:=h.z.ty rfl;obtain ⟨bl,m⟩:=h.l.ty rfl;have y:=jA hZ j bX;have A:=jA hZ tr bX;have B:=jA hZ o bX;have D:=jA hZ m bX;have E:=jA j tr bX;have F:=jA j o bX;have G:=jA j m bX;have H:=jA tr o bX;have I:=jA tr m bX;have J:=jA o m bX;have up:∀z,(S z/\z≠n/\z<N)->xJ S n Z gf gr gz gl z:=fun z c=>by
  obtain ⟨W,X,u3⟩:=c;exact ⟨W,X,O_,O_,O_,O_,O_⟩
 have t:∀{α:Type} {k:Nat} {R:RR α k} {e:TypeId} {v:Value} {L:List α},LO R e w N (fun z=>S z/\z≠n/\z<N) v L->e≠30->e≠64->e≠85->e≠155->e≠119->LA R w (xJ S n Z gf gr gz gl) v L:=fun {α k R e v L} h q1 q2 q3 q4 q5=>by
  have s:=fun {g:Nat} (hg:v.ownBlock=some g)=>h.ty hg;have d:=fun {g:Nat} (hg:v.ownBlock=some g)=>h.own hg;obtain ⟨rows,o1,o2⟩:=h;rw [<-o2.len] at o1;refine ⟨rows,RW.of_own o1 o2.shp (fun b u=>?_),o2.imp fun a r h=>R.wk _ _ _ _ _ (fun b _ h=>up b h.1) h⟩;obtain ⟨x,i⟩:=s u;have ob:=d u;exact ⟨hS b ob.1,O_,jA i hZ q1,jA i j q2,jA i tr q3,jA i o q4,jA i m q5⟩
 exact ⟨gf,cf,gr,cr,gz,cz,gl,cl,rfl,rfl,rfl,rfl,⟨O_,O_,O_,O_,O_,⟨y,A,B,D⟩,⟨E,F,G⟩,⟨H,I⟩,J⟩,
  ⟨hf.weak (fun h=>h.2.2.2.1 rfl) (fun z _ c=>up z c.1),O.weak (fun h=>h.2.2.2.2.1 rfl) (fun z _ c=>up z c.1),c.weak (fun h=>h.2.2.2.2.2.1 rfl) (fun z _ c=>up z c.1),q.weak (fun h=>h.2.2.2.2.2.2 rfl) (fun z _ c=>up z c.1),t h.g bX bX bX bX bX,t h.k bX bX bX bX bX,t h.p bX bX bX bX bX⟩,K,M,U,V,Y,z2,P,Q⟩
theorem iv_:(prog.info? 119).map (·.size)=some 3:=by kernel_rfl
def SP.l3 (N:Nat) (S:Nat->Prop) (a:Lr):SP:=⟨fun v w=>∃v1 v2 v3,v = .agg #[v1,v2,v3]/\LO M_ 3 w N S v1 a.act/\LO M_ 3 w N S v2 a.ina/\LO M_ 3 w N S v3 a.ref,fun v w w' hb ⟨v1,v2,v3,h1,h2,h3,h4⟩=>⟨v1,v2,v3,h1,h2.step hb,h3.step hb,h4.step hb⟩⟩
theorem iD_ {gz gl cz cl:Nat} {vg vk vp:Value} (hN:OfN n Z gf gr gz gl) (h:yV (xJ S n Z gf gr gz gl) gf gr gz gl vg vk vp C w) (hB:B<=n) (hS:∀z,B<=z->S z)
  (hl:C.files.length<=cf/\cf<=maxLen/\C.frames.length<=cr/\cr<=maxLen/\C.zones.length<=cz/\cz<=maxLen/\C.lists.length<=cl/\cl<=maxLen) :
  Bd (w.alloc (.cells #[S_ (some ⟨gf,0,none⟩) C.files.length cf,S_ (some ⟨gr,0,none⟩) C.frames.length cr,S_ (some ⟨gz,0,none⟩) C.zones.length cz,vg,S_ (some ⟨gl,0,none⟩) C.lists.length cl,vk,vp] 96)) S B (w) gf C.files.length cf gr C.frames.length cr (S_ (some ⟨gz,0,none⟩) C.zones.length cz) vg (S_ (some ⟨gl,0,none⟩) C.lists.length cl) vk vp C:=by
 obtain ⟨b,c,d,i,j,m,o,q⟩:=hl;have h1:=h.f.lt;have h2:=h.r.lt;have h3:=h.z.lt;have y:=h.l.lt;have D:=hN.f;have E:=hN.r;have F:=hN.zn;have G:=hN.l;obtain ⟨a,s,t⟩:=hN.a2;obtain ⟨u,v⟩:=hN.a3;have x:=hN.a4;have up:∀z,z<w.heap.size->xJ S n Z gf gr gz gl z->TB S (w) gf gr z:=fun z A h=>⟨h.1,O_,h.2.2.2.1,h.2.2.2.2.1⟩;exact ⟨g_ _ _,(h.f.weak (fun h=>h.2.2.1 rfl) up).alloc _,(h.r.weak (fun h=>h.2.2.2 rfl) up).alloc _,(h.z.la (S':=TB S (w) gf gr) ⟨hS _ O_,O_,O_,O_⟩ up j m).alloc _,(h.g.weak up).alloc _,(h.l.la (S':=TB S (w) gf gr) ⟨hS _ O_,O_,O_,O_⟩ up o q).alloc _,(h.k.weak up).alloc _,(h.p.weak up).alloc _,
  rfl,rfl,b,d,c,i,O_,O_,O_,O_,O_,a,hS _ O_,hS _ O_⟩
theorem vT (C:Ck) (a b c d e f g:Value) (S:Nat->Prop) (w:World) (h:x_ w S a b c d e f g C) (hl:lS C) (hS:∀z,w.heap.size<=z->S z):C_ 42 #[cI a b c d e f g] w (bQ_ C S w):=by
 obtain ⟨A1,m1,c1,rfl⟩:=h.files.cap;obtain ⟨A2,m2,c2,rfl⟩:=h.frames.cap;obtain ⟨A3,m3,c3,rfl⟩:=h.zones.cap;obtain ⟨A4,m4,c4,rfl⟩:=h.groups.cap;obtain ⟨A5,c5,rfl,_,_⟩:=h.lists.form;obtain ⟨A6,m6,c6,rfl⟩:=h.clocks.cap;obtain ⟨A7,m7,c7,rfl⟩:=h.ptes.cap;have aw:=H_ (show LA sJ w (fun z=>S z/\z<w.heap.size) (S_ A5 C.lists.length c5) C.lists from h.lists.old);have G:=H_ (g_ w (.cells (E_ A1 m1 c1 A2 m2 c2 A3 m3 c3 A4 m4 c4 A5 C.lists.length c5 A6 m6 c6 A7 m7 c7) 30));have M:=H_ (b_ (aI (w) w) (.cells (E_ A1 m1 c1 A2 m2 c2 A3 m3 c3 A4 m4 c4 A5 C.lists.length c5 A6 m6 c6 A7 m7 c7) 30));have HV:=H_ (((h.weak (S':=fun z=>S z/\z≠w.heap.size) (fun z P hs=>⟨hs,O_⟩)).step M.out).weak (S':=fun z=>S z/\z≠w.heap.size/\z<(w.alloc (.cells (E_ A1 m1 c1 A2 m2 c2 A3 m3 c3 A4 m4 c4 A5 C.lists.length c5 A6 m6 c6 A7 m7 c7) 30)).heap.size) (fun z P hs=>⟨hs.1,hs.2,P⟩));have F:w.heap.size<(w.alloc (.cells (E_ A1 m1 c1 A2 m2 c2 A3 m3 c3 A4 m4 c4 A5 C.lists.length c5 A6 m6 c6 A7 m7 c7) 30)).heap.size:=z_
 have HL:=H_ hl;clear h hl;go_enter func42,ntmps42
 go_upto_region 1 with fail
 generalize w.alloc (.cells (E_ A1 m1 c1 A2 m2 c2 A3 m3 c3 A4 m4 c4 A5 C.lists.length c5 A6 m6 c6 A7 m7 c7) 30)=V at G M HV F;obtain ⟨x0,x1,x2,x3,x4,x5,x6⟩:=aF G.out
 go_cut [3] (fun s3 wx=>∃Z gf cf gr cr v cz D cl B4 n4 k4 B6 n6 k6 B7 n7 k7,s3 = P_ Z/\OfN (w) Z gf gr v D/\(yV (xJ S (w) Z gf gr v D) gf gr v D (S_ B4 n4 k4) (S_ B6 n6 k6) (S_ B7 n7 k7) C wx/\aW wx Z (E_ (o_ gf) C.files.length cf (o_ gr) C.frames.length cr (o_ v) C.zones.length cz B4 n4 k4 (o_ D) C.lists.length cl B6 n6 k6 B7 n7 k7) 30/\aW wx (w) (E_ A1 m1 c1 A2 m2 c2 A3 m3 c3 A4 m4 c4 A5 C.lists.length c5 A6 m6 c6 A7 m7 c7) 30/\q_ w wx)/\(∀z,wx.heap.size<=z->xJ S (w) Z gf gr v D z)/\(C.files.length<=cf/\cf<=maxLen/\C.frames.length<=cr/\cr<=maxLen/\C.zones.length<=cz/\cz<=maxLen/\C.lists.length<=cl/\cl<=maxLen))
 case first=>
  refine T_ 23 96 [SP.eq (P_ (w)),SP.eq (S_ A1 m1 c1),SP.lo jG 64 (V) (fun z=>S z/\z≠w.heap.size/\z<V.heap.size) C.files,SP.eq (.pointer (some ⟨w,1,none⟩)),SP.eq (S_ A2 m2 c2),SP.lo rM 85 (V) (fun z=>S z/\z≠w.heap.size/\z<V.heap.size) C.frames,SP.eq (.pointer (some ⟨w,2,none⟩)),SP.eq (S_ A3 m3 c3),SP.lo pE 155 (V) (fun z=>S z/\z≠w.heap.size/\z<V.heap.size) C.zones,SP.eq (.pointer (some ⟨w,3,none⟩)),SP.eq (S_ A4 m4 c4),SP.lo qN 72 (V) (fun z=>S z/\z≠w.heap.size/\z<V.heap.size) C.groups,SP.eq (.pointer (some ⟨w,4,none⟩)),SP.eq (S_ A5 C.lists.length c5),SP.lo sJ 119 (V) (fun z=>S z/\z≠w.heap.size/\z<V.heap.size) C.lists,SP.eq (.pointer (some ⟨w,5,none⟩)),SP.eq (S_ A6 m6 c6),SP.lo M_ 3 (V) (fun z=>S z/\z≠w.heap.size/\z<V.heap.size) C.clocks,SP.eq (.pointer (some ⟨w,6,none⟩)),SP.eq (S_ A7 m7 c7),SP.lo sA 164 (V) (fun z=>S z/\z≠w.heap.size/\z<V.heap.size) C.ptes,SP.r7 (V) (fun z=>S z/\z≠w.heap.size/\z<V.heap.size) C,SP.bx (V) (cG)] s_ s_ rfl ?_;simp only[vK];refine qC fun v0=>?_;simp only[ly];refine e_ (fun x m o K q=>?_) (fun v1=>?_)
  ·obtain rfl:v0=_:=o 0 s_;have q0:=(c_ ((show q_ V x from m).block _ (p_ G))).trans x0;go_simp;exact q _ _ m B_ rfl
  simp only[ly];refine e_ (fun x m o K q=>?_) (fun v2=>?_)
  ·obtain rfl:v1=_:=o 1 s_;have j:q_ V x:=m;go_simp
   go_at_call 107
   refine (cN_ (fun z=>S z/\z≠w.heap.size/\z<V.heap.size) (HV.files.step j) (by have:=HL.ok.files;omega)).mono ?_;rintro e w1 ⟨v',rfl,u,s⟩;exact q _ _ (d_ j s) s ⟨(u.weak (S':=fun z=>S z/\z≠w.heap.size/\z<V.heap.size) (fun _ _ h=>h.1)).base_le j.size,by have:=s.size;have:=j.size;omega⟩
  simp only[ly];refine qC fun v3=>?_;simp only[ly];refine e_ (fun x m o K q=>?_) (fun v4=>?_)
  ·obtain rfl:v3=_:=o 3 s_;have q0:=(c_ ((show q_ V x from m).block _ (p_ G))).trans x1;go_simp;exact q _ _ m B_ rfl
  simp only[ly];refine e_ (fun x m o K q=>?_) (fun v5=>?_)
  ·obtain rfl:v4=_:=o 4 s_;have j:q_ V x:=m;go_simp
   go_at_call 108
   refine (cO_ (fun z=>S z/\z≠w.heap.size/\z<V.heap.size) (HV.frames.step j) (by have:=HL.ok.frames;omega)).mono ?_;rintro e w1 ⟨v',rfl,u,s⟩;exact q _ _ (d_ j s) s ⟨(u.weak (S':=fun z=>S z/\z≠w.heap.size/\z<V.heap.size) (fun _ _ h=>h.1)).base_le j.size,by have:=s.size;have:=j.size;omega⟩
  simp only[ly];refine qC fun v6=>?_;simp only[ly];refine e_ (fun x m o K q=>?_) (fun v7=>?_)
  ·obtain rfl:v6=_:=o 6 s_;have q0:=(c_ ((show q_ V x from m).block _ (p_ G))).trans x2;go_simp;exact q _ _ m B_ rfl
  simp only[ly];refine e_ (fun x m o K q=>?_) (fun v8=>?_)
  ·obtain rfl:v7=_:=o 7 s_;have j:q_ V x:=m;go_simp
   go_at_call 109
   refine (cR_ (fun z=>S z/\z≠w.heap.size/\z<V.heap.size) (HV.zones.step j) (by have:=HL.zn;omega)).mono ?_;rintro e w1 ⟨v',rfl,u,s⟩;exact q _ _ (d_ j s) s ⟨(u.weak (S':=fun z=>S z/\z≠w.heap.size/\z<V.heap.size) (fun _ _ h=>h.1)).base_le j.size,by have:=s.size;have:=j.size;omega⟩
  simp only[ly];refine qC fun v9=>?_;simp only[ly];refine e_ (fun x m o K q=>?_) (fun v10=>?_)
  ·obtain rfl:v9=_:=o 9 s_;have q0:=(c_ ((show q_ V x from m).block _ (p_ G))).trans x3;go_simp;exact q _ _ m B_ rfl
  simp only[ly];refine e_ (fun x m o K q=>?_) (fun v11=>?_)
  ·obtain rfl:v10=_:=o 10 s_;have j:q_ V x:=m;go_simp
   go_at_call 110
   refine (cP_ (fun z=>S z/\z≠w.heap.size/\z<V.heap.size) (HV.groups.step j) (by have:=HL.ok.groups;omega)).mono ?_;rintro e w1 ⟨v',rfl,u,s⟩;exact q _ _ (d_ j s) s ⟨(u.weak (S':=fun z=>S z/\z≠w.heap.size/\z<V.heap.size) (fun _ _ h=>h.1)).base_le j.size,by have:=s.size;have:=j.size;omega⟩
  simp only[ly];refine qC fun v12=>?_;simp only[ly];refine e_ (fun x m o K q=>?_) (fun v13=>?_)
  ·obtain rfl:v12=_:=o 12 s_;have q0:=(c_ ((show q_ V x from m).block _ (p_ G))).trans x4;go_simp;exact q _ _ m B_ rfl
  simp only[ly];refine e_ (fun x m o K q=>?_) (fun v14=>?_)
  ·obtain rfl:v13=_:=o 13 s_;have j:q_ V x:=m;go_simp
   go_at_call 111
   refine (cQ_ (fun z=>S z/\z≠w.heap.size/\z<V.heap.size) (HV.lists.step j) (by have:=HL.ok.lists;omega)).mono ?_;rintro e w1 ⟨v',rfl,u,s⟩;exact q _ _ (d_ j s) s ⟨(u.weak (S':=fun z=>S z/\z≠w.heap.size/\z<V.heap.size) (fun _ _ h=>h.1)).base_le j.size,by have:=s.size;have:=j.size;omega⟩
  simp only[ly];refine qC fun v15=>?_;simp only[ly];refine e_ (fun x m o K q=>?_) (fun v16=>?_)
  ·obtain rfl:v15=_:=o 15 s_;have q0:=(c_ ((show q_ V x from m).block _ (p_ G))).trans x5;go_simp;exact q _ _ m B_ rfl
  simp only[ly];refine e_ (fun x m o K q=>?_) (fun v17=>?_)
  ·obtain rfl:v16=_:=o 16 s_;have j:q_ V x:=m;go_simp
   go_at_call 112
   refine (iK (fun z=>S z/\z≠w.heap.size/\z<V.heap.size) (HV.clocks.step j) (by have:=HL.ok.clocks;omega)).mono ?_;rintro e w1 ⟨v',rfl,u,s⟩;exact q _ _ (d_ j s) s ⟨(u.weak (S':=fun z=>S z/\z≠w.heap.size/\z<V.heap.size) (fun _ _ h=>h.1)).base_le j.size,by have:=s.size;have:=j.size;omega⟩
  simp only[ly];refine qC fun v18=>?_;simp only[ly];refine e_ (fun x m o K q=>?_) (fun v19=>?_)
  ·obtain rfl:v18=_:=o 18 s_;have q0:=(c_ ((show q_ V x from m).block _ (p_ G))).trans x6;go_simp;exact q _ _ m B_ rfl
  simp only[ly];refine e_ (fun x m o K q=>?_) (fun v20=>?_)
  ·obtain rfl:v19=_:=o 19 s_;have j:q_ V x:=m;go_simp
   go_at_call 113
   refine (wC (fun z=>S z/\z≠w.heap.size/\z<V.heap.size) (HV.ptes.step j) (by have:=HL.pt;omega)).mono ?_;rintro e w1 ⟨v',rfl,u,s⟩;exact q _ _ (d_ j s) s ⟨(u.weak (S':=fun z=>S z/\z≠w.heap.size/\z<V.heap.size) (fun _ _ h=>h.1)).base_le j.size,by have:=s.size;have:=j.size;omega⟩
  simp only[ly];refine e_ (fun x m o K q=>?_) (fun v21=>?_)
  ·obtain ⟨g0,_⟩:=o 2 s_;obtain ⟨g1,_⟩:=o 5 s_;obtain ⟨g2,_⟩:=o 8 s_;obtain ⟨g3,_⟩:=o 11 s_;obtain ⟨g4,_⟩:=o 14 s_;obtain ⟨g5,_⟩:=o 17 s_;obtain ⟨g6,_⟩:=o 20 s_;obtain ⟨_,_,_,e0⟩:=g0.cap;obtain ⟨_,_,_,e1⟩:=g1.cap;obtain ⟨_,_,_,e2⟩:=g2.cap;obtain ⟨_,_,_,e3⟩:=g3.cap;obtain ⟨_,_,_,e4⟩:=g4.cap;obtain ⟨_,_,_,e5⟩:=g5.cap;obtain ⟨_,_,_,e6⟩:=g6.cap;subst e0 e1 e2 e3 e4 e5 e6;go_simp;exact q _ _ m B_ ⟨_,_,_,_,_,_,_,rfl,g0,g1,g2,g3,g4,g5,g6⟩
  simp only[ly];refine e_ (fun x m o K q=>?_) (fun v22=>?_)
  ·have j:q_ V x:=m;go_simp;exact q _ _ (b_ j _) (b_ B_ _) ⟨_,rfl,j.size,heap_alloc_new _ _⟩
  simp only[ly];refine aA ?_;intro x m hG;obtain ⟨u0,u1,u2,u3,u4,u5,u6,b9,hR⟩:=hG 21 O_;obtain rfl:v21=_:=b9;obtain ⟨Z,ba,be,O⟩:=hG 22 O_;obtain rfl:v22=_:=ba;have j:q_ V x:=m;obtain ⟨gf,cf,gr,cr,v,cz,D,cl,rfl,rfl,rfl,rfl,hN,hO,a5⟩:=eU_ HL.out F hR O be (fun z P=>hS z O_);obtain ⟨B4,n4,k4,e4⟩:=hO.g.cap;obtain ⟨B6,n6,k6,e6⟩:=hO.k.cap;obtain ⟨B7,n7,k7,e7⟩:=hO.p.cap;subst e4 e6 e7;obtain ⟨J,E,HN,HB,ax⟩:=h5_ O hO hN j a5;clear hG m j O hR hO hN a5
  go_wp2_with (refine aJ rfl (.tmp 3) (.tmp 29) rfl rfl rfl rfl J rfl ?_)
  go_meet
  case rel=>
   have hn:=HN.out;obtain ⟨a1,a2,a3,a4⟩:=hn.a1;have bh:=p_ J;have hk:r_ (xJ S (w) Z gf gr v D) x (x.setRow Z (E_ (o_ gf) C.files.length cf (o_ gr) C.frames.length cr (o_ v) C.zones.length cz B4 n4 k4 (o_ D) C.lists.length cl B6 n6 k6 B7 n7 k7)):=r_.of_setRow x Z _ (fun h=>h.2.2.1 rfl);refine ⟨Z,gf,cf,gr,cr,v,cz,D,cl,B4,n4,k4,B6,n6,k6,B7,n7,k7,rfl,hn,⟨⟨E.f.kept hk (setRow_other _ _ _ _ a1.symm),E.r.kept hk (setRow_other _ _ _ _ a2.symm),E.z.kept hk (setRow_other _ _ _ _ a3.symm),E.l.kept hk (setRow_other _ _ _ _ a4.symm),E.g.kept hk,E.k.kept hk,E.p.kept hk⟩,setRow_heap _ _ _ _ _ _ J,(setRow_other _ _ _ _ (by have:=hn.z;omega)).trans (i_ G.out HB.out),j_ (d_ M.out HB.out) (by have:=hn.z;omega) _⟩,fun z P=>?_,ax.out⟩;have br:x.heap.size<=z:=by simpa [World.setRow] using P
   have:=HB.size;exact ⟨hS z O_,O_,O_,by have:=E.f.lt;omega,by have:=E.r.lt;omega,by have:=E.z.lt;omega,by have:=E.l.lt;omega⟩
 case rest=>
  clear G HV x0 x1 x2 x3 x4 x5 x6;obtain ⟨Z,gf,cf,gr,cr,v,cz,D,cl,B4,n4,k4,B6,n6,k6,B7,n7,k7,rfl,hN,⟨hO,O,hX,hW⟩,hT,a5⟩:=hcut;obtain ⟨E,J,G,M,am⟩:=h5_ hO O hX hW hN;obtain ⟨x0,x1,x2,x3,x4,x5,x6⟩:=aF O;obtain ⟨V2,bb⟩:=aZ wc;subst bb;have bn:=HL.ok.files.2;have bh:=HL.zn.2;have bo:=HL.ok.lists.2;obtain ⟨a1,a2,a3,a4⟩:=hN.a1;obtain ⟨b1,b2,b3⟩:=hN.a2;obtain ⟨b4,b5⟩:=hN.a3;have b6:=hN.a4;have l1:=hN.z;have l2:=hN.f;have l3:=hN.zn;have l4:=hN.l;have l5:=hN.r;clear hO O hX hW hN;go_wp2
  go_loopw [33] (fun s33 wx=>∃k:Nat,s33 = I_ k/\k<=C.files.length/\yV (xJ S (w) Z gf gr v D) gf gr v D (S_ B4 n4 k4) (S_ B6 n6 k6) (S_ B7 n7 k7) C wx/\aW wx Z (E_ (o_ gf) C.files.length cf (o_ gr) C.frames.length cr (o_ v) C.zones.length cz B4 n4 k4 (o_ D) C.lists.length cl B6 n6 k6 B7 n7 k7) 30/\aW wx (w) (E_ A1 m1 c1 A2 m2 c2 A3 m3 c3 A4 m4 c4 A5 C.lists.length c5 A6 m6 c6 A7 m7 c7) 30/\q_ w wx/\V2.heap.size<=wx.heap.size) (fun s33 _=>C.files.length - (intOf s33).toNat)
  case atStart=>exact ⟨0,rfl,O_,E.out,J.out,G.out,M.out,aQ _⟩
  case round=>
   clear E J G M x0 x1 x2 x3 x4 x5 x6;obtain ⟨k,rfl,hk,hO,O,hX,hW,F⟩:=hrel;obtain ⟨E,J,G,M⟩:=sP hO O hX hW;have N:=fun z (P:wr.heap.size<=z)=>hT z (dO F P);obtain ⟨x0,x1,x2,x3,x4,x5,x6⟩:=aF O;clear hO O hX hW
   by_cases I:k<C.files.length
   ·obtain ⟨y,hy⟩:∃y,C.files[k]?=some y:=⟨_,cU I⟩;obtain ⟨t,A,cp,ht,bf,av,r0,r1,r2⟩:=LW.fl_root E.f hy;have aa:=fun x (H:q_ wr x)=>ab_ t (f_ t y.c) (tX t y.c) A cp (xJ S (w) Z gf gr v D) x bf ((av.step H).weak fun _ _ _=>trivial) (fun z P=>N z (by have:=H.size;omega));have HY:=H_ hy;have HT:=H_ ht;have ac:=E.f.lt;have k0:(0:Int)<=(k:Int):=O_
    have k1:(k:Int)<(C.files.length:Int):=O_
    clear hy ht av
    go_upto_region 5 with fail
    refine T_ 14 96 [SP.eq (P_ Z),SP.eq (S_ (some ⟨gf,0,none⟩) C.files.length cf),SP.eq (I_ (k:Int)),SP.eq (P_ Z),SP.eq (S_ (some ⟨gf,0,none⟩) C.files.length cf),SP.eq (I_ (k:Int)),SP.eq (.pointer (some ⟨gf,k*15,none⟩)),SP.eq (.pointer (some ⟨gf,k*15+2,none⟩)),SP.eq (.pointer (some ⟨gf,k*15+3,none⟩)),SP.eq (lG A (f_ t y.c).kids.length cp (f_ t y.c).val (f_ t y.c).marks),SP.nt (xJ S (w) Z gf gr v D) (f_ t y.c),SP.eq (.pointer (some ⟨gf,k*15,none⟩)),SP.eq (.pointer (some ⟨gf,k*15+2,none⟩)),SP.eq (.pointer (some ⟨gf,k*15+3,none⟩))] s_ s_ rfl ?_;simp only[vK];refine qC fun v0=>?_;simp only[ly];refine e_ (fun x m o K q=>?_) (fun v1=>?_)
    ·obtain rfl:v0=_:=o 0 s_;have q0:=(c_ ((show q_ wr x from m).block _ (p_ J))).trans x0;go_simp;exact q _ _ m B_ rfl
    simp only[ly];refine qC fun v2=>qC fun v3=>?_;simp only[ly];refine e_ (fun x m o K q=>?_) (fun v4=>?_)
    ·obtain rfl:v3=_:=o 3 s_;have q0:=(c_ ((show q_ wr x from m).block _ (p_ J))).trans x0;go_simp;exact q _ _ m B_ rfl
    simp only[ly];refine qC fun v5=>qC fun v6=>?_;simp only[ly];refine qC fun v7=>qC fun v8=>?_;simp only[ly];refine e_ (fun x m o K q=>?_) (fun v9=>?_)
    ·obtain rfl:v8=_:=o 8 s_;have j:q_ wr x:=m;obtain ⟨q0,q1,q2⟩:=kt3 (j.block _ ac) r0 r1 r2;go_simp;exact q _ _ m B_ rfl
    simp only[ly];refine e_ (fun x m o K q=>?_) (fun v10=>?_)
    ·obtain rfl:v9=_:=o 9 s_;go_simp
     go_at_call 114
     refine (aa x m).mono ?_;rintro e w1 ⟨A',ai,rfl,ak,ad,B⟩;exact q _ _ (d_ m B) B ⟨A',ai,rfl,ak,ad⟩
    simp only[ly];refine qC fun v11=>qC fun v12=>qC fun v13=>?_;simp only[ly];refine aA ?_;intro x m hG;obtain ⟨A',ai,b7,ak,ad⟩:=hG 10 O_;obtain rfl:v10=_:=b7;obtain rfl:v13=_:=hG 13 O_;have L:=H_ (show q_ wr x from m);have HF:=H_ (E.f.step L);have HK:=H_ ad;clear hG m ad aa r0 r1 r2 x0 x1 x2 x3 x4 x5 x6;have af:=HF.there (i:=k) (p:=3) (n:=3) I O_
    go_wp2_with (refine pF rfl 56 (.tmp 49) (.tmp 46) rfl gf (k*15+3) #[S_ A' (f_ t y.c).kids.length ai,I_ (f_ t y.c).val,I_ (f_ t y.c).marks] rfl rfl af V_ (aN) ?_)
    go_roundw
    case rel=>
     refine ⟨k+1,by go_num,O_,?_,?_,?_,?_,?_⟩
     ·exact (E.step L).setF (r_.of_setCells x gf _ _ (fun h=>h.2.2.2.1 rfl)) (fun z P=>gW gf _ _ x z P) ⟨b1,b2,b3⟩ (LW.root HF HY HT ak HK)
     ·exact (gW gf _ _ x Z O_).trans (i_ J.out L.out)
     ·exact (gW gf _ _ x (w) O_).trans (i_ G.out L.out)
     ·exact aS (d_ M.out L.out) O_ _ _
     ·exact dO (dO F L.size) (Nat.le_of_eq (cM gf _ _ x).symm)
    case measure=>exact bH
   ·obtain rfl:k=C.files.length:=O_
    clear hk I
    go_upto_region 7 with fail
    obtain ⟨V3,bc⟩:=aZ wr;subst bc;go_wp2
    go_loopw [54] (fun s54 wx=>∃k:Nat,s54 = I_ k/\k<=C.zones.length/\yV (xJ S (w) Z gf gr v D) gf gr v D (S_ B4 n4 k4) (S_ B6 n6 k6) (S_ B7 n7 k7) C wx/\aW wx Z (E_ (o_ gf) C.files.length cf (o_ gr) C.frames.length cr (o_ v) C.zones.length cz B4 n4 k4 (o_ D) C.lists.length cl B6 n6 k6 B7 n7 k7) 30/\aW wx (w) (E_ A1 m1 c1 A2 m2 c2 A3 m3 c3 A4 m4 c4 A5 C.lists.length c5 A6 m6 c6 A7 m7 c7) 30/\q_ w wx/\V2.heap.size<=wx.heap.size) (fun s54 _=>C.zones.length - (intOf s54).toNat)
    case atStart=>exact ⟨0,rfl,O_,E.out,J.out,G.out,M.out,F⟩
    case round=>
     clear E J G M x0 x1 x2 x3 x4 x5 x6 N F;obtain ⟨k,rfl,hk,hO,O,hX,hW,F⟩:=hrel;obtain ⟨E,J,G,M⟩:=sP hO O hX hW;have N:=fun z (P:wr.heap.size<=z)=>hT z (dO F P);obtain ⟨x0,x1,x2,x3,x4,x5,x6⟩:=aF O;clear hO O hX hW
     by_cases I:k<C.zones.length
     ·obtain ⟨y,hy⟩:∃y,C.zones[k]?=some y:=⟨_,cU I⟩;obtain ⟨fv,al,r5⟩:=LW.zn_free E.z hy;obtain ⟨Af,ao,rfl,_,_⟩:=al.form;have bj:=HL.free y (fF hy);have aa:=fun x (H:q_ wr x)=>iK (xJ S (w) Z gf gr v D) (al.step H) O_;have HY:=H_ hy;have ac:=E.z.lt;have k0:(0:Int)<=(k:Int):=O_
      have k1:(k:Int)<(C.zones.length:Int):=O_
      clear hy al
      go_upto_region 10 with fail
      refine T_ 12 96 [SP.eq (.pointer (some ⟨Z,2,none⟩)),SP.eq (S_ (some ⟨v,0,none⟩) C.zones.length cz),SP.eq (I_ (k:Int)),SP.eq (.pointer (some ⟨Z,2,none⟩)),SP.eq (S_ (some ⟨v,0,none⟩) C.zones.length cz),SP.eq (I_ (k:Int)),SP.eq (.pointer (some ⟨v,k*6,none⟩)),SP.eq (.pointer (some ⟨v,k*6+5,none⟩)),SP.eq (S_ Af y.free.length ao),SP.lo M_ 3 (wr) (xJ S (w) Z gf gr v D) y.free,SP.eq (.pointer (some ⟨v,k*6,none⟩)),SP.eq (.pointer (some ⟨v,k*6+5,none⟩))] s_ s_ rfl ?_;simp only[vK];refine qC fun v0=>?_;simp only[ly];refine e_ (fun x m o K q=>?_) (fun v1=>?_)
      ·obtain rfl:v0=_:=o 0 s_;have q0:=(c_ ((show q_ wr x from m).block _ (p_ J))).trans x2;go_simp;exact q _ _ m B_ rfl
      simp only[ly];refine qC fun v2=>qC fun v3=>?_;simp only[ly];refine e_ (fun x m o K q=>?_) (fun v4=>?_)
      ·obtain rfl:v3=_:=o 3 s_;have q0:=(c_ ((show q_ wr x from m).block _ (p_ J))).trans x2;go_simp;exact q _ _ m B_ rfl
      simp only[ly];refine qC fun v5=>qC fun v6=>qC fun v7=>?_;simp only[ly];refine e_ (fun x m o K q=>?_) (fun v8=>?_)
      ·obtain rfl:v7=_:=o 7 s_;have j:q_ wr x:=m;have q0:=(c_ (j.block _ ac)).trans r5;go_simp;exact q _ _ m B_ rfl
      simp only[ly];refine e_ (fun x m o K q=>?_) (fun v9=>?_)
      ·obtain rfl:v8=_:=o 8 s_;have j:q_ wr x:=m;go_simp
       go_at_call 112
       refine (aa x m).mono ?_;rintro e w1 ⟨v',rfl,u,B⟩;exact q _ _ (d_ m B) B ⟨(u.weak (S':=xJ S (w) Z gf gr v D) (fun _ _ h=>h.1)).base_le j.size,by have:=B.size;have:=j.size;omega⟩
      simp only[ly];refine qC fun v10=>qC fun v11=>?_;simp only[ly];refine aA ?_;intro x m hG;obtain ⟨h9,_⟩:=hG 9 O_;obtain rfl:v11=_:=hG 11 O_;have ae:=h9.laV' (S':=xJ S (w) Z gf gr v D) (fun _ _ h=>h) (fun b H=>N b (h9.own H).1);obtain ⟨A9,n9,c9,rfl⟩:=h9.cap;have L:=H_ (show q_ wr x from m);have HF:=H_ (E.z.step L);have HK:=H_ ae;clear hG m h9 ae aa r5 x0 x1 x2 x3 x4 x5 x6;obtain ⟨⟨u5,bp⟩,bm⟩:=HF.slot (i:=k) (p:=5) I O_;go_wp2;go_roundw
      case rel=>
       refine ⟨k+1,by go_num,O_,?_,?_,?_,?_,?_⟩
       ·exact (E.step L).setZ (r_.of_setCell x _ _ (fun h=>h.2.2.2.2.2.1 rfl)) (fun z P=>jO x _ _ z P) ⟨b2.symm,b4.symm,b6⟩ (LW.zfree HF HY HK)
       ·exact (jO x ⟨v,k*6+5,none⟩ _ Z (by show _≠v;omega)).trans (i_ J.out L.out)
       ·exact (jO x ⟨v,k*6+5,none⟩ _ (w) (by show _≠v;omega)).trans (i_ G.out L.out)
       ·exact (d_ M L).setCell (by show w.heap.size<=v;omega) _
       ·exact dO (dO F L.size) (Nat.le_of_eq (by simp [World.setCell]))
      case measure=>exact bH
     ·obtain rfl:k=C.zones.length:=O_
      clear hk I
      go_upto_region 12 with fail
      obtain ⟨V4,bd⟩:=aZ wr;subst bd;have p4:=a_ G 4;simp only[zl] at p4;go_wp2;clear p4
      go_loopw [73] (fun s73 wx=>∃k:Nat,s73 = I_ k/\k<=C.lists.length/\yV (xJ S (w) Z gf gr v D) gf gr v D (S_ B4 n4 k4) (S_ B6 n6 k6) (S_ B7 n7 k7) C wx/\aW wx Z (E_ (o_ gf) C.files.length cf (o_ gr) C.frames.length cr (o_ v) C.zones.length cz B4 n4 k4 (o_ D) C.lists.length cl B6 n6 k6 B7 n7 k7) 30/\aW wx (w) (E_ A1 m1 c1 A2 m2 c2 A3 m3 c3 A4 m4 c4 A5 C.lists.length c5 A6 m6 c6 A7 m7 c7) 30/\q_ w wx/\V2.heap.size<=wx.heap.size) (fun s73 _=>C.lists.length - (intOf s73).toNat)
      case atStart=>exact ⟨0,rfl,O_,E.out,J.out,G.out,M.out,F⟩
      case round=>
       clear E J G M x0 x1 x2 x3 x4 x5 x6 N F;obtain ⟨k,rfl,hk,hO,O,hX,hW,F⟩:=hrel;obtain ⟨E,J,G,M⟩:=sP hO O hX hW;have N:=fun z (P:wr.heap.size<=z)=>hT z (dO F P);obtain ⟨x0,x1,x2,x3,x4,x5,x6⟩:=aF O;clear hO O hX hW
       by_cases I:k<C.lists.length
       ·obtain ⟨y,hy⟩:∃y,C.lists[k]?=some y:=⟨_,cU I⟩;obtain ⟨bl,ol,w1,w2,w3,rfl,bk,ae,r0,r1,r2⟩:=LrL.cells ((aw.step M.out)) hy;obtain ⟨h1,h2,h3⟩:=ae;obtain ⟨Q,W,rfl,_,_⟩:=h1.form;obtain ⟨R,X,rfl,_,_⟩:=h2.form;obtain ⟨U,Y,rfl,_,_⟩:=h3.form;obtain ⟨g1,g2,g3⟩:=HL.lru y (fF hy);have up:=fun z (P:z<w.heap.size) (hs:S z/\z<w.heap.size)=>(show xJ S (w) Z gf gr v D z from ⟨hs.1,O_,O_,O_,by have:=am.r;omega,O_,O_⟩);have ap:=fun x (H:q_ wr x)=>iK _ (h1.step H) O_;have aq:=fun x (H:q_ wr x)=>iK _ (h2.step H) O_;have ar:=fun x (H:q_ wr x)=>iK _ (h3.step H) O_;have HY:=H_ hy;have ac:=E.l.lt;have k0:(0:Int)<=(k:Int):=O_
        have k1:(k:Int)<(C.lists.length:Int):=O_
        clear hy h1 h2 h3
        go_upto_region 15 with fail
        have ag:=H_ (E.step (b_ (aI (wr) wr) (.cells #[S_ Q y.act.length W,S_ R y.ina.length X,S_ U y.ref.length Y] 119)));have ab:=H_ (m_ J (.cells #[S_ Q y.act.length W,S_ R y.ina.length X,S_ U y.ref.length Y] 119));have an:=H_ (m_ G (.cells #[S_ Q y.act.length W,S_ R y.ina.length X,S_ U y.ref.length Y] 119));have ah:=H_ (b_ M (.cells #[S_ Q y.act.length W,S_ R y.ina.length X,S_ U y.ref.length Y] 119));have a6:=H_ (g_ wr (.cells #[S_ Q y.act.length W,S_ R y.ina.length X,S_ U y.ref.length Y] 119));have bg:wr.heap.size<(wr.alloc (.cells #[S_ Q y.act.length W,S_ R y.ina.length X,S_ U y.ref.length Y] 119)).heap.size:=z_
        have a7:=fun x (H:Below (wr.alloc (.cells #[S_ Q y.act.length W,S_ R y.ina.length X,S_ U y.ref.length Y] 119)).heap.size (wr.alloc (.cells #[S_ Q y.act.length W,S_ R y.ina.length X,S_ U y.ref.length Y] 119)) x)=>ap x (d_ (b_ (aI (wr) wr) (.cells #[S_ Q y.act.length W,S_ R y.ina.length X,S_ U y.ref.length Y] 119)) H);have a8:=fun x (H:Below (wr.alloc (.cells #[S_ Q y.act.length W,S_ R y.ina.length X,S_ U y.ref.length Y] 119)).heap.size (wr.alloc (.cells #[S_ Q y.act.length W,S_ R y.ina.length X,S_ U y.ref.length Y] 119)) x)=>aq x (d_ (b_ (aI (wr) wr) (.cells #[S_ Q y.act.length W,S_ R y.ina.length X,S_ U y.ref.length Y] 119)) H);have a9:=fun x (H:Below (wr.alloc (.cells #[S_ Q y.act.length W,S_ R y.ina.length X,S_ U y.ref.length Y] 119)).heap.size (wr.alloc (.cells #[S_ Q y.act.length W,S_ R y.ina.length X,S_ U y.ref.length Y] 119)) x)=>ar x (d_ (b_ (aI (wr) wr) (.cells #[S_ Q y.act.length W,S_ R y.ina.length X,S_ U y.ref.length Y] 119)) H);generalize wr.alloc (.cells #[S_ Q y.act.length W,S_ R y.ina.length X,S_ U y.ref.length Y] 119)=W5 at ag ab an ah a6 bg a7 a8 a9;clear E J G M ap aq ar r0 r1 r2 x0 x1 x2 x3 x4 x5 x6;obtain ⟨x0,x1,x2,x3,x4,x5,x6⟩:=aF ab.out;obtain ⟨y0,y1,y2⟩:=cL a6.out;refine T_ 14 96 [SP.eq (.pointer (some ⟨Z,4,none⟩)),SP.eq (S_ (some ⟨D,0,none⟩) C.lists.length cl),SP.eq (I_ (k:Int)),SP.eq (P_ (wr)),SP.eq (S_ Q y.act.length W),SP.lo M_ 3 (W5) (fun z=>S z/\z<w.heap.size) (y.act),SP.eq (.pointer (some ⟨wr,1,none⟩)),SP.eq (S_ R y.ina.length X),SP.lo M_ 3 (W5) (fun z=>S z/\z<w.heap.size) (y.ina),SP.eq (.pointer (some ⟨wr,2,none⟩)),SP.eq (S_ U y.ref.length Y),SP.lo M_ 3 (W5) (fun z=>S z/\z<w.heap.size) (y.ref),SP.l3 (W5) (fun z=>S z/\z<w.heap.size) y,SP.eq (.pointer (some ⟨D,k*3,none⟩))] s_ s_ rfl ?_
        simp only[vK];refine qC fun v0=>?_;simp only[ly];refine e_ (fun x m o K q=>?_) (fun v1=>?_)
        ·obtain rfl:v0=_:=o 0 s_;have q0:=(c_ ((show q_ W5 x from m).block _ (p_ ab))).trans x4;go_simp;exact q _ _ m B_ rfl
        simp only[ly];refine qC fun v2=>qC fun v3=>?_;simp only[ly];refine e_ (fun x m o K q=>?_) (fun v4=>?_)
        ·obtain rfl:v3=_:=o 3 s_;have q0:=(c_ ((show q_ W5 x from m).block _ (p_ a6))).trans y0;go_simp;exact q _ _ m B_ rfl
        simp only[ly];refine e_ (fun x m o K q=>?_) (fun v5=>?_)
        ·obtain rfl:v4=_:=o 4 s_;have j:q_ W5 x:=m;go_simp
         go_at_call 112
         refine (a7 x m).mono ?_;rintro e w1 ⟨v',rfl,u,B⟩;exact q _ _ (d_ m B) B ⟨(u.weak (S':=fun z=>S z/\z<w.heap.size) (fun _ _ h=>h.1)).base_le j.size,by have:=B.size;have:=j.size;omega⟩
        simp only[ly];refine qC fun v6=>?_;simp only[ly];refine e_ (fun x m o K q=>?_) (fun v7=>?_)
        ·obtain rfl:v6=_:=o 6 s_;have q0:=(c_ ((show q_ W5 x from m).block _ (p_ a6))).trans y1;go_simp;exact q _ _ m B_ rfl
        simp only[ly];refine e_ (fun x m o K q=>?_) (fun v8=>?_)
        ·obtain rfl:v7=_:=o 7 s_;have j:q_ W5 x:=m;go_simp
         go_at_call 112
         refine (a8 x m).mono ?_;rintro e w1 ⟨v',rfl,u,B⟩;exact q _ _ (d_ m B) B ⟨(u.weak (S':=fun z=>S z/\z<w.heap.size) (fun _ _ h=>h.1)).base_le j.size,by have:=B.size;have:=j.size;omega⟩
        simp only[ly];refine qC fun v9=>?_;simp only[ly];refine e_ (fun x m o K q=>?_) (fun v10=>?_)
        ·obtain rfl:v9=_:=o 9 s_;have q0:=(c_ ((show q_ W5 x from m).block _ (p_ a6))).trans y2;go_simp;exact q _ _ m B_ rfl
        simp only[ly];refine e_ (fun x m o K q=>?_) (fun v11=>?_)
        ·obtain rfl:v10=_:=o 10 s_;have j:q_ W5 x:=m;go_simp
         go_at_call 112
         refine (a9 x m).mono ?_;rintro e w1 ⟨v',rfl,u,B⟩;exact q _ _ (d_ m B) B ⟨(u.weak (S':=fun z=>S z/\z<w.heap.size) (fun _ _ h=>h.1)).base_le j.size,by have:=B.size;have:=j.size;omega⟩
        simp only[ly];refine e_ (fun x m o K q=>?_) (fun v12=>?_)
        ·obtain ⟨g5,_⟩:=o 5 s_;obtain ⟨g8,_⟩:=o 8 s_;obtain ⟨a0,_⟩:=o 11 s_;obtain ⟨_,_,_,e5⟩:=g5.cap;obtain ⟨_,_,_,e8⟩:=g8.cap;obtain ⟨_,_,_,aj⟩:=a0.cap;subst e5 e8 aj;go_simp;exact q _ _ m B_ ⟨_,_,_,rfl,g5,g8,a0⟩
        simp only[ly];refine qC fun v13=>?_;simp only[ly];refine aA ?_;intro x m hG;obtain ⟨u5,u8,bi,b8,g5,g8,a0⟩:=hG 12 O_;obtain rfl:v12=_:=b8;obtain rfl:v13=_:=hG 13 O_;have L:=H_ (show q_ W5 x from m);have bq:=(d_ ah L).size;have au:sI x (xJ S (w) Z gf gr v D) u5 u8 bi y:=⟨g5.laV' (fun z _ hs=>up z hs.2 hs) (fun b H=>N b (by have:=(g5.own H).1;omega)),g8.laV' (fun z _ hs=>up z hs.2 hs) (fun b H=>N b (by have:=(g8.own H).1;omega)),a0.laV' (fun z _ hs=>up z hs.2 hs) (fun b H=>N b (by have:=(a0.own H).1;omega))⟩;obtain ⟨D1,d1,ay,e5⟩:=g5.cap;obtain ⟨D2,d2,az,e8⟩:=g8.cap;obtain ⟨D3,d3,b0,aj⟩:=a0.cap;subst e5 e8 aj;have HF:=H_ (ag.l.step L);have HK:=H_ au;clear hG m g5 g8 a0 au a7 a8 a9 x0 x1 x2 x3 x4 x5 x6 y0 y1 y2;have af:=HF.there (i:=k) (p:=0) (n:=3) I O_;rw [Nat.add_zero] at af
        go_wp2_with (refine pF rfl 119 (.tmp 91) (.tmp 90) rfl D (k*3) #[S_ D1 d1 ay,S_ D2 d2 az,S_ D3 d3 b0] rfl rfl af iv_ (by simp [Value.oneCell']) ?_)
        go_roundw
        case rel=>
         refine ⟨k+1,by go_num,O_,?_,?_,?_,?_,?_⟩
         ·exact (ag.step L).setL (r_.of_setCells x D _ _ (fun h=>h.2.2.2.2.2.2 rfl)) (fun z P=>gW D _ _ x z P) ⟨b3.symm,b5.symm,b6.symm⟩ (LW.lru HF HY HK)
         ·exact (gW D _ _ x Z O_).trans (i_ ab.out L.out)
         ·exact (gW D _ _ x (w) O_).trans (i_ an.out L.out)
         ·exact aS (d_ ah.out L.out) O_ _ _
         ·rw [cM];have:=L.size;omega
        case measure=>exact bH
       ·obtain rfl:k=C.lists.length:=O_
        clear hk I;obtain ⟨x0,x1,x2,x3,x4,x5,x6⟩:=aF J.out;go_wp2;go_ret;exact ⟨_,_,_,_,_,_,_,_,_,_,_,_,rfl,iD_ am E (aQ _) hS a5,b_ M _⟩
end
section
section
variable {w w':World} {S:Nat->Prop} {B X gf nf cf gr nr cr:Nat} {c d e f g:Value} {C:Ck}
theorem Bd.kept (h:Bd w S B X gf nf cf gr nr cr c d e f g C) (hk:r_ (TB S X gf gr) w w') (h1:w'.heap[X]?=w.heap[X]?) (h2:w'.heap[gf]?=w.heap[gf]?) (h3:w'.heap[gr]?=w.heap[gr]?):Bd w' S B X gf nf cf gr nr cr c d e f g C:=
 ⟨h1.trans h.box,h.files.kept hk h2,h.frames.kept hk h3,h.zones.kept hk,h.groups.kept hk,h.lists.kept hk,h.clocks.kept hk,h.ptes.kept hk,h.ef,h.er,h.lf,h.lr,h.mf,h.mr,h.o0,h.o1,h.o2,h.n1,h.n2,h.n3,h.sf,h.sr⟩
theorem Bd.step (h:Bd w S B X gf nf cf gr nr cr c d e f g C) (hb:q_ w w'):Bd w' S B X gf nf cf gr nr cr c d e f g C:=
 h.kept (r_.of_below hb) (hb.block _ (p_ h.box)) (hb.block _ h.files.lt) (hb.block _ h.frames.lt)
theorem Bd.putFiles {fs:List Fl} (h:Bd w S B X gf nf cf gr nr cr c d e f g C) (hg:w.grownBy w' (some gf)) (hf:LW jG w' (TB S X gf gr) gf fs) (hn:fs.length=C.files.length):Bd w' S B X gf nf cf gr nr cr c d e f g {C with files:=fs}:=by
 have a:r_ (TB S X gf gr) w w':=r_.of_gb hg fun k e a=>by cases e;exact a.2.2.1 rfl
 have n1:=h.n1;have n3:=h.n3;exact ⟨(hg.block _ (p_ h.box) (by simp;omega)).trans h.box,hf,h.frames.kept a (hg.block _ h.frames.lt (by simp;omega)),h.zones.kept a,h.groups.kept a,h.lists.kept a,h.clocks.kept a,h.ptes.kept a,hn.trans h.ef,h.er,h.lf,h.lr,h.mf,h.mr,h.o0,h.o1,h.o2,h.n1,h.n2,h.n3,h.sf,h.sr⟩
theorem Bd.putFrames {rs:List Fr} (h:Bd w S B X gf nf cf gr nr cr c d e f g C) (hg:w.grownBy w' (some gr)) (hf:LW rM w' (TB S X gf gr) gr rs) (hn:rs.length=C.frames.length):Bd w' S B X gf nf cf gr nr cr c d e f g {C with frames:=rs}:=by
 have a:r_ (TB S X gf gr) w w':=r_.of_gb hg fun k e a=>by cases e;exact a.2.2.2 rfl
 have n2:=h.n2;have n3:=h.n3;exact ⟨(hg.block _ (p_ h.box) (by simp;omega)).trans h.box,h.files.kept a (hg.block _ h.files.lt (by simp;omega)),hf,h.zones.kept a,h.groups.kept a,h.lists.kept a,h.clocks.kept a,h.ptes.kept a,h.ef,hn.trans h.er,h.lf,h.lr,h.mf,h.mr,h.o0,h.o1,h.o2,h.n1,h.n2,h.n3,h.sf,h.sr⟩
theorem Bd.putPtes {g':Value} {ps:List Pt} (h:Bd w S B X gf nf cf gr nr cr c d e f g C) (hp:LA sA w (TB S X gf gr) g' ps):Bd (w.setCell ⟨X,6,none⟩ g') S B X gf nf cf gr nr cr c d e f g' {C with ptes:=ps}:=by
 have a:r_ (TB S X gf gr) w (w.setCell ⟨X,6,none⟩ g'):=r_.of_setCell w _ _ fun h=>h.2.1 rfl;have n1:=h.n1;have n2:=h.n2;exact ⟨R_ h.box g',h.files.kept a (jO w _ _ _ (by show gf≠X;omega)),h.frames.kept a (jO w _ _ _ (by show gr≠X;omega)),h.zones.kept a,h.groups.kept a,h.lists.kept a,h.clocks.kept a,hp.kept a,h.ef,h.er,h.lf,h.lr,h.mf,h.mr,h.o0,h.o1,h.o2,h.n1,h.n2,h.n3,h.sf,h.sr⟩
theorem Bd.at_ (h:Bd w S B X gf nf cf gr nr cr c d e f g C):x_ w S (S_ (some ⟨gf,0,none⟩) nf cf) (S_ (some ⟨gr,0,none⟩) nr cr) c d e f g C:=by
 have up:∀z,z<w.heap.size->TB S X gf gr z->S z:=fun z _ h=>h.1;have hf:=h.files.la (S':=S) (cap:=cf) h.sf up (by rw [h.ef];exact h.lf) h.mf;have a:=h.frames.la (S':=S) (cap:=cr) h.sr up (by rw [h.er];exact h.lr) h.mr;rw [h.ef] at hf;rw [h.er] at a;exact ⟨hf,a,h.zones.weak up,h.groups.weak up,h.lists.weak up,h.clocks.weak up,h.ptes.weak up⟩
end
def iJ (v:Value) (w:World) (e:Ending) (w':World):Prop:=e = .returned v/\q_ w w'
theorem pT (i:Nat) (x:Fr) {f g:Value} (h:x_ w S a b c d e f g C) (hi:C.frames[i]?=some x) (hl:C.frames.length<=100):C_ 43 #[cI a b c d e f g,I_ ((i:Int)+1)] w (cP (decide (0<=x.file)) w):=by
 obtain ⟨A,cap,rfl,s,t⟩:=h.frames.form;obtain ⟨bb,o,rfl,k,c0,_⟩:=FrA.cells h.frames hi;have j:=bK hi;have m:(1:Int)<=(i:Int)+1:=O_
 have n:(i:Int)+1<=(C.frames.length:Int):=O_
 have p:i<C.frames.length:=j;have q:(i:Int)<(C.frames.length:Int):=O_
 have r:(i:Int)+1<=100:=O_
 obtain ⟨l,rest⟩:=aZ x.file;rw [<-rest] at c0 ⊢;clear h hi rest;go_enter func43,ntmps43;go_wp2;go_ret;exact ⟨rfl,b_ B_ _⟩
theorem cp_ (n:Int) {f g:Value} (h:x_ w S a b c d e f g C) (hn:¬(1<=n/\n<=C.frames.length)):C_ 43 #[cI a b c d e f g,I_ n] w (cP false w):=by
 obtain ⟨A,cap,rfl,i,j⟩:=h.frames.form;clear h
 by_cases h1:1<=n
 ·have h2:decide (n<=(C.frames.length:Int))=false:=dF (fun h=>hn ⟨h1,h⟩);clear hn;go_enter func43,ntmps43;go_wp2;go_ret;exact ⟨rfl,b_ B_ _⟩
 ·have h2:decide (1<=n)=false:=dF h1;clear hn h1;go_enter func43,ntmps43;go_wp2;go_ret;exact ⟨rfl,b_ B_ _⟩
section
variable {w w':World} {S:Nat->Prop} {B X gf nf cf gr nr cr:Nat} {c d e f g:Value} {C:Ck} (i j:Nat) (x:Fr) (y:Fl) (h:Bd w S B X gf nf cf gr nr cr c d e f g C) (hi:C.frames[i]?=some x)
include h hi
theorem jU (hl:nr<=100):C_ 48 #[P_ X,I_ ((i:Int)+1)] w (iJ (.pointer (some ⟨gr,i*9,none⟩)) w):=by
 have b:=a_ h.box 1;simp only[zl] at b;have a:=bK hi;have c:(i:Int)<(nr:Int):=by have:=h.er;omega
 have d:(i:Int)+1<=100:=by have:=h.er;omega
 clear h hi a;go_enter func48,ntmps48;go_wp2;go_ret;exact ⟨rfl,aI _ _⟩
theorem xQ (hl:nr<=100) (hj:x.file=j) (hjl:j<nf):C_ 66 #[P_ X,I_ ((i:Int)+1)] w (iJ (.pointer (some ⟨gf,j*15,none⟩)) w):=by
 have a:=fun w' (hb:q_ w w')=>jU i x (h.step hb) hi hl;have x0:=a_ h.box 0;have d:=p_ h.box;have c:w.cell? ⟨gr,i*9,none⟩=some (I_ (j:Int)):=by have:=h.frames.frame_at hi 0 _ rfl;rw [hj,Nat.add_zero] at this;exact this
 have f:=h.frames.lt;simp only[zl] at x0;have g:(j:Int)<(nf:Int):=O_
 have b:=fun z=>a (ext w z) (n_ w z);have k:=aG w;clear h hi a;go_enter func66,ntmps66
 go_upto_region 1 with fail
 refine y_ s_ s_ ?_
 repeat (go_big_quiet_step ((with_reducible exact aB (b _))))
 refine wpQuiet_nil ?_;rintro w' ⟨z,rfl⟩;go_wp2;go_ret;exact ⟨rfl,n_ _ _⟩
end
theorem LW.fl_tree {g:Nat} (h:LW jG w S g L) (hj:L[j]?=some y):∃t A cap,aX y.c/\X_ t y.c/\(f_ t y.c).kids.length<=cap/\NK w S A (f_ t y.c).kids/\w.cell? ⟨g,j*15+2,none⟩=some (I_ (t:Nat))/\w.cell? ⟨g,j*15+3,none⟩=some (S_ A (f_ t y.c).kids.length cap)/\w.cell? ⟨g,j*15+4,none⟩=some (I_ (f_ t y.c).val)/\w.cell? ⟨g,j*15+5,none⟩=some (I_ (f_ t y.c).marks):=by
 obtain ⟨r,⟨t,A,cap,k1,k2,k3,k4,rfl⟩,hc⟩:=h.at_ hj;exact ⟨t,A,cap,k1,k2,k3,k4,hc 2 _ rfl,hc 3 _ rfl,hc 4 _ rfl,hc 5 _ rfl⟩
theorem Bd.weak {f g:Value} {S':Nat->Prop} (h:Bd w S B X gf nf cf gr nr cr c d e f g C) (hS:∀z,z<w.heap.size->S z->S' z):Bd w S' B X gf nf cf gr nr cr c d e f g C:=by
 have up:∀z,z<w.heap.size->TB S X gf gr z->TB S' X gf gr z:=fun z a h=>⟨hS z a h.1,h.2⟩;exact ⟨h.box,h.files.weak (fun h=>h.2.2.1 rfl) up,h.frames.weak (fun h=>h.2.2.2 rfl) up,h.zones.weak up,h.groups.weak up,h.lists.weak up,h.clocks.weak up,h.ptes.weak up,h.ef,h.er,h.lf,h.lr,h.mf,h.mr,h.o0,h.o1,h.o2,h.n1,h.n2,h.n3,hS _ h.files.lt h.sf,hS _ h.frames.lt h.sr⟩
def hr_ (S:Nat->Prop) (B X gf nf cf gr nr cr:Nat) (c d e f g:Value) (C:Ck) (w:World) (en:Ending) (w':World):Prop:=(∃v,en = .returned v)/\Bd w' S B X gf nf cf gr nr cr c d e f g C/\w.grownBy w' (some gf)
structure zE (x:Fr) (y:Fl):Prop where
 pg:0<=x.page/\x.page<8
 pos:0<D_ y.c x.page
theorem zE.fr (h:zE x y) (hm:dH m=true):(iN y.c x.page m).2=0:=by
 have h1:=h.pg;have h2:=h.pos;have hi:gG x.page=true:=by unfold gG;simp;omega
 unfold D_ at h2;rw [if_pos hi] at h2;exact cJ hi hm h2
theorem zE.mark (h:zE x y) (hm:dH m=true) (q:Bool):zE x {y with c:=yZ q y.c x.page m}:=by
 have h1:=h.pg;have h2:=h.pos;have a:gG x.page=true:=by unfold gG;simp;omega
 refine ⟨h1,?_⟩;unfold D_ at h2 ⊢;rw [if_pos a] at h2 ⊢
 show 0<((yZ q y.c x.page m) x.page.toNat).1
 cases q
 ·exact wK h2 (dS a hm h2 _).symm
 ·exact wK h2 (gI a hm h2 _).symm
def RQ.te (c':Cn):RQ (Nat × Option Addr × Nat):=⟨fun w S t v=>v = .tuple #[oD (t.1:Nat) t.2.1 (f_ t.1 c').kids.length t.2.2 (f_ t.1 c').val (f_ t.1 c').marks,I_ 0]/\NK w S t.2.1 (f_ t.1 c').kids,fun _ _ _ _ _ hk h=>⟨h.1,h.2.kept hk.1 hk.2⟩,fun _ _ _ _ _ hS h=>⟨h.1,h.2.weak hS⟩⟩
def RQ.tr (c':Cn):RQ (Nat × Option Addr × Nat):=⟨fun w S t v=>v=oD (t.1:Nat) t.2.1 (f_ t.1 c').kids.length t.2.2 (f_ t.1 c').val (f_ t.1 c').marks/\NK w S t.2.1 (f_ t.1 c').kids,fun _ _ _ _ _ hk h=>⟨h.1,h.2.kept hk.1 hk.2⟩,fun _ _ _ _ _ hS h=>⟨h.1,h.2.weak hS⟩⟩
theorem bV_ {f g:Value} (i j:Nat) (m:Int) (q:Bool) (h:Bd w S B X gf nf cf gr nr cr c d e f g C) (hi:C.frames[i]?=some x) (hl:nr<=100) (hj:x.file=j) (hy:C.files[j]?=some y) (hm:dH m=true) (hk:zE x y) (hS:∀z,w.heap.size<=z->S z) :
  C_ 121 #[P_ X,I_ ((i:Int)+1),I_ m,.bool q] w (hr_ S B X gf nf cf gr nr cr c d e f g {C with files:=C.files.set j {y with c:=yZ q y.c x.page m}} w):=by
 have a9:j<nf:=by rw [<-h.ef];exact (bK hy)
 have O:=fun w' (hb:q_ w w')=>xQ i j x (h.step hb) hi hl hj a9;have a7:=fun w' (hb:q_ w w')=>jU i x (h.step hb) hi hl;obtain ⟨t,A,cap,a4,ht,U,aa,r0,r1,r2,r3⟩:=LW.fl_tree h.files hy;have rp:=h.frames.frame_at hi 1 _ rfl;have ah:=h.files.lt;have aj:=h.frames.lt;have hT:∀z,w.heap.size<=z->TB S X gf gr z:=fun z F=>⟨hS z F,by have:=p_ h.box;omega,O_,O_⟩;have a8:=hk.fr hm;have a0:aX (yZ q y.c x.page m):=c7_ a4 q;have W:∀(t:Nat) (A:Option Addr) (cap:Nat) (w':World) (S0:Nat->Prop),X_ t y.c->(f_ t y.c).kids.length<=cap->NK w' S0 A (f_ t y.c).kids->(∀z,w'.heap.size<=z->S0 z)->Calls prog (bif q then 178 else 177) #[oD t A (f_ t y.c).kids.length cap (f_ t y.c).val (f_ t y.c).marks,I_ x.page,I_ m] w' (fZ (yZ q y.c x.page m) 0 S0 w'):=by
  intro t A cap w' S0 ht U hk a6
  cases q with
  | true=>
   have:=jQ_ cap x.page m a4 ht U hk a6;rw [show (dJ y.c x.page m).2=0 by unfold dJ;rw [if_pos a8]] at this;exact this
  | false=>
   have:=hg_ cap x.page m a4 ht U hk a6;rw [show (aV y.c x.page m).2=0 by unfold aV;rw [if_pos a8]] at this;exact this
 generalize yZ q y.c x.page m=v at W a0 ⊢;obtain ⟨N,hN⟩:∃N,(bif q then 178 else 177)=N:=⟨_,rfl⟩;rw [hN] at W;have HN:=H_ hN;clear hN
 cases q
 all_goals
  go_enter func121,ntmps121
  go_upto_region 3 with fail
  go_cut [9,10] (fun s9 s10 wx=>∃Z t,s9 = P_ Z/\s10 = I_ 0/\w.heap.size<=Z/\X_ t.1 v/\(f_ t.1 v).kids.length<=t.2.2/\aW wx Z #[I_ (t.1:Nat),S_ t.2.1 (f_ t.1 v).kids.length t.2.2,I_ (f_ t.1 v).val,I_ (f_ t.1 v).marks] 58/\NK wx (Sg (TB S X gf gr) ((some Z,some t):GH (Nat × Option Addr × Nat))) t.2.1 (f_ t.1 v).kids/\q_ w wx)
  case first=>
   refine oH (τ:=Nat × Option Addr × Nat) (S:=TB S X gf gr) 38 19 (fun i=>decide (i<=16)||decide (i=18)) (CG 18 14 19 (fun x=>q_ w x) (w) (.cells #[I_ 0,S_ none 0 0,I_ 0,I_ 0] 58 (0,0)) (fun t=>X_ t.1 v/\(f_ t.1 v).kids.length<=t.2.2) (fun t x z=>aW x z #[I_ (t.1:Nat),S_ t.2.1 (f_ t.1 v).kids.length t.2.2,I_ (f_ t.1 v).val,I_ (f_ t.1 v).marks] 58/\NK x (Sg (TB S X gf gr) (some z,some t)) t.2.1 (f_ t.1 v).kids)) [SG.eq (.func (.func N) #[] #[]),SG.eq (P_ X),SG.eq (I_ ((i:Int)+1)),SG.eq (.pointer (some ⟨gf,j*15,none⟩)),SG.eq (.pointer (some ⟨gf,j*15,none⟩)),SG.eq (.pointer (some ⟨gf,j*15+2,none⟩)),SG.eq (oD (t:Nat) A (f_ t y.c).kids.length cap (f_ t y.c).val (f_ t y.c).marks),SG.eq (P_ X),SG.eq (I_ ((i:Int)+1)),SG.eq (.pointer (some ⟨gr,i*9,none⟩)),SG.eq (.pointer (some ⟨gr,i*9,none⟩)),SG.eq (.pointer (some ⟨gr,i*9+1,none⟩)),SG.eq (I_ x.page),SG.eq (I_ m),SG.res (RQ.te v),SG.res (RQ.te v),SG.res (RQ.tr v),SG.eq (I_ 0),SG.box,SG.any,SG.eq (I_ 0)] s_ s_ rfl ⟨B_.drew,fun _=>rfl,fun _=>rfl,fun z h=>(by cases h),fun t h=>(by cases h),fun h=>(by cases h)⟩ s_ (fun _ _=>trivial) ?_;refine h_ (fun D J xw G H a k K l=>?_) (fun v0=>?_)
   ·have hN:=HN.out;go_simp;exact l D _ xw (a.pure 0 rfl rfl rfl) (fun _ _ h=>h) (by rw [<-hN];rfl)
   simp only[ly];refine qE fun v1=>qE fun v2=>?_;simp only[ly];refine h_ (fun D J xw G H a k K l=>?_) (fun v3=>?_)
   ·obtain rfl:v1=_:=k 1 s_;obtain rfl:v2=_:=k 2 s_;have L:q_ w xw:=a.b;go_simp
    go_at_call 66
    refine (O _ L).mono ?_;rintro e w1 ⟨rfl,s⟩;exact l D _ w1 (a.step 3 rfl rfl rfl (nds H rfl) s (d_ L s)) (fun j u h=>GG.keep (KG.of_below s) j u h) rfl
   simp only[ly];refine qE fun v4=>qE fun v5=>?_;simp only[ly];refine h_ (fun D J xw G H a k K l=>?_) (fun v6=>?_)
   ·obtain rfl:v5=_:=k 5 s_;have o:q_ w xw:=a.b;obtain ⟨q0,q1,q2,q3⟩:=kt4 (o.block _ ah) r0 r1 r2 r3;go_simp;exact l D _ xw (a.pure 6 rfl rfl rfl) (fun _ _ h=>h) rfl
   simp only[ly];refine qE fun v7=>qE fun v8=>?_;simp only[ly];refine h_ (fun D J xw G H a k K l=>?_) (fun v9=>?_)
   ·obtain rfl:v7=_:=k 7 s_;obtain rfl:v8=_:=k 8 s_;have L:q_ w xw:=a.b;go_simp
    go_at_call 48
    refine (a7 _ L).mono ?_;rintro e w1 ⟨rfl,s⟩;exact l D _ w1 (a.step 9 rfl rfl rfl (nds H rfl) s (d_ L s)) (fun j u h=>GG.keep (KG.of_below s) j u h) rfl
   simp only[ly];refine qE fun v10=>qE fun v11=>?_;simp only[ly];refine h_ (fun D J xw G H a k K l=>?_) (fun v12=>?_)
   ·obtain rfl:v11=_:=k 11 s_;have o:q_ w xw:=a.b;have q0:=(c_ (o.block _ aj)).trans rp;go_simp;exact l D _ xw (a.pure 12 rfl rfl rfl) (fun _ _ h=>h) rfl
   simp only[ly];refine qE fun v13=>?_;simp only[ly];refine h_ (fun D J xw G H a k K l=>?_) (fun v14=>?_)
   ·obtain rfl:v0=_:=k 0 s_;obtain rfl:v6=_:=k 6 s_;obtain rfl:v12=_:=k 12 s_;obtain rfl:v13=_:=k 13 s_;have a3:=nds H rfl;obtain ⟨r,t0⟩:=D;obtain rfl:t0=none:=a.nc G;have o:q_ w xw:=a.b;have ab:NK xw (Sg (TB S X gf gr) ((r,none):GH (Nat × Option Addr × Nat))) A (f_ t y.c).kids:=((aa.weak (S':=fun z=>TB S X gf gr z/\z<w.heap.size) (fun z F h=>⟨h,F⟩)).step o).weak (fun z _ h=>⟨h.1,fun e=>by have:=(a.bo z e).1;omega⟩);have hN:=HN.out;simp only[cond] at hN;subst hN;go_simp
    (first | go_at_call 178 | go_at_call 177)
    refine (W t A cap xw _ ht U ab (fun z F=>⟨hT z (by have:=o.size;omega),fun e=>by have:=(a.bo z e).2.1;omega⟩)).mono ?_;rintro e w1 ⟨h',A',cap',rfl,Y,R,P,s⟩;exact l (r,some (h',A',cap')) _ w1 (a.called rfl rfl a3 s (d_ o s) ⟨Y,R⟩) (fun j u h=>GG.keep (KG.ans s) j u h) ⟨(h',A',cap'),rfl,rfl,P⟩
   simp only[ly];refine h_ (fun D J xw G H a k K l=>?_) (fun v15=>?_)
   ·obtain ⟨t0,I,Q,E⟩:=k 14 s_;obtain rfl:v14=_:=Q;go_simp;exact l D _ xw (a.pure 15 rfl rfl rfl) (fun _ _ h=>h) ⟨t0,I,rfl,E⟩
   simp only[ly];refine h_ (fun D J xw G H a k K l=>?_) (fun v16=>?_)
   ·obtain ⟨t0,I,Q,E⟩:=k 15 s_;obtain rfl:v15=_:=Q;go_simp;exact l D _ xw (a.pure 16 rfl rfl rfl) (fun _ _ h=>h) ⟨t0,I,rfl,E⟩
   simp only[ly];refine h_ (fun D J xw G H a k K l=>?_) (fun v17=>?_)
   ·obtain ⟨t0,I,Q,E⟩:=k 15 s_;obtain rfl:v15=_:=Q;go_simp;exact l D _ xw (a.pure 17 rfl rfl rfl) (fun _ _ h=>h) rfl
   simp only[ly];refine h_ (fun D J xw G H a k K l=>?_) (fun v18=>?_)
   ·have a3:=nds H rfl;obtain ⟨r,t0⟩:=D;obtain rfl:r=none:=a.nb G;have o:q_ w xw:=a.b;go_simp;exact l (some xw.heap.size,t0) _ _ (a.boxed rfl rfl a3 o.size _ (heap_alloc_new _ _) (b_ o _)) (fun j u h=>GG.keep (KG.alloc _) j u h) ⟨_,rfl,rfl⟩
   simp only[ly];refine h_ (fun D J xw G H a k K l=>?_) (fun v19=>?_)
   ·obtain ⟨z,Q,F⟩:=k 18 s_;obtain rfl:v18=_:=Q;obtain ⟨t,I,Q,E⟩:=k 16 s_;obtain rfl:v16=_:=Q;obtain ⟨r,t'⟩:=D;obtain rfl:r=some z:=F;obtain rfl:t'=some t:=I;have o:q_ w xw:=a.b;refine cK rfl 58 (.tmp 9) (.tmp 28) rfl rfl #[I_ (t.1:Nat),S_ t.2.1 (f_ t.1 v).kids.length t.2.2,I_ (f_ t.1 v).val,I_ (f_ t.1 v).marks] rfl rfl 58 _ ((a.bo z rfl).2.2 G) L_ rfl (aD) ?_;exact l (some z,some t) undef _ (a.stored (j_ o (a.bo z rfl).1 _) ⟨setRow_heap _ _ _ _ _ _ ((a.bo z rfl).2.2 G),E.kept (by simp [World.setRow]) (fun z' a5 _=>setRow_other _ _ _ _ (fun e=>a5.2 (by rw [e])))⟩) (fun j u h=>GG.keep (KG.store _) j u h) trivial
   simp only[ly];refine qE fun v20=>?_;simp only[ly];refine dD ?_;intro D J wz M a hG;obtain ⟨z,t,rfl,F,E⟩:=a.st (M 19 z_);obtain ⟨z',af,a5⟩:=hG 18 z_;obtain rfl:v18=_:=af;obtain rfl:z=z':=by injection a5
   obtain rfl:v20=_:=hG 20 z_;obtain ⟨b1,b2⟩:=a.an t rfl;have am:=(a.bo z rfl).1;have al:q_ w wz:=a.b;clear hG M a;go_wp2;go_meet
   case rel=>exact ⟨z,t,rfl,rfl,am,b1,b2,F,E,al⟩
  case rest=>
   obtain ⟨Z,⟨h',A',cap'⟩,rfl,rfl,ap,Y,R,hZ,P,a2⟩:=hcut
   dsimp only at Y R hZ P
   have ao:=p_ h.box;have HB:=H_ ((h.weak (S':=fun z=>S z/\z≠Z) (fun z F hs=>⟨hs,O_⟩)).step a2);have ac:=H_ (P.weak (S':=TB (fun z=>S z/\z≠Z) X gf gr) (fun z _ F=>⟨⟨F.1.1,fun e=>F.2 (by rw [e])⟩,F.1.2⟩));have ad:=H_ a2;have ag:=p_ hZ;have ae:=H_ hZ;obtain ⟨V,hV⟩:=aZ wc;subst hV;clear hZ P a2 W r0 r1 r2 r3 rp O a7 aa
   go_upto_region 5 with fail
   have O:=fun w' (hb:q_ V w')=>xQ i j x (HB.step hb) hi hl hj a9;obtain ⟨u0,u1,u2,u3⟩:=iH ae.out;refine T_ 6 38 [SP.eq (P_ X),SP.eq (I_ ((i:Int)+1)),SP.eq (.pointer (some ⟨gf,j*15,none⟩)),SP.eq (oD (h':Nat) A' (f_ h' v).kids.length cap' (f_ h' v).val (f_ h' v).marks),SP.eq (.pointer (some ⟨gf,j*15,none⟩)),SP.eq (.pointer (some ⟨gf,j*15+2,none⟩))] s_ s_ rfl ?_;simp only[vK];refine e_ (fun x' a k K l=>?_) (fun v0=>?_)
   ·skip
    go_simp;exact l _ _ a B_ rfl
   simp only[ly];refine e_ (fun x' a k K l=>?_) (fun v1=>?_)
   ·skip
    go_simp;exact l _ _ a B_ rfl
   simp only[ly];refine e_ (fun x' a k K l=>?_) (fun v2=>?_)
   ·obtain rfl:v0=_:=k 0 s_;obtain rfl:v1=_:=k 1 s_;go_simp
    go_at_call 66
    refine (O _ a).mono ?_;rintro e w1 ⟨rfl,s⟩;exact l _ _ (d_ a s) s rfl
   simp only[ly];refine e_ (fun x' a k K l=>?_) (fun v3=>?_)
   ·have o:q_ V x':=a;obtain ⟨q0,q1,q2,q3⟩:=kt4 (o.block _ ag) u0 u1 u2 u3;go_simp;exact l _ _ a B_ rfl
   simp only[ly];refine e_ (fun x' a k K l=>?_) (fun v4=>?_)
   ·obtain rfl:v2=_:=k 2 s_;go_simp;exact l _ _ a B_ rfl
   simp only[ly];refine e_ (fun x' a k K l=>?_) (fun v5=>?_)
   ·obtain rfl:v4=_:=k 4 s_;go_simp;exact l _ _ a B_ rfl
   simp only[ly];refine aA ?_;intro x5 a hG;obtain rfl:v3=_:=hG 3 O_;obtain rfl:v5=_:=hG 5 O_;have HC:=H_ (show q_ V x5 from a);have a1:=H_ (HB.step HC);clear hG a O u0 u1 u2 u3;have ai:=bK hy;have ak:=a1.files.there (i:=j) (p:=2) (n:=4) ai O_
   go_wp2_with (refine pF rfl 58 (.tmp 37) (.tmp 35) rfl gf (j*15+2) #[I_ (h':Int),S_ A' (f_ h' v).kids.length cap',I_ (f_ h' v).val,I_ (f_ h' v).marks] rfl rfl ak L_ (aD) ?_)
   go_end0
   refine ⟨⟨_,rfl⟩,((a1.putFiles (J_ x5 gf (j*15+2) _) (LW.tree a1.files hy a0 Y R (ac.step HC.out)) z_).weak (fun z _ F=>F.1)),bF (bV (d_ ad.out HC.out) _) (J_ x5 gf (j*15+2) _)⟩
theorem oJ {f g:Value} (i j:Nat) (x:Fr) (y:Fl) (h:Bd w S B X gf nf cf gr nr cr c d e f g C) (hi:C.frames[i]?=some x) (hl:nr<=100) (hj:x.file=j) (hy:C.files[j]?=some y) (hk:zE x y) (hS:∀z,w.heap.size<=z->S z) :
  C_ 51 #[P_ X,I_ ((i:Int)+1)] w (hr_ S B X gf nf cf gr nr cr c d e f g {C with files:=eW C.files j y x} w):=by
 have k:=jU i x h hi hl;have n:=fun w' (hb:q_ w w')=>bV_ i j 1 (x.pg.dirty != 0) (h.step hb) hi hl hj hy rfl hk (fun z F=>hS z (by have:=hb.size;omega));have v:=h.frames.frame_at hi 4 _ rfl;have o:=h.frames.lt;have D:=h.n3;go_enter func51,ntmps51
 go_upto_region 1 with (first
  | (go_at_call 48;refine CM k ?_;rintro e w1 ⟨rfl,a⟩;replace v:=(c_ (a.block _ o)).trans v)
  | (go_at_call 121;refine CM (n _ a) ?_;rintro e w2 ⟨⟨v2,rfl⟩,q,m⟩))
 have h2:Bd w2 S B X gf nf cf gr nr cr c d e f g _:=q;have E:w.heap.size<=w2.heap.size:=dO a.size m.size;have l:=jU i x h2 hi hl;have u:(C.files.set j {y with c:=yZ (x.pg.dirty != 0) y.c x.page 1})[j]?=some {y with c:=yZ (x.pg.dirty != 0) y.c x.page 1}:=nU (bK hy)
 have t:=fun w' (hb:q_ w2 w')=>bV_ i j 2 (x.writing != 0) (h2.step hb) hi hl hj u rfl (hk.mark rfl _) (fun z F=>hS z (by have:=hb.size;omega));have A:=h2.frames.frame_at hi 8 _ rfl;have p:=h2.frames.lt;clear k n v o
 go_wp2_with (first
  | (go_at_call 48;refine CM l ?_;rintro e w3 ⟨rfl,b⟩;replace A:=(c_ (b.block _ p)).trans A)
  | (go_at_call 121;refine CM (t _ b) ?_;rintro e w4 ⟨⟨v4,rfl⟩,r,s⟩))
 go_end0
 refine ⟨⟨_,rfl⟩,?_,bF (bF (bV a _) m) (bF (bV b _) s)⟩;have e:eW C.files j y x=(C.files.set j {y with c:=yZ (x.pg.dirty != 0) y.c x.page 1}).set j {y with c:=yZ (x.writing != 0) (yZ (x.pg.dirty != 0) y.c x.page 1) x.page 2}:=by
  rw [List.set_set]
  rfl
 rw [e];exact r
end
section
theorem eM_ (w:World):C_ 191 #[I_ 128] w (nK (I_ 7) w):=by
 go_enter func191,ntmps191;go_wp2;go_ret;exact ⟨rfl,rfl⟩
theorem au_ (s:Int) (w:World) (h:0<=s/\s<7):C_ 140 #[I_ s] w (nK (.bool true) w):=by
 obtain ⟨h1,h2⟩:=h;have hs:=fun w=>eM_ w;go_enter func140,ntmps140
 go_wp2_with (go_at_call 191;(with_reducible refine CM (hs _) ?_);rintro e w1 ⟨rfl,rfl⟩)
 go_ret;exact ⟨rfl,rfl⟩
theorem vU (s p:Int) (w:World) (h:0<=s/\s<7) (hp:0<=p/\p<8):C_ 117 #[I_ s,I_ p] w (nK (I_ (s*18+2+p*2)) w):=by
 have a:=fun w=>au_ s w h;obtain ⟨h1,h2⟩:=h;obtain ⟨h3,b⟩:=hp;have w1:=fA (x:=s*18) O_;have w2:=fA (x:=s*18+2) O_;have w3:=fA (x:=p*2) O_;have w4:=fA (x:=s*18+2+p*2) O_;go_enter func117,ntmps117
 go_wp2_with (go_at_call 140;(with_reducible refine CM (a _) ?_);rintro e w1 ⟨rfl,rfl⟩)
 go_ret;exact ⟨rfl,rfl⟩
theorem uR (s p:Int) (w:World) (h:0<=s/\s<7) (hp:0<=p/\p<2):C_ 76 #[I_ s,I_ p] w (nK (I_ (s*18+p)) w):=by
 have a:=fun w=>au_ s w h;obtain ⟨h1,h2⟩:=h;obtain ⟨h3,b⟩:=hp;have w1:=fA (x:=s*18) O_;have w2:=fA (x:=s*18+p) O_;go_enter func76,ntmps76
 go_wp2_with (go_at_call 140;(with_reducible refine CM (a _) ?_);rintro e w1 ⟨rfl,rfl⟩)
 go_ret;exact ⟨rfl,rfl⟩
theorem dY_ (fi co Bx:Nat) (cs:Array Value) (d:ByteArray) (w:World) (hB:w.cell? ⟨Bx,2,none⟩=some (.string d)) (h1:fi<=1) (h2:fi+co<=2) (hd:d.size=16) :
  C_ 47 #[I_ (fi:Int),I_ (co:Int),P_ Bx] w (iJ (.string (d.extract (fi*8) ((fi+co)*8))) w):=by
 have a:d.size<=16:=O_
 have b:16<=d.size:=O_
 have f:(fi:Int)*8<=((fi:Int)+(co:Int))*8:=O_
 have g:((fi:Int)+(co:Int))*8<=(d.size:Int):=O_
 have c:(0:Int)<=(fi:Int)*8:=O_
 have w1:=fA (x:=(fi:Int)*8) O_;have w2:=fA (x:=(fi:Int)+(co:Int)) O_;have w3:=fA (x:=((fi:Int)+(co:Int))*8) O_;clear hd;go_enter func47,ntmps47;go_wp2;go_ret;exact ⟨rfl,aI _ _⟩
theorem el_ {a b:Int} (w:World):C_ 71 #[I_ a,I_ b] w (iJ (.string ⟨#[]⟩) w):=by
 go_enter func71,ntmps71;go_wp2;go_ret;exact ⟨rfl,aI _ _⟩
def PgK (K:Nat) (cs:Array Value):Prop:=(∃Bx:Nat,K=47/\cs=#[P_ Bx])\/(K=71/\cs=#[])
theorem e4_ (fi co:Int) (hK:PgK K cs) (d:ByteArray) {Bd Bi Bc:Nat} (h0:w.cell? ⟨Bd,0,none⟩=some (.func (.func K) #[] cs)) (h1:w.cell? ⟨Bi,0,none⟩=some (I_ fi)) (h2:w.cell? ⟨Bc,0,none⟩=some (I_ co))
  (hd:Calls prog K (#[I_ fi,I_ co] ++ cs) w (iJ (.string d) w)) :
  C_ 118 #[P_ Bd,P_ Bi,P_ Bc] w (iJ (.string d) w):=by
 rcases hK with ⟨Bx,rfl,rfl⟩ | ⟨rfl,rfl⟩
 all_goals
  go_enter func118,ntmps118
  go_wp2_with (first
   | (go_at_call 47;refine CM hd ?_;rintro e w1 ⟨rfl,a⟩)
   | (go_at_call 71;refine CM hd ?_;rintro e w1 ⟨rfl,a⟩))
  go_ret;exact ⟨rfl,a⟩
def RqK (K:Nat) (cs:Array Value):Prop:=(∃Bd Bi Bc:Nat,K=118/\cs=#[P_ Bd,P_ Bi,P_ Bc])\/(∃Bd Bi:Nat,K=77/\cs=#[P_ Bd,P_ Bi])
theorem uY (dev slot kind dZ cnt:Int) (hKK:RqK K cs) (d:ByteArray) (w:World) (hd:∀w',q_ w w'->Calls prog K cs w' (iJ (.string d) w')) :
  C_ 75 #[.agg #[I_ dev,I_ slot],I_ kind,I_ dZ,I_ cnt,.func (.func K) #[] cs] w (iJ (.agg (bJ 0 0 dev kind dZ cnt d false false 0)) w):=by
 go_enter func75,ntmps75
 go_upto_region 1 with fail
 generalize hW9:(w.alloc _).alloc _=V;obtain ⟨l,n,k,o⟩:=fV hW9;clear hW9 o;have x0:=xV l;have g:=p_ l;refine T_ 8 19 [SP.eq (P_ (w)),SP.eq (I_ dev),SP.eq (I_ kind),SP.eq (I_ dZ),SP.eq (I_ cnt),SP.eq (.func (.func K) #[] cs),SP.eq (.string d),SP.eq (.agg (bJ 0 0 dev kind dZ cnt d false false 0))] s_ s_ rfl ?_;simp only[vK];refine qC fun v0=>?_;simp only[ly];refine e_ (fun x a hd K f=>?_) (fun v1=>?_)
 ·obtain rfl:v0=_:=hd 0 s_;have p:=(c_ ((show q_ V x from a).block _ g)).trans x0;go_simp;exact f _ _ a B_ rfl
 simp only[ly];refine qC fun v2=>qC fun v3=>?_;simp only[ly];refine qC fun v4=>qC fun v5=>?_;simp only[ly];refine e_ (fun x a i K f=>?_) (fun v6=>?_)
 ·obtain rfl:v5=_:=i 5 s_
  rcases hKK with ⟨Bd,Bi,Bc,rfl,rfl⟩ | ⟨Bd,Bi,rfl,rfl⟩
  all_goals
   go_simp;refine (hd x (d_ k a)).mono ?_;rintro e w1 ⟨rfl,c⟩;exact f _ _ (d_ a c) c rfl
 simp only[ly];refine qC fun v7=>?_;simp only[ly];refine aA ?_;intro x a m;obtain rfl:v7=_:=m 7 O_;have j:=H_ (show q_ V x from a);have b:=H_ (i_ n j);clear m a
 go_wp2_with (refine cV rfl 37 (.tmp 10) (.tmp 18) rfl rfl (w+1) (bJ 0 0 dev kind dZ cnt d false false 0) rfl rfl 37 _ b bT rfl (dX) ?_)
 show bodyPost prog f75 _ _ _ _
 refine bodyPost_ret (fm_ rfl rfl (setRow_heap _ _ _ _ _ _ b)) rfl ?_;exact ⟨rfl,j_ (d_ k.out j.out) O_ _⟩
end
end Go.Proofs.YtehfhnbpnaiogaaGreatDoor
