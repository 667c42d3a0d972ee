/-
  Lemmas and contracts for the laws of synchronisations (layer 43), part 13; several texts joined by a program.
-/
import Derived.Test.YthhekebemmckcaaGreatDoorJ01
import Derived.Test.YthhekebemmckcaaGreatDoorJ12
namespace Go.Proofs.YthhekebemmckcaaGreatDoor
set_option linter.unusedVariables false
set_option linter.unusedSimpArgs false
set_option maxRecDepth 100000
set_option maxHeartbeats 16000000
open Go.RowKit
section
def RetPs (L:List Pt) (S:Nat→Prop) (w:World) (e:Ending) (w':World):Prop:=∃v,e = .returned v∧LA PtR w' S v L∧Below w.heap.size w w'
def RetPE (L:List Pt) (err:Int) (S:Nat→Prop) (w:World) (e:Ending) (w':World):Prop:=∃v,e = .returned (.tuple #[v,.int .i64 err])∧LA PtR w' S v L∧Below w.heap.size w w'
def dropP (L:List Pt) (f:Int):List Pt:=L.filter (fun p=>p.frame != f)
theorem dropP_take {L:List Pt} {f:Int} {k:Nat} {x:Pt} (h:L[k]?=some x):dropP (L.take (k+1)) f=dropP (L.take k) f ++ if x.frame != f then [x] else []:=by
 unfold dropP
 rw [List.take_add_one,h,Option.toList_some,List.filter_append,List.filter_cons,List.filter_nil]
theorem dropP_len (L:List Pt) (f:Int):(dropP L f).length≤L.length:=List.length_filter_le _ _
theorem drop_w (L:List Pt) (f:Int) (v:Value) (S:Nat→Prop) (w:World) (h:LA PtR w S v L) (ok:PtsOk L) (hS:∀b,w.heap.size≤b→S b):Calls Tryz.prog 134 #[v,.int .i64 f] w (RetPs (dropP L f) S w):=by
 obtain ⟨A,cap,rfl,hc,hm⟩:=h.form
 have hck:=ptsCheck_w L _ S w h ok
 have hlen:=ok.len
 have H:=H_ h
 clear h ok
 unfold maxLen at hm
 go_enter Tryz.func134,Tryz.ntmps134
 go_wp2_with (go_at_call 132;(with_reducible refine CM (hck) ?_);rintro e w1 ⟨rfl,hb1⟩;have HB1:=H_ hb1;clear hb1)
 go_loopw [5,6] (fun u i wx=>∃k:Nat,i = .int .i64 k∧k≤L.length∧LO PtR 163 wx w.heap.size S u (dropP (L.take k) f)∧Below w.heap.size w wx) (fun _ i _=>L.length - (intOf i).toNat)
 case atStart=>exact ⟨0,rfl,by omega,LO.nil _ _ _ _ _,HB1.out⟩
 case round=>
  obtain ⟨k,rfl,hk,ho,hb⟩:=hrel
  have HO:=H_ ho
  have HB:=H_ hb
  clear ho hb
  by_cases hlt:k<L.length
  ·obtain ⟨x,hx⟩:∃x,L[k]?=some x:=⟨_,List.getElem?_eq_getElem hlt⟩
   obtain ⟨b,o,rfl,hbl,c0,c1,c2,c3,c4⟩:=PtA.cells (H.out.step HB.out) hx
   have HX:=H_ (dropP_take (f:=f) hx)
   have hol:=dropP_len (L.take k) f
   rw [List.length_take] at hol
   clear hx
   by_cases hxn:x.frame=f
   ·have HX':=H_ (show dropP (L.take (k+1)) f=dropP (L.take k) f by rw [HX.out];simp [hxn])
    go_wp2
    go_roundw
    case rel=>exact ⟨k+1,by go_num,by omega,by rw [HX'.out];exact HO.out,HB.out⟩
    case measure=>simp [intOf];omega
   ·have HX':=H_ (show dropP (L.take (k+1)) f=dropP (L.take k) f ++ [x] by rw [HX.out];simp [hxn])
    go_wp2_with (at_builtin;go_loud (refine wpList_push PtR pt_el rfl (.tmp 24) (.tmp 29) rfl _ w.heap.size S (dropP (L.take k) f) rfl (HO.out.alloc _) (by have:=HB.out.size;simp;omega) (by omega) _ #[.int .i64 x.proc,.int .i64 x.page,.int .i64 x.frame,.bool x.wr,.bool x.acc] rfl _ (heap_at_new _ _ _ rfl) x rfl ?_);intro v4 w4 hown4 hg4 hat4)
    go_roundw
    case rel=>exact ⟨k+1,by go_num,by omega,by rw [HX'.out];exact hown4,(bl_alloc HB.out _).grown hg4 (bl_alloc HB.out _).size (fun b hb=>(HO.out.own hb).1)⟩
    case measure=>simp [intOf];omega
  ·obtain rfl:k=L.length:=by omega
   rw [List.take_length] at HO
   go_wp2
   go_ret
   exact ⟨_,rfl,HO.out.la (fun _ _ h=>h) hS,HB.out⟩
def shutP (f:Int) (p:Pt):Pt:=if p.frame=f then {p with wr:=false} else p
def shutK (L:List Pt) (f:Int) (k:Nat):List Pt:=(L.take k).map (shutP f) ++ L.drop k
theorem set_self {α:Type} {l:List α} {k:Nat} {x:α} (h:l[k]?=some x):l.set k x=l:=by
 obtain ⟨hk,rfl⟩:=List.getElem?_eq_some_iff.1 h
 exact List.set_getElem_self hk
theorem shutK_at {L:List Pt} {f:Int} {k:Nat} {x:Pt} (h:L[k]?=some x):(shutK L f k)[k]?=some x∧(shutK L f k).set k (shutP f x)=shutK L f (k+1):=by
 obtain ⟨hk,rfl⟩:=List.getElem?_eq_some_iff.1 h
 have hl:((L.take k).map (shutP f)).length=k:=by rw [List.length_map,List.length_take];omega
 unfold shutK
 constructor
 ·rw [List.getElem?_append_right (by omega),hl,Nat.sub_self,List.getElem?_drop];simp
 ·rw [List.set_append_right _ _ (by omega),hl,Nat.sub_self,List.drop_eq_getElem_cons hk,List.set_cons_zero,List.take_add_one,List.getElem?_eq_getElem hk]
  simp only [Option.toList_some,List.map_append,List.map_cons,List.map_nil,List.append_assoc,List.singleton_append]
theorem shutK_len (L:List Pt) (f:Int) (k:Nat):(shutK L f k).length=L.length:=by unfold shutK;simp;omega
theorem shutK_end (L:List Pt) (f:Int):shutK L f L.length=L.map (shutP f):=by unfold shutK;rw [List.take_length,List.drop_length,List.append_nil]
theorem protect_w (L:List Pt) (f:Int) (v:Value) (S:Nat→Prop) (w:World) (h:LA PtR w S v L) (ok:PtsOk L) (hS:∀b,w.heap.size≤b→S b):Calls Tryz.prog 91 #[v,.int .i64 f] w (RetPs (L.map (shutP f)) S w):=by
 obtain ⟨A,cap,rfl,hc,hm⟩:=h.form
 have hck:=ptsCheck_w L _ S w h ok
 have hlen:=ok.len
 have H:=H_ h
 clear h ok
 unfold maxLen at hm
 go_enter Tryz.func91,Tryz.ntmps91
 go_upto_region 4 with (first
  | (go_at_call 132;(with_reducible refine CM (hck) ?_);rintro e w1 ⟨rfl,hb1⟩;have HB1:=H_ hb1;clear hb1)
  | (at_builtin;go_loud (refine wpList_copy PtR pt_el rfl _ _ rfl rfl _ S L rfl (H.out.step HB1.out) (by omega) ?_);intro v4 w4 hown4 hg4))
 have hB4:=HB1.out.grown hg4 HB1.out.size (fun b hb=>by cases hb)
 have HB4:=H_ hB4
 have HO4:=H_ (hown4.base_le HB1.out.size)
 clear hown4 hg4 hB4
 by_cases hL:L=[]
 ·subst hL
  obtain ⟨A4,cap4,rfl,q1,q2⟩:=(HO4.out.la (S':=Any) (fun _ _ _=>trivial) (fun _ _=>trivial)).form
  go_wp2
  go_loopw [6] (fun i wx=>i = .int .i64 0∧wx=w4) (fun i _=>0)
  case atStart=>exact ⟨rfl,rfl⟩
  case round=>
   obtain ⟨rfl,rfl⟩:=hrel
   go_wp2
   go_ret
   exact ⟨_,rfl,HO4.out.la (fun _ _ h=>h) hS,HB4.out⟩
 ·obtain ⟨G,cp,rfl,q1,q2,q3,hlw⟩:=HO4.out.lw (List.length_pos_iff.2 hL)
  have HW:=H_ (show LW PtR w4 (fun b=>S b∧b≠G) G (shutK L f 0) by unfold shutK;simpa using hlw)
  clear hlw HO4 hL
  unfold maxLen at q2
  go_wp2
  go_loopw [6] (fun i wx=>∃k:Nat,i = .int .i64 k∧k≤L.length∧LW PtR wx (fun b=>S b∧b≠G) G (shutK L f k)∧Below w.heap.size w wx) (fun i _=>L.length - (intOf i).toNat)
  case atStart=>exact ⟨0,rfl,by omega,HW.out,HB4.out⟩
  case round=>
   obtain ⟨k,rfl,hk,hw,hb⟩:=hrel
   have HB:=H_ hb
   have HWK:=H_ hw
   by_cases hlt:k<L.length
   ·obtain ⟨x,hx⟩:∃x,L[k]?=some x:=⟨_,List.getElem?_eq_getElem hlt⟩
    obtain ⟨hxk,hset⟩:=shutK_at (f:=f) hx
    obtain ⟨r,hr,hc⟩:=hw.at_ hxk
    have hr:r=x.row:=hr
    subst hr
    have c2:wr.cell? ⟨G,k*5+2,none⟩=some (.int .i64 x.frame):=hc 2 _ rfl
    have c3:wr.cell? ⟨G,k*5+3,none⟩=some (.bool x.wr):=hc 3 _ rfl
    have f3:=(hw.slot (i:=k) (p:=3) (by rw [shutK_len];exact hlt) (by omega)).2
    have HXK:=H_ hxk
    have HSET:=H_ hset
    clear hx hxk hset hc hw hb
    by_cases hxf:x.frame=f
    ·have HS':=H_ (show shutP f x={x with wr:=false} by unfold shutP;rw [if_pos hxf])
     go_wp2
     go_roundw
     case rel=>exact ⟨k+1,by go_num,by omega,by
      have:=HWK.out.setOne (i:=k) (p:=3) (a:=x) (a':={x with wr:=false}) (v:= .bool false) HXK.out (by omega) rfl (fun r hr=>by
       have hr:r=x.row:=hr
       subst hr
       rfl)
      rw [←HS'.out,HSET.out] at this
      exact this,bl_set HB.out _ _ q3⟩
     case measure=>simp [intOf];omega
    ·have HS':=H_ (show shutP f x=x by unfold shutP;rw [if_neg hxf])
     go_wp2
     go_roundw
     case rel=>exact ⟨k+1,by go_num,by omega,by
      have:=HWK.out
      rw [←HSET.out,HS'.out,set_self HXK.out]
      exact this,HB.out⟩
     case measure=>simp [intOf];omega
   ·obtain rfl:k=L.length:=by omega
    clear hw hb
    go_wp2
    go_ret
    refine ⟨_,rfl,?_,HB.out⟩
    have:=HWK.out.la (S':=S) (cap:=cp) (hS G q3) (fun b _ h=>h.1) (by rw [shutK_len];exact q1) (by unfold maxLen;exact q2)
    rw [shutK_len,shutK_end] at this
    exact this
end
section
theorem lessP_trans {a b c:Pt} (h1:lessP a b=true) (h2:lessP b c=true):lessP a c=true:=by
 have h1:=of_decide_eq_true h1
 have h2:=of_decide_eq_true h2
 exact dT (by omega)
theorem lessP_asym {a b:Pt} (h1:lessP a b=true):lessP b a=false:=by
 have h1:=of_decide_eq_true h1
 exact dF (by omega)
def enterP (L:List Pt) (e:Pt):List Pt:=L.filter (lessP · e) ++ e :: L.filter (lessP e ·)
def enterK (L:List Pt) (e:Pt) (k:Nat) (d:Bool):List Pt:=if d then enterP (L.take k) e else L.take k
def enterB (L:List Pt) (e:Pt) (k:Nat) (d:Bool):Prop:=if d then ∃y ∈ L.take k,lessP y e=false else ∀y ∈ L.take k,lessP y e=true
theorem enterP_snoc {l:List Pt} {e x:Pt} (h:lessP x e=false):enterP (l ++ [x]) e=enterP l e ++ if lessP e x then [x] else []:=by
 unfold enterP
 rw [List.filter_append,List.filter_append,List.filter_cons,List.filter_cons,List.filter_nil,List.filter_nil,h]
 simp
theorem enterP_all {l:List Pt} {e:Pt} (h:∀y ∈ l,lessP y e=true):enterP l e=l ++ [e]:=by
 unfold enterP
 rw [List.filter_eq_self.2 h,List.filter_eq_nil_iff.2 (fun y hy=>by rw [lessP_asym (h y hy)];simp)]
theorem take_snoc {α:Type} {L:List α} {k:Nat} {x:α} (hx:L[k]?=some x):L.take (k+1)=L.take k ++ [x]:=by rw [List.take_add_one,hx];rfl
theorem asc_at {L:List Pt} (h:L.Pairwise (fun a b=>lessP a b=true)) {k:Nat} {x y:Pt} (hx:L[k]?=some x) (hy:y ∈ L.take k):lessP y x=true:=by
 obtain ⟨hk,rfl⟩:=List.getElem?_eq_some_iff.1 hx
 obtain ⟨i,hi,rfl⟩:=List.getElem_of_mem hy
 rw [List.length_take] at hi
 rw [List.getElem_take]
 exact List.pairwise_iff_getElem.1 h i k (by omega) hk (by omega)
theorem enterB.t {L:List Pt} {e x:Pt} {k:Nat} (h:L.Pairwise (fun a b=>lessP a b=true)) (hb:enterB L e k true) (hx:L[k]?=some x):lessP x e=false∧enterB L e (k+1) true∧enterK L e (k+1) true=enterK L e k true ++ if lessP e x then [x] else []:=by
 obtain ⟨y,hy,hye⟩:=hb
 have h1:lessP x e=false:=by
  cases hxe:lessP x e with
  | false=>rfl
  | true=>rw [lessP_trans (asc_at h hx hy) hxe] at hye;cases hye
 refine ⟨h1,⟨y,by rw [take_snoc hx];exact List.mem_append_left _ hy,hye⟩,?_⟩
 show enterP (L.take (k+1)) e=_
 rw [take_snoc hx,enterP_snoc h1]
 rfl
theorem enterB.f {L:List Pt} {e x:Pt} {k:Nat} (hb:enterB L e k false) (hx:L[k]?=some x) (hl:lessP x e=true):enterB L e (k+1) false∧enterK L e (k+1) false=enterK L e k false ++ [x]:=by
 refine ⟨fun y hy=>?_,take_snoc hx⟩
 rw [take_snoc hx] at hy
 rcases List.mem_append.1 hy with hy | hy
 ·exact hb y hy
 ·simp at hy;subst hy;exact hl
theorem enterB.now {L:List Pt} {e x:Pt} {k:Nat} (hb:enterB L e k false) (hx:L[k]?=some x) (hl:lessP x e=false):enterB L e (k+1) true∧enterK L e (k+1) true=(enterK L e k false ++ [e]) ++ if lessP e x then [x] else []:=by
 refine ⟨⟨x,by rw [take_snoc hx];simp,hl⟩,?_⟩
 show enterP (L.take (k+1)) e=_
 rw [take_snoc hx,enterP_snoc hl,enterP_all hb]
 rfl
theorem enterB.endT {L:List Pt} {e:Pt}:enterK L e L.length true=enterP L e:=by show enterP (L.take L.length) e=_;rw [List.take_length]
theorem enterB.endF {L:List Pt} {e:Pt} (h:enterB L e L.length false):enterK L e L.length false ++ [e]=enterP L e:=by
 show L.take L.length ++ [e]=_
 have h':∀y ∈ L.take L.length,lessP y e=true:=h
 rw [List.take_length] at h' ⊢
 exact (enterP_all h').symm
theorem enterK_len (L:List Pt) (e:Pt) (k:Nat) (d:Bool):(enterK L e k d).length≤2*L.length+1:=by
 unfold enterK
 split
 ·unfold enterP
  have h1:=List.length_filter_le (lessP · e) (L.take k)
  have h2:=List.length_filter_le (lessP e ·) (L.take k)
  have h3:(L.take k).length≤L.length:=by rw [List.length_take];omega
  rw [List.length_append,List.length_cons]
  omega
 ·rw [List.length_take];omega
theorem PtsOk.enter {L:List Pt} {e:Pt} (h:PtsOk L) (he:rightP e):PtsOk (enterP L e):=by
 refine ⟨fun p hp=>?_,?_⟩
 ·unfold enterP at hp
  rcases List.mem_append.1 hp with hp | hp
  ·exact h.each p (List.mem_filter.1 hp).1
  ·rcases List.mem_cons.1 hp with rfl | hp
   ·exact he
   ·exact h.each p (List.mem_filter.1 hp).1
 ·unfold enterP
  rw [List.pairwise_append,List.pairwise_cons]
  refine ⟨h.asc.filter _,⟨fun y hy=>(List.mem_filter.1 hy).2,h.asc.filter _⟩,fun a ha b hb=>?_⟩
  have h1:=(List.mem_filter.1 ha).2
  rcases List.mem_cons.1 hb with rfl | hb
  ·exact h1
  ·exact lessP_trans h1 (List.mem_filter.1 hb).2
theorem PtsOk.drop {L:List Pt} (h:PtsOk L) (f:Int):PtsOk (dropP L f):=⟨fun p hp=>h.each p (List.mem_filter.1 hp).1,h.asc.filter _⟩
theorem PtsOk.shut {L:List Pt} (h:PtsOk L) (f:Int):PtsOk (L.map (shutP f)):=by
 have h0:∀p,(shutP f p).proc=p.proc∧(shutP f p).page=p.page∧(shutP f p).frame=p.frame:=fun p=>by unfold shutP;split <;> exact ⟨rfl,rfl,rfl⟩
 refine ⟨fun p hp=>?_,?_⟩
 ·obtain ⟨q,hq,rfl⟩:=List.mem_map.1 hp
  obtain ⟨e1,e2,e3⟩:=h0 q
  have:=h.each q hq
  unfold rightP at this ⊢
  rw [e1,e2,e3];exact this
 ·rw [List.pairwise_map]
  refine h.asc.imp fun {a b} hab=>?_
  obtain ⟨e1,e2,_⟩:=h0 a
  obtain ⟨e4,e5,_⟩:=h0 b
  unfold lessP at hab ⊢
  rw [e1,e2,e4,e5];exact hab
theorem gb_keep {w w':World} {r:Option Nat} {g:Nat} {o:Obj} (hg:w.grownBy w' r) (h:w.heap[g]?=some o) (hn:r≠some g):w'.heap[g]?=some o:=(hg.block g (bk_lt h) (fun e=>hn e.symm)).trans h
theorem penter_w (L:List Pt) (e:Pt) (v:Value) (S:Nat→Prop) (w:World) (h:LA PtR w S v L) (ok:PtsOk L) (he:rightP e) (hS:∀b,w.heap.size≤b→S b) :
  Calls Tryz.prog 100 #[v,ptV e.proc e.page e.frame e.wr e.acc] w (RetPE (enterP L e) 0 S w):=by
 obtain ⟨A,cap,rfl,hc,hm⟩:=h.form
 have hck:=fun w' (hb:Below w.heap.size w w')=>ptsCheck_w L _ S w' (h.step hb) ok
 have hri:=fun w'=>pright_w e.proc e.page e.frame e.wr e.acc w' he
 have hlen:=ok.len
 have H:=H_ h
 have ASC:=H_ ok.asc
 have HE:=H_ (heap_alloc_at w (.cells #[.int .i64 e.proc,.int .i64 e.page,.int .i64 e.frame,.bool e.wr,.bool e.acc] 163))
 have HB:=H_ (bl_alloc (Below.refl w.heap.size w) (.cells #[.int .i64 e.proc,.int .i64 e.page,.int .i64 e.frame,.bool e.wr,.bool e.acc] 163))
 clear h ok he
 unfold maxLen at hm
 go_enter Tryz.func100,Tryz.ntmps100
 go_wp2_with (first
  | (go_at_call 132;(with_reducible refine CM (hck _ HB.out) ?_);rintro e w1 ⟨rfl,hb1⟩;have HB1:=blh HB hb1;have HE1:=bkh HE hb1;clear hb1;obtain ⟨p0,p1,p2,p3,p4⟩:=cs5 HE1.out)
  | (go_at_call 138;(with_reducible refine CM (hri _) ?_);rintro e w2 ⟨rfl,hb2⟩;have HB2:=blh HB1 hb2;have HE2:=bkh HE1 hb2;clear hb2 p0 p1 p2 p3 p4))
 go_loopw [6,7,8] (fun u dv i wx=>∃(k:Nat) (d:Bool),i = .int .i64 k∧dv = .bool d∧k≤L.length∧enterB L e k d∧LO PtR 163 wx (w.heap.size+1) S u (enterK L e k d)∧Below w.heap.size w wx∧wx.heap[w.heap.size]?=some (.cells #[.int .i64 e.proc,.int .i64 e.page,.int .i64 e.frame,.bool e.wr,.bool e.acc] 163 (0,0))) (fun _ _ i _=>L.length - (intOf i).toNat)
 case atStart=>exact ⟨0,false,rfl,rfl,by omega,fun y hy=>by simp at hy,LO.nil _ _ _ _ _,HB2.out,HE2.out⟩
 case round=>
  clear HB1 HB2 HE1 HE2 HB HE
  obtain ⟨k,d,rfl,rfl,hk,hi,ho,hb,he⟩:=hrel
  have HO:=H_ ho
  have HB:=H_ hb
  have HE:=H_ he
  have HI:=H_ hi
  have hkl:=enterK_len L e k d
  have hsz:=hb.size
  have hp:=bk_lt he
  clear ho hb hi he
  obtain ⟨p0,p1,p2,p3,p4⟩:=cs5 HE.out
  by_cases hlt:k<L.length
  ·obtain ⟨x,hx⟩:∃x,L[k]?=some x:=⟨_,List.getElem?_eq_getElem hlt⟩
   obtain ⟨b,o,rfl,hbl,c0,c1,c2,c3,c4⟩:=PtA.cells (H.out.step HB.out) hx
   have HXX:=H_ hx
   clear hx
   cases d with
   | true=>
    obtain ⟨hxe,hB',hK'⟩:=HI.out.t ASC.out HXX.out
    have l1:∀w',Calls Tryz.prog 139 #[ptV x.proc x.page x.frame x.wr x.acc,ptV e.proc e.page e.frame e.wr e.acc] w' (RetB false w'):=fun w'=>by have:=pless_w x.proc x.page x.frame x.wr x.acc e.proc e.page e.frame e.wr e.acc w';rw [show lessP ⟨x.proc,x.page,x.frame,x.wr,x.acc⟩ ⟨e.proc,e.page,e.frame,e.wr,e.acc⟩=false from hxe] at this;exact this
    cases hex:lessP e x with
    | true=>
     have l2:∀w',Calls Tryz.prog 139 #[ptV e.proc e.page e.frame e.wr e.acc,ptV x.proc x.page x.frame x.wr x.acc] w' (RetB true w'):=fun w'=>by have:=pless_w e.proc e.page e.frame e.wr e.acc x.proc x.page x.frame x.wr x.acc w';rw [show lessP ⟨e.proc,e.page,e.frame,e.wr,e.acc⟩ ⟨x.proc,x.page,x.frame,x.wr,x.acc⟩=true from hex] at this;exact this
     have HN:=H_ (show enterB L e (k+1) true∧enterK L e (k+1) true=enterK L e k true ++ [x] from ⟨hB',by rw [hK',hex];rfl⟩)
     clear hxe hB' hK' hex
     go_upto_region 10 with fail
     have xe:=ext_cell wr
     refine wp_region_ext (by kernel_rfl) (by kernel_rfl) ?_
     repeat (go_big_quiet_step ((first | (with_reducible exact ext_call (l1 _)) | (with_reducible exact ext_call (l2 _)))))
     refine wpQuiet_nil ?_
     rintro w' ⟨z,rfl⟩
     have hbz:=below_ext wr z
     clear xe
     generalize ext wr z=V at hbz
     have HOa:=H_ (HO.out.step hbz)
     have HBa:=blh HB hbz
     have HEa:=bkh HE hbz
     have hbla:=Nat.lt_of_lt_of_le hbl hbz.size
     have c0a:=(hbz.cell (p:=⟨b,_,none⟩) hbl).trans c0
     have c1a:=(hbz.cell (p:=⟨b,_,none⟩) hbl).trans c1
     have c2a:=(hbz.cell (p:=⟨b,_,none⟩) hbl).trans c2
     have c3a:=(hbz.cell (p:=⟨b,_,none⟩) hbl).trans c3
     have c4a:=(hbz.cell (p:=⟨b,_,none⟩) hbl).trans c4
     clear hbz c0 c1 c2 c3 c4 p0 p1 p2 p3 p4 hbl
     obtain ⟨p0,p1,p2,p3,p4⟩:=cs5 HEa.out
     have hpa:=bk_lt HEa.out
     have hsza:=HBa.out.size
     go_upto_region 13 with fail
     have xe:=ext_cell V
     refine wp_region_ext (by kernel_rfl) (by kernel_rfl) ?_
     repeat (go_big_quiet_step ((first | (with_reducible exact ext_call (l1 _)) | (with_reducible exact ext_call (l2 _)))))
     refine wpQuiet_nil ?_
     rintro w' ⟨z,rfl⟩
     have hbz:=below_ext V z
     clear xe
     generalize ext V z=V at hbz
     have HOb:=H_ (HOa.out.step hbz)
     have HBb:=blh HBa hbz
     have HEb:=bkh HEa hbz
     have hblb:=Nat.lt_of_lt_of_le hbla hbz.size
     have c0b:=(hbz.cell (p:=⟨b,_,none⟩) hbla).trans c0a
     have c1b:=(hbz.cell (p:=⟨b,_,none⟩) hbla).trans c1a
     have c2b:=(hbz.cell (p:=⟨b,_,none⟩) hbla).trans c2a
     have c3b:=(hbz.cell (p:=⟨b,_,none⟩) hbla).trans c3a
     have c4b:=(hbz.cell (p:=⟨b,_,none⟩) hbla).trans c4a
     clear hbz c0a c1a c2a c3a c4a p0 p1 p2 p3 p4 hbla
     obtain ⟨p0,p1,p2,p3,p4⟩:=cs5 HEb.out
     have hpb:=bk_lt HEb.out
     have hszb:=HBb.out.size
     go_wp2_with (at_builtin;go_loud (refine wpList_push PtR pt_el rfl (.tmp 52) (.tmp 57) rfl _ (w.heap.size+1) S (enterK L e k true) rfl (HOb.out.alloc _) (by simp;omega) (by omega) _ #[.int .i64 x.proc,.int .i64 x.page,.int .i64 x.frame,.bool x.wr,.bool x.acc] rfl _ (heap_at_new _ _ _ rfl) x rfl ?_);intro v5 w5 hown5 hg5 hat5)
     go_roundw
     case rel=>exact ⟨k+1,true,by go_num,rfl,by omega,HN.out.1,by rw [HN.out.2];exact hown5,(bl_alloc HBb.out _).grown hg5 (bl_alloc HBb.out _).size (fun b hb=>by have:=(HOb.out.own hb).1;omega),gb_keep hg5 (bk_alloc HEb.out _) (fun h=>by have:=(HOb.out.own h).1;omega)⟩
     case measure=>simp [intOf];omega
    | false=>
     have l2:∀w',Calls Tryz.prog 139 #[ptV e.proc e.page e.frame e.wr e.acc,ptV x.proc x.page x.frame x.wr x.acc] w' (RetB false w'):=fun w'=>by have:=pless_w e.proc e.page e.frame e.wr e.acc x.proc x.page x.frame x.wr x.acc w';rw [show lessP ⟨e.proc,e.page,e.frame,e.wr,e.acc⟩ ⟨x.proc,x.page,x.frame,x.wr,x.acc⟩=false from hex] at this;exact this
     have HN:=H_ (show enterB L e (k+1) true∧enterK L e (k+1) true=enterK L e k true from ⟨hB',by rw [hK',hex];simp⟩)
     clear hxe hB' hK' hex
     go_upto_region 10 with fail
     have xe:=ext_cell wr
     refine wp_region_ext (by kernel_rfl) (by kernel_rfl) ?_
     repeat (go_big_quiet_step ((first | (with_reducible exact ext_call (l1 _)) | (with_reducible exact ext_call (l2 _)))))
     refine wpQuiet_nil ?_
     rintro w' ⟨z,rfl⟩
     have hbz:=below_ext wr z
     clear xe
     generalize ext wr z=V at hbz
     have HOa:=H_ (HO.out.step hbz)
     have HBa:=blh HB hbz
     have HEa:=bkh HE hbz
     have hbla:=Nat.lt_of_lt_of_le hbl hbz.size
     have c0a:=(hbz.cell (p:=⟨b,_,none⟩) hbl).trans c0
     have c1a:=(hbz.cell (p:=⟨b,_,none⟩) hbl).trans c1
     have c2a:=(hbz.cell (p:=⟨b,_,none⟩) hbl).trans c2
     have c3a:=(hbz.cell (p:=⟨b,_,none⟩) hbl).trans c3
     have c4a:=(hbz.cell (p:=⟨b,_,none⟩) hbl).trans c4
     clear hbz c0 c1 c2 c3 c4 p0 p1 p2 p3 p4 hbl
     obtain ⟨p0,p1,p2,p3,p4⟩:=cs5 HEa.out
     have hpa:=bk_lt HEa.out
     have hsza:=HBa.out.size
     go_upto_region 13 with fail
     have xe:=ext_cell V
     refine wp_region_ext (by kernel_rfl) (by kernel_rfl) ?_
     repeat (go_big_quiet_step ((first | (with_reducible exact ext_call (l1 _)) | (with_reducible exact ext_call (l2 _)))))
     refine wpQuiet_nil ?_
     rintro w' ⟨z,rfl⟩
     have hbz:=below_ext V z
     clear xe
     generalize ext V z=V at hbz
     have HOb:=H_ (HOa.out.step hbz)
     have HBb:=blh HBa hbz
     have HEb:=bkh HEa hbz
     have hblb:=Nat.lt_of_lt_of_le hbla hbz.size
     have c0b:=(hbz.cell (p:=⟨b,_,none⟩) hbla).trans c0a
     have c1b:=(hbz.cell (p:=⟨b,_,none⟩) hbla).trans c1a
     have c2b:=(hbz.cell (p:=⟨b,_,none⟩) hbla).trans c2a
     have c3b:=(hbz.cell (p:=⟨b,_,none⟩) hbla).trans c3a
     have c4b:=(hbz.cell (p:=⟨b,_,none⟩) hbla).trans c4a
     clear hbz c0a c1a c2a c3a c4a p0 p1 p2 p3 p4 hbla
     obtain ⟨p0,p1,p2,p3,p4⟩:=cs5 HEb.out
     have hpb:=bk_lt HEb.out
     have hszb:=HBb.out.size
     go_wp2
     go_roundw
     case rel=>exact ⟨k+1,true,by go_num,rfl,by omega,HN.out.1,by rw [HN.out.2];exact HOb.out,HBb.out,HEb.out⟩
     case measure=>simp [intOf];omega
   | false=>
    cases hxe:lessP x e with
    | true=>
     have HN:=H_ (HI.out.f HXX.out hxe)
     have l1:∀w',Calls Tryz.prog 139 #[ptV x.proc x.page x.frame x.wr x.acc,ptV e.proc e.page e.frame e.wr e.acc] w' (RetB true w'):=fun w'=>by have:=pless_w x.proc x.page x.frame x.wr x.acc e.proc e.page e.frame e.wr e.acc w';rw [show lessP ⟨x.proc,x.page,x.frame,x.wr,x.acc⟩ ⟨e.proc,e.page,e.frame,e.wr,e.acc⟩=true from hxe] at this;exact this
     have l2:∀w',Calls Tryz.prog 139 #[ptV e.proc e.page e.frame e.wr e.acc,ptV x.proc x.page x.frame x.wr x.acc] w' (RetB false w'):=fun w'=>by have:=pless_w e.proc e.page e.frame e.wr e.acc x.proc x.page x.frame x.wr x.acc w';rw [show lessP ⟨e.proc,e.page,e.frame,e.wr,e.acc⟩ ⟨x.proc,x.page,x.frame,x.wr,x.acc⟩=false from lessP_asym hxe] at this;exact this
     clear hxe
     go_upto_region 10 with fail
     have xe:=ext_cell wr
     refine wp_region_ext (by kernel_rfl) (by kernel_rfl) ?_
     repeat (go_big_quiet_step ((first | (with_reducible exact ext_call (l1 _)) | (with_reducible exact ext_call (l2 _)))))
     refine wpQuiet_nil ?_
     rintro w' ⟨z,rfl⟩
     have hbz:=below_ext wr z
     clear xe
     generalize ext wr z=V at hbz
     have HOa:=H_ (HO.out.step hbz)
     have HBa:=blh HB hbz
     have HEa:=bkh HE hbz
     have hbla:=Nat.lt_of_lt_of_le hbl hbz.size
     have c0a:=(hbz.cell (p:=⟨b,_,none⟩) hbl).trans c0
     have c1a:=(hbz.cell (p:=⟨b,_,none⟩) hbl).trans c1
     have c2a:=(hbz.cell (p:=⟨b,_,none⟩) hbl).trans c2
     have c3a:=(hbz.cell (p:=⟨b,_,none⟩) hbl).trans c3
     have c4a:=(hbz.cell (p:=⟨b,_,none⟩) hbl).trans c4
     clear hbz c0 c1 c2 c3 c4 p0 p1 p2 p3 p4 hbl
     obtain ⟨p0,p1,p2,p3,p4⟩:=cs5 HEa.out
     have hpa:=bk_lt HEa.out
     have hsza:=HBa.out.size
     go_upto_region 13 with fail
     have xe:=ext_cell V
     refine wp_region_ext (by kernel_rfl) (by kernel_rfl) ?_
     repeat (go_big_quiet_step ((first | (with_reducible exact ext_call (l1 _)) | (with_reducible exact ext_call (l2 _)))))
     refine wpQuiet_nil ?_
     rintro w' ⟨z,rfl⟩
     have hbz:=below_ext V z
     clear xe
     generalize ext V z=V at hbz
     have HOb:=H_ (HOa.out.step hbz)
     have HBb:=blh HBa hbz
     have HEb:=bkh HEa hbz
     have hblb:=Nat.lt_of_lt_of_le hbla hbz.size
     have c0b:=(hbz.cell (p:=⟨b,_,none⟩) hbla).trans c0a
     have c1b:=(hbz.cell (p:=⟨b,_,none⟩) hbla).trans c1a
     have c2b:=(hbz.cell (p:=⟨b,_,none⟩) hbla).trans c2a
     have c3b:=(hbz.cell (p:=⟨b,_,none⟩) hbla).trans c3a
     have c4b:=(hbz.cell (p:=⟨b,_,none⟩) hbla).trans c4a
     clear hbz c0a c1a c2a c3a c4a p0 p1 p2 p3 p4 hbla
     obtain ⟨p0,p1,p2,p3,p4⟩:=cs5 HEb.out
     have hpb:=bk_lt HEb.out
     have hszb:=HBb.out.size
     go_wp2_with (at_builtin;go_loud (refine wpList_push PtR pt_el rfl (.tmp 52) (.tmp 57) rfl _ (w.heap.size+1) S (enterK L e k false) rfl (HOb.out.alloc _) (by simp;omega) (by omega) _ #[.int .i64 x.proc,.int .i64 x.page,.int .i64 x.frame,.bool x.wr,.bool x.acc] rfl _ (heap_at_new _ _ _ rfl) x rfl ?_);intro v5 w5 hown5 hg5 hat5)
     go_roundw
     case rel=>exact ⟨k+1,false,by go_num,rfl,by omega,HN.out.1,by rw [HN.out.2];exact hown5,(bl_alloc HBb.out _).grown hg5 (bl_alloc HBb.out _).size (fun b hb=>by have:=(HOb.out.own hb).1;omega),gb_keep hg5 (bk_alloc HEb.out _) (fun h=>by have:=(HOb.out.own h).1;omega)⟩
     case measure=>simp [intOf];omega
    | false=>
     have l1:∀w',Calls Tryz.prog 139 #[ptV x.proc x.page x.frame x.wr x.acc,ptV e.proc e.page e.frame e.wr e.acc] w' (RetB false w'):=fun w'=>by have:=pless_w x.proc x.page x.frame x.wr x.acc e.proc e.page e.frame e.wr e.acc w';rw [show lessP ⟨x.proc,x.page,x.frame,x.wr,x.acc⟩ ⟨e.proc,e.page,e.frame,e.wr,e.acc⟩=false from hxe] at this;exact this
     cases hex:lessP e x with
     | true=>
      have l2:∀w',Calls Tryz.prog 139 #[ptV e.proc e.page e.frame e.wr e.acc,ptV x.proc x.page x.frame x.wr x.acc] w' (RetB true w'):=fun w'=>by have:=pless_w e.proc e.page e.frame e.wr e.acc x.proc x.page x.frame x.wr x.acc w';rw [show lessP ⟨e.proc,e.page,e.frame,e.wr,e.acc⟩ ⟨x.proc,x.page,x.frame,x.wr,x.acc⟩=true from hex] at this;exact this
      have HN:=H_ (show enterB L e (k+1) true∧enterK L e (k+1) true=(enterK L e k false ++ [e]) ++ [x] by have:=HI.out.now HXX.out hxe;rw [hex] at this;exact this)
      clear hxe hex
      go_upto_region 10 with fail
      have xe:=ext_cell wr
      refine wp_region_ext (by kernel_rfl) (by kernel_rfl) ?_
      repeat (go_big_quiet_step ((first | (with_reducible exact ext_call (l1 _)) | (with_reducible exact ext_call (l2 _)))))
      refine wpQuiet_nil ?_
      rintro w' ⟨z,rfl⟩
      have hbz:=below_ext wr z
      clear xe
      generalize ext wr z=V at hbz
      have HOa:=H_ (HO.out.step hbz)
      have HBa:=blh HB hbz
      have HEa:=bkh HE hbz
      have hbla:=Nat.lt_of_lt_of_le hbl hbz.size
      have c0a:=(hbz.cell (p:=⟨b,_,none⟩) hbl).trans c0
      have c1a:=(hbz.cell (p:=⟨b,_,none⟩) hbl).trans c1
      have c2a:=(hbz.cell (p:=⟨b,_,none⟩) hbl).trans c2
      have c3a:=(hbz.cell (p:=⟨b,_,none⟩) hbl).trans c3
      have c4a:=(hbz.cell (p:=⟨b,_,none⟩) hbl).trans c4
      clear hbz c0 c1 c2 c3 c4 p0 p1 p2 p3 p4 hbl
      obtain ⟨p0,p1,p2,p3,p4⟩:=cs5 HEa.out
      have hpa:=bk_lt HEa.out
      have hsza:=HBa.out.size
      go_upto_region 13 with (at_builtin;go_loud (refine wpList_push PtR pt_el rfl (.tmp 34) (.tmp 36) rfl _ (w.heap.size+1) S (enterK L e k false) rfl (HOa.out.alloc _) (by simp;omega) (by omega) _ #[.int .i64 e.proc,.int .i64 e.page,.int .i64 e.frame,.bool e.wr,.bool e.acc] rfl _ (heap_at_new _ _ _ rfl) e rfl ?_);intro v4 w4 hown4 hg4 hat4)
      have HOc:=H_ hown4
      have HBc:=H_ ((bl_alloc HBa.out _).grown hg4 (bl_alloc HBa.out _).size (fun b hb=>by have:=(HOa.out.own hb).1;omega))
      have HEc:=H_ (gb_keep hg4 (bk_alloc HEa.out _) (fun h=>by have:=(HOa.out.own h).1;omega))
      have hbw:=(PtA.cells (H.out.step HBc.out) HXX.out)
      obtain ⟨b9,o9,e9,hblc,c0c,c1c,c2c,c3c,c4c⟩:=hbw
      injection e9 with e9
      injection e9 with e91 e92
      subst e91 e92
      clear hown4 hg4 hat4 c0a c1a c2a c3a c4a p0 p1 p2 p3 p4
      obtain ⟨p0,p1,p2,p3,p4⟩:=cs5 HEc.out
      have hpc:=bk_lt HEc.out
      have hszc:=HBc.out.size
      go_upto_region 13 with fail
      have xe:=ext_cell w4
      refine wp_region_ext (by kernel_rfl) (by kernel_rfl) ?_
      repeat (go_big_quiet_step ((first | (with_reducible exact ext_call (l1 _)) | (with_reducible exact ext_call (l2 _)))))
      refine wpQuiet_nil ?_
      rintro w' ⟨z,rfl⟩
      have hbz:=below_ext w4 z
      clear xe
      generalize ext w4 z=V at hbz
      have HOb:=H_ (HOc.out.step hbz)
      have HBb:=blh HBc hbz
      have HEb:=bkh HEc hbz
      have hblb:=Nat.lt_of_lt_of_le hblc hbz.size
      have c0b:=(hbz.cell (p:=⟨b,_,none⟩) hblc).trans c0c
      have c1b:=(hbz.cell (p:=⟨b,_,none⟩) hblc).trans c1c
      have c2b:=(hbz.cell (p:=⟨b,_,none⟩) hblc).trans c2c
      have c3b:=(hbz.cell (p:=⟨b,_,none⟩) hblc).trans c3c
      have c4b:=(hbz.cell (p:=⟨b,_,none⟩) hblc).trans c4c
      clear hbz c0c c1c c2c c3c c4c p0 p1 p2 p3 p4 hblc
      obtain ⟨p0,p1,p2,p3,p4⟩:=cs5 HEb.out
      have hpb:=bk_lt HEb.out
      have hszb:=HBb.out.size
      go_wp2_with (at_builtin;go_loud (refine wpList_push PtR pt_el rfl (.tmp 52) (.tmp 57) rfl _ (w.heap.size+1) S (enterK L e k false ++ [e]) rfl (HOb.out.alloc _) (by simp;omega) (by simp;omega) _ #[.int .i64 x.proc,.int .i64 x.page,.int .i64 x.frame,.bool x.wr,.bool x.acc] rfl _ (heap_at_new _ _ _ rfl) x rfl ?_);intro v5 w5 hown5 hg5 hat5)
      go_roundw
      case rel=>exact ⟨k+1,true,by go_num,rfl,by omega,HN.out.1,by rw [HN.out.2];exact hown5,(bl_alloc HBb.out _).grown hg5 (bl_alloc HBb.out _).size (fun b hb=>by have:=(HOb.out.own hb).1;omega),gb_keep hg5 (bk_alloc HEb.out _) (fun h=>by have:=(HOb.out.own h).1;omega)⟩
      case measure=>simp [intOf];omega
     | false=>
      have l2:∀w',Calls Tryz.prog 139 #[ptV e.proc e.page e.frame e.wr e.acc,ptV x.proc x.page x.frame x.wr x.acc] w' (RetB false w'):=fun w'=>by have:=pless_w e.proc e.page e.frame e.wr e.acc x.proc x.page x.frame x.wr x.acc w';rw [show lessP ⟨e.proc,e.page,e.frame,e.wr,e.acc⟩ ⟨x.proc,x.page,x.frame,x.wr,x.acc⟩=false from hex] at this;exact this
      have HN:=H_ (show enterB L e (k+1) true∧enterK L e (k+1) true=enterK L e k false ++ [e] by have:=HI.out.now HXX.out hxe;rw [hex] at this;simpa using this)
      clear hxe hex
      go_upto_region 10 with fail
      have xe:=ext_cell wr
      refine wp_region_ext (by kernel_rfl) (by kernel_rfl) ?_
      repeat (go_big_quiet_step ((first | (with_reducible exact ext_call (l1 _)) | (with_reducible exact ext_call (l2 _)))))
      refine wpQuiet_nil ?_
      rintro w' ⟨z,rfl⟩
      have hbz:=below_ext wr z
      clear xe
      generalize ext wr z=V at hbz
      have HOa:=H_ (HO.out.step hbz)
      have HBa:=blh HB hbz
      have HEa:=bkh HE hbz
      have hbla:=Nat.lt_of_lt_of_le hbl hbz.size
      have c0a:=(hbz.cell (p:=⟨b,_,none⟩) hbl).trans c0
      have c1a:=(hbz.cell (p:=⟨b,_,none⟩) hbl).trans c1
      have c2a:=(hbz.cell (p:=⟨b,_,none⟩) hbl).trans c2
      have c3a:=(hbz.cell (p:=⟨b,_,none⟩) hbl).trans c3
      have c4a:=(hbz.cell (p:=⟨b,_,none⟩) hbl).trans c4
      clear hbz c0 c1 c2 c3 c4 p0 p1 p2 p3 p4 hbl
      obtain ⟨p0,p1,p2,p3,p4⟩:=cs5 HEa.out
      have hpa:=bk_lt HEa.out
      have hsza:=HBa.out.size
      go_upto_region 13 with (at_builtin;go_loud (refine wpList_push PtR pt_el rfl (.tmp 34) (.tmp 36) rfl _ (w.heap.size+1) S (enterK L e k false) rfl (HOa.out.alloc _) (by simp;omega) (by omega) _ #[.int .i64 e.proc,.int .i64 e.page,.int .i64 e.frame,.bool e.wr,.bool e.acc] rfl _ (heap_at_new _ _ _ rfl) e rfl ?_);intro v4 w4 hown4 hg4 hat4)
      have HOc:=H_ hown4
      have HBc:=H_ ((bl_alloc HBa.out _).grown hg4 (bl_alloc HBa.out _).size (fun b hb=>by have:=(HOa.out.own hb).1;omega))
      have HEc:=H_ (gb_keep hg4 (bk_alloc HEa.out _) (fun h=>by have:=(HOa.out.own h).1;omega))
      have hbw:=(PtA.cells (H.out.step HBc.out) HXX.out)
      obtain ⟨b9,o9,e9,hblc,c0c,c1c,c2c,c3c,c4c⟩:=hbw
      injection e9 with e9
      injection e9 with e91 e92
      subst e91 e92
      clear hown4 hg4 hat4 c0a c1a c2a c3a c4a p0 p1 p2 p3 p4
      obtain ⟨p0,p1,p2,p3,p4⟩:=cs5 HEc.out
      have hpc:=bk_lt HEc.out
      have hszc:=HBc.out.size
      go_upto_region 13 with fail
      have xe:=ext_cell w4
      refine wp_region_ext (by kernel_rfl) (by kernel_rfl) ?_
      repeat (go_big_quiet_step ((first | (with_reducible exact ext_call (l1 _)) | (with_reducible exact ext_call (l2 _)))))
      refine wpQuiet_nil ?_
      rintro w' ⟨z,rfl⟩
      have hbz:=below_ext w4 z
      clear xe
      generalize ext w4 z=V at hbz
      have HOb:=H_ (HOc.out.step hbz)
      have HBb:=blh HBc hbz
      have HEb:=bkh HEc hbz
      have hblb:=Nat.lt_of_lt_of_le hblc hbz.size
      have c0b:=(hbz.cell (p:=⟨b,_,none⟩) hblc).trans c0c
      have c1b:=(hbz.cell (p:=⟨b,_,none⟩) hblc).trans c1c
      have c2b:=(hbz.cell (p:=⟨b,_,none⟩) hblc).trans c2c
      have c3b:=(hbz.cell (p:=⟨b,_,none⟩) hblc).trans c3c
      have c4b:=(hbz.cell (p:=⟨b,_,none⟩) hblc).trans c4c
      clear hbz c0c c1c c2c c3c c4c p0 p1 p2 p3 p4 hblc
      obtain ⟨p0,p1,p2,p3,p4⟩:=cs5 HEb.out
      have hpb:=bk_lt HEb.out
      have hszb:=HBb.out.size
      go_wp2
      go_roundw
      case rel=>exact ⟨k+1,true,by go_num,rfl,by omega,HN.out.1,by rw [HN.out.2];exact HOb.out,HBb.out,HEb.out⟩
      case measure=>simp [intOf];omega
  ·obtain rfl:k=L.length:=by omega
   cases d with
   | true=>
    rw [enterB.endT] at HO
    go_wp2
    go_ret2
    exact ⟨_,rfl,HO.out.la (fun _ _ h=>h) (fun b hb=>hS b (by omega)),HB.out⟩
   | false=>
    have HN:=H_ (HI.out.endF)
    go_wp2_with (at_builtin;go_loud (refine wpList_push PtR pt_el rfl (.tmp 61) (.tmp 63) rfl _ (w.heap.size+1) S (enterK L e L.length false) rfl (HO.out.alloc _) (by simp;omega) (by omega) _ #[.int .i64 e.proc,.int .i64 e.page,.int .i64 e.frame,.bool e.wr,.bool e.acc] rfl _ (heap_at_new _ _ _ rfl) e rfl ?_);intro v4 w4 hown4 hg4 hat4)
    go_ret2
    rw [HN.out] at hown4
    exact ⟨_,rfl,hown4.la (fun _ _ h=>h) (fun b hb=>hS b (by omega)),(bl_alloc HB.out _).grown hg4 (bl_alloc HB.out _).size (fun b hb=>by have:=(HO.out.own hb).1;omega)⟩
end
end Go.Proofs.YthhekebemmckcaaGreatDoor
