/-
  Lemmas and contracts for the laws of synchronisations (layer 43), part 11; several texts joined by a program.
-/
import Derived.Test.YthhekebemmckcaaGreatDoorJ01
import Derived.Test.YthhekebemmckcaaGreatDoorJ10
namespace Go.Proofs.YthhekebemmckcaaGreatDoor
set_option linter.unusedVariables false
set_option linter.unusedSimpArgs false
set_option maxRecDepth 100000
set_option maxHeartbeats 16000000
open Go.RowKit
section
structure Lr where
 act:List Int
 ina:List Int
 ref:List Int
def LrA (w:World) (S:Nat→Prop) (v1 v2 v3:Value) (a:Lr):Prop:=LA IntR w S v1 a.act∧LA IntR w S v2 a.ina∧LA IntR w S v3 a.ref
theorem LrA.kept {w w':World} {S:Nat→Prop} {v1 v2 v3:Value} {a:Lr} (h:LrA w S v1 v2 v3 a) (hk:KeepS S w w'):LrA w' S v1 v2 v3 a:=⟨h.1.kept hk,h.2.1.kept hk,h.2.2.kept hk⟩
theorem LrA.step {w w':World} {S:Nat→Prop} {v1 v2 v3:Value} {a:Lr} (h:LrA w S v1 v2 v3 a) (hb:Below w.heap.size w w'):LrA w' S v1 v2 v3 a:=h.kept (KeepS.of_below hb)
theorem LrA.weak {w:World} {S S':Nat→Prop} {v1 v2 v3:Value} {a:Lr} (h:LrA w S v1 v2 v3 a) (hS:∀b,b<w.heap.size→S b→S' b):LrA w S' v1 v2 v3 a:=⟨h.1.weak hS,h.2.1.weak hS,h.2.2.weak hS⟩
theorem LA.oneCell {α:Type} {k:Nat} {R:RR α k} {w:World} {S:Nat→Prop} {v:Value} {L:List α} (h:LA R w S v L):v.oneCell'=true:=by
 obtain ⟨A,cap,rfl,_⟩:=h.form
 rfl
def LrR:RR Lr 3 where
 p w S a r:=∃v1 v2 v3,r=[v1,v2,v3]∧LrA w S v1 v2 v3 a
 st w w' S a r hk h:=by obtain ⟨v1,v2,v3,e,h⟩:=h;exact ⟨v1,v2,v3,e,h.kept hk⟩
 wk w S S' a r hS h:=by obtain ⟨v1,v2,v3,e,h⟩:=h;exact ⟨v1,v2,v3,e,h.weak hS⟩
 sh w S a r h:=by
  obtain ⟨v1,v2,v3,rfl,h1,h2,h3⟩:=h
  refine ⟨rfl,fun u hu=>?_⟩
  simp only [List.mem_cons,List.not_mem_nil,or_false] at hu
  rcases hu with rfl | rfl | rfl
  ·exact h1.oneCell
  ·exact h2.oneCell
  ·exact h3.oneCell
structure LruOk (a:Lr):Prop where
 rng:∀x ∈ a.act ++ a.ina,1≤x∧x≤64
 dup:(a.act ++ a.ina).Nodup
 sub:∀x ∈ a.ref,x ∈ a.act ++ a.ina
 asc:a.ref.Pairwise (·<·)
theorem pigeon:∀(n:Nat) (l:List Int),l.Nodup→(∀x ∈ l,1≤x∧x≤(n:Int))→l.length≤n
 | 0,l,_,h=>by
  cases l with
  | nil=>simp
  | cons x l=>have:=h x (List.mem_cons_self ..);omega
 | n+1,l,hd,h=>by
  have h1:=pigeon n (l.erase ((n+1:Nat):Int)) (hd.erase _) (fun x hx=>by
   have hm:=(List.Nodup.mem_erase_iff hd).1 hx
   have:=h x hm.2
   have hne:=hm.1
   omega)
  have h2:=List.length_erase_le (a:=((n+1:Nat):Int)) (l:=l)
  have h3:l.length≤(l.erase ((n+1:Nat):Int)).length+1:=by
   by_cases hm:((n+1:Nat):Int) ∈ l
   ·rw [List.length_erase_of_mem hm];omega
   ·rw [List.erase_of_not_mem hm];omega
  omega
theorem nodup_asc {l:List Int} (h:l.Pairwise (·<·)):l.Nodup:=h.imp fun {a b} hab=>by omega
theorem LruOk.lens {a:Lr} (h:LruOk a):a.act.length≤64∧a.ina.length≤64∧a.ref.length≤64:=by
 have h1:=pigeon 64 _ h.dup h.rng
 rw [List.length_append] at h1
 have h2:=pigeon 64 _ (nodup_asc h.asc) (fun x hx=>h.rng x (h.sub x hx))
 exact ⟨by omega,by omega,h2⟩
theorem atL_neg {l:List Int} {k:Nat} {x:Int} (hd:l.Nodup) (hx:l[k]?=some x):atL (l.take k) x=-1:=by
 unfold atL
 rw [if_neg]
 intro hm
 obtain ⟨i,hi,he⟩:=List.getElem_of_mem hm
 rw [List.length_take] at hi
 rw [List.getElem_take] at he
 obtain ⟨hkl,hxe⟩:=List.getElem?_eq_some_iff.1 hx
 have:=(List.getElem_inj hd).1 (he.trans hxe.symm)
 omega
theorem atL_pos {l:List Int} {x:Int} (h:x ∈ l):0≤atL l x:=by unfold atL;rw [if_pos h];omega
theorem atL_out {l:List Int} {x:Int} (h:x ∉ l):atL l x=-1:=by unfold atL;rw [if_neg h]
def hasL (a:Lr) (f:Int):Bool:=decide (f ∈ a.act ++ a.ina)
def SP.la {α:Type} {k:Nat} (R:RR α k) (S:Nat→Prop) (L:List α):SP:=⟨fun v w=>LA R w S v L,fun _ _ _ hb h=>h.step hb⟩
def SP.lo {α:Type} {k:Nat} (R:RR α k) (e:TypeId) (base:Nat) (S:Nat→Prop) (L:List α):SP:=⟨fun v w=>LO R e w base S v L∧base≤w.heap.size,fun _ _ _ hb h=>⟨h.1.step hb,Nat.le_trans h.2 hb.size⟩⟩
theorem has_w (a:Lr) (f:Int) (v1 v2 v3:Value) (S:Nat→Prop) (w:World) (h:LrA w S v1 v2 v3 a):Calls Tryz.prog 123 #[.agg #[v1,v2,v3],.int .i64 f] w (RetB (hasL a f) w):=by
 obtain ⟨h1,h2,h3⟩:=h
 have a1:=fun w' (hb:Below w.heap.size w w')=>at_w a.act f v1 S w' (h1.step hb)
 have a2:=fun w' (hb:Below w.heap.size w w')=>at_w a.ina f v2 S w' (h2.step hb)
 have HX:=H_ (heap_alloc_at w (.cells #[v1,v2,v3] 121))
 have HB:=H_ (bl_alloc (Below.refl w.heap.size w) (.cells #[v1,v2,v3] 121))
 clear h1 h2 h3
 by_cases q1:f ∈ a.act
 ·have p1:=atL_pos q1
  have HR:=H_ (show hasL a f=true by simp [hasL,q1])
  clear q1
  generalize atL a.act f=z at a1 p1
  go_enter Tryz.func123,Tryz.ntmps123
  go_wp2_with (go_at_call 35;(with_reducible refine CM (a1 _ HB.out) ?_);rintro e w' ⟨rfl,rfl⟩)
  go_ret
  exact ⟨by rw [HR.out];rfl,HB.out⟩
 ·by_cases q2:f ∈ a.ina
  ·have p1:=atL_out q1
   have p2:=atL_pos q2
   have HR:=H_ (show hasL a f=true by simp [hasL,q2])
   rw [p1] at a1
   clear q1 q2 p1
   generalize atL a.ina f=z at a2 p2
   go_enter Tryz.func123,Tryz.ntmps123
   go_wp2_with (first | (go_at_call 35;(with_reducible refine CM (a1 _ HB.out) ?_);rintro e w' ⟨rfl,rfl⟩) | (go_at_call 35;(with_reducible refine CM (a2 _ HB.out) ?_);rintro e w' ⟨rfl,rfl⟩))
   go_ret
   exact ⟨by rw [HR.out];rfl,HB.out⟩
  ·have p1:=atL_out q1
   have p2:=atL_out q2
   have HR:=H_ (show hasL a f=false by simp [hasL,q1,q2])
   rw [p1] at a1
   rw [p2] at a2
   clear q1 q2 p1 p2
   go_enter Tryz.func123,Tryz.ntmps123
   go_wp2_with (first | (go_at_call 35;(with_reducible refine CM (a1 _ HB.out) ?_);rintro e w' ⟨rfl,rfl⟩) | (go_at_call 35;(with_reducible refine CM (a2 _ HB.out) ?_);rintro e w' ⟨rfl,rfl⟩))
   go_ret
   exact ⟨by rw [HR.out];rfl,HB.out⟩
theorem lruCheck_w (a:Lr) (v1 v2 v3:Value) (S:Nat→Prop) (w:World) (h:LrA w S v1 v2 v3 a) (ok:LruOk a):Calls Tryz.prog 122 #[.agg #[v1,v2,v3]] w (RetB true w):=by
 obtain ⟨l1,l2,l3⟩:=ok.lens
 have OK:=H_ ok
 have HL:=H_ h
 have HX:=H_ (heap_alloc_at w (.cells #[v1,v2,v3] 121))
 have HB:=H_ (bl_alloc (Below.refl w.heap.size w) (.cells #[v1,v2,v3] 121))
 clear h ok
 go_enter Tryz.func122,Tryz.ntmps122
 go_upto_region 1 with fail
 generalize w.alloc (.cells #[v1,v2,v3] 121)=W at HX HB
 go_cut [3] (fun s3 wx=>LA IntR wx Any s3 (a.act ++ a.ina)∧wx.heap[w.heap.size]?=some (.cells #[v1,v2,v3] 121 (0,0))∧Below w.heap.size w wx)
 case first=>
  obtain ⟨x0,x1,x2⟩:=cs3 HX.out
  have hlt:=bk_lt HX.out
  refine wp_region_sb 74 5 (fun i=>decide (i≤4)) (fun i=>decide (5≤i)) (fun wx=>Below W.heap.size W wx) [SP.eq (.pointer (some ⟨w.heap.size,0,none⟩)),SP.eq v1,SP.lo IntR 3 W.heap.size (fun b=>S b∧b<W.heap.size) a.act,SP.eq (.pointer (some ⟨w.heap.size,1,none⟩)),SP.eq v2,SP.la IntR Any (a.act ++ a.ina),SP.la IntR Any (a.act ++ a.ina)] (by kernel_rfl) (by kernel_rfl) rfl (by kernel_rfl) (.inl (by kernel_rfl)) ?_
  refine relWalkB_pre rfl rfl (fun x hC hd K hK=>?_) (fun v0=>?_)
  ·go_simp
   exact hK _ _ hC (fun _ _ h=>h) rfl
  simp only [ly]
  refine relWalkB_pre rfl rfl (fun x hC hd K hK=>?_) (fun u1=>?_)
  ·obtain rfl:v0=_:=hd 0 (by kernel_rfl)
   have hC':Below W.heap.size W x:=hC
   have y0:=(hC'.cell (p:=⟨w.heap.size,_,none⟩) hlt).trans x0
   go_simp
   exact hK _ _ hC (fun _ _ h=>h) rfl
  simp only [ly]
  refine relWalkB_pre rfl rfl (fun x hC hd K hK=>?_) (fun u2=>?_)
  ·obtain rfl:u1=_:=hd 1 (by kernel_rfl)
   have hC':Below W.heap.size W x:=hC
   have hlx:=hC'.size
   have hact:=(((HL.out.1.step HB.out).old).kept (w':=x) ⟨hlx,fun z hz _=>hC'.block z hz.2⟩)
   refine wp_of_list (ops:=#[]) rfl (wpList_copy IntR int_el rfl _ _ rfl rfl _ _ a.act rfl hact (by omega) fun v' w' hown hg=>?_)
   have hb:=(Below.refl x.heap.size x).grown hg (Nat.le_refl _) (fun b hb=>by cases hb)
   exact hK _ _ (bl_step hC' hb) (fun j u h=>GS.keep hb j u h) ⟨hown.base_le hlx,by have:=hb.size;omega⟩
  simp only [ly]
  refine relWalkB_pre rfl rfl (fun x hC hd K hK=>?_) (fun u3=>?_)
  ·go_simp
   exact hK _ _ hC (fun _ _ h=>h) rfl
  simp only [ly]
  refine relWalkB_pre rfl rfl (fun x hC hd K hK=>?_) (fun u4=>?_)
  ·obtain rfl:u3=_:=hd 3 (by kernel_rfl)
   have hC':Below W.heap.size W x:=hC
   have y0:=(hC'.cell (p:=⟨w.heap.size,_,none⟩) hlt).trans x1
   go_simp
   exact hK _ _ hC (fun _ _ h=>h) rfl
  simp only [ly]
  refine relWalkB_main (fun x hC hd K hK=>?_) (fun u5=>?_)
  ·obtain rfl:u4=_:=hd 4 (by kernel_rfl)
   obtain ⟨hown2,hle⟩:=hd 2 (by kernel_rfl)
   have hC':Below W.heap.size W x:=hC
   have hina:=(((HL.out.2.1.step HB.out).old).kept (w':=x) ⟨hC'.size,fun z hz _=>hC'.block z hz.2⟩)
   refine wp_of_list (ops:=#[]) rfl (wpList_cat IntR int_el rfl _ _ rfl _ _ _ a.act rfl hown2 hle (by omega) _ a.ina rfl (hina.weak fun b hb h=>⟨h,fun e=>by have:=(hown2.own e).1;have:=h.2;omega⟩) (by omega) fun v' w' hown hg hat=>?_)
   exact hK _ _ (hC'.grown hg hC'.size (fun b hb=>(hown2.own hb).1)) (fun j u h1 h2=>by simp at h2;omega) (hown.la (fun _ _ _=>trivial) (fun _ _=>trivial))
  simp only [ly]
  refine relWalkB_any rfl (fun x hd K hK=>?_) (fun u6=>?_)
  ·have h5:=hd 5 (by kernel_rfl) rfl
   go_simp
   exact hK _ h5
  simp only [ly]
  refine relWalkB_nil ?_
  intro x hD hG
  have h6:=hG 6 (by decide) rfl
  clear hG
  go_wp2
  go_meet
  case rel=>exact ⟨h6,(hD.block _ hlt).trans HX.out,bl_step HB.out hD⟩
 case rest=>
  clear HX HB
  obtain ⟨hla,hX,hB⟩:=hcut
  obtain ⟨A,cap,rfl,hc1,hc2⟩:=hla.form
  have HLA:=H_ hla
  have HB:=H_ hB
  obtain ⟨x0,x1,x2⟩:=cs3 hX
  have hwl:=bk_lt hX
  have hlen:(a.act ++ a.ina).length≤128:=by rw [List.length_append];omega
  have RNG:=H_ OK.out.rng
  have DUP:=H_ OK.out.dup
  have SUB:=H_ OK.out.sub
  have ASC:=H_ OK.out.asc
  have HL3:=H_ (HL.out.2.2.step HB.out)
  obtain ⟨all,hall⟩:∃all,all=a.act ++ a.ina:=⟨_,rfl⟩
  rw [←hall] at RNG DUP SUB HLA hlen hc1 ⊢
  clear hall hla hX hB HL OK
  unfold maxLen at hc2
  go_wp2
  go_loopw [4] (fun i wx=>∃(k:Nat),i = .int .i64 k∧k≤all.length∧Below wc.heap.size wc wx) (fun i _=>all.length - (intOf i).toNat)
  case atStart=>exact ⟨0,rfl,by omega,Below.refl _ _⟩
  case round=>
   obtain ⟨k,rfl,hk,hbr⟩:=hrel
   have HBR:=H_ hbr
   by_cases hlt:k<all.length
   ·obtain ⟨x,hx⟩:∃x,all[k]?=some x:=⟨_,List.getElem?_eq_getElem hlt⟩
    obtain ⟨b,o,cap',hv,_,_,hb,_,c0⟩:=IL.cell (HLA.out.step HBR.out) hx
    injection hv with e1 e2 e3
    subst e1 e3
    have hr:=RNG.out x (List.mem_of_getElem? hx)
    have hat:=fun n=>at_w (all.take k) x _ Any (wr.drewN n) ((((HLA.out.step HBR.out).step (below_drewN B_ n)).take hk))
    rw [atL_neg DUP.out hx] at hat
    have d1:decide (x<1)=false:=dF (by omega)
    have d2:decide (64<x)=false:=dF (by omega)
    have k1:k≤cap:=by omega
    clear hx e2 hbr
    go_upto_region 5 with fail
    go_quiet ((go_at_call 35;exact Calls.quiet_of_eq (hat _)))
    go_wp2
    go_roundw
    case rel=>exact ⟨k+1,by go_num,by omega,below_drewN HBR.out _⟩
    case measure=>simp [intOf];omega
   ·obtain rfl:k=all.length:=by omega
    have HL3':=H_ (HL3.out.step HBR.out)
    have HLA':=H_ (HLA.out.step HBR.out)
    obtain ⟨A3,cap3,he3,q1,q2⟩:=HL3'.out.form
    subst he3
    have y2:wr.cell? ⟨w.heap.size,2,none⟩=some (.slice A3 a.ref.length cap3):=(hbr.cell (p:=⟨w.heap.size,2,none⟩) hwl).trans x2
    have Y2:=H_ y2
    have HWL:=H_ (Nat.lt_of_lt_of_le hwl hbr.size)
    clear hbr x0 x1 x2 HL3 HLA hwl
    unfold maxLen at q2
    go_wp2
    go_loopw [5] (fun i wx=>∃(k:Nat),i = .int .i64 k∧k≤a.ref.length∧Below wr.heap.size wr wx) (fun i _=>a.ref.length - (intOf i).toNat)
    case atStart=>exact ⟨0,rfl,by omega,Below.refl _ _⟩
    case round=>
     obtain ⟨k,rfl,hk,hbs⟩:=hrel
     have HBS:=H_ hbs
     have y2:=(hbs.cell (p:=⟨w.heap.size,2,none⟩) HWL.out).trans Y2.out
     clear hbs
     by_cases hlt:k<a.ref.length
     ·obtain ⟨x,hx⟩:∃x,a.ref[k]?=some x:=⟨_,List.getElem?_eq_getElem hlt⟩
      obtain ⟨b,o,cap',hv,_,_,hb,_,c0⟩:=IL.cell (HL3'.out.step HBS.out) hx
      injection hv with e1 e2 e3
      subst e1 e3
      have hat:=fun n=>at_w all x _ Any _ ((HLA'.out.step HBS.out).step (below_drewN B_ n))
      have hz:=atL_pos (SUB.out x (List.mem_of_getElem? hx))
      generalize atL all x=z at hat hz
      have d1:decide (z<0)=false:=dF (by omega)
      cases k with
      | zero=>
       rw [Nat.add_zero] at c0
       clear hx e2
       go_upto_region 10 with fail
       go_quiet ((go_at_call 35;exact Calls.quiet_of_eq (hat _)))
       go_wp2
       go_roundw
       case rel=>exact ⟨1,rfl,by omega,below_drewN HBS.out _⟩
       case measure=>simp [intOf];omega
      | succ m=>
       obtain ⟨y,hy⟩:∃y,a.ref[m]?=some y:=⟨_,List.getElem?_eq_getElem (by omega)⟩
       have hc:=(IL.cell (HL3'.out.step HBS.out) hy)
       obtain ⟨b',o',cap',hv,_,_,_,_,c1⟩:=hc
       injection hv with e1 _ _
       injection e1 with e1
       injection e1 with e4 e5
       subst e4 e5
       have hyx:y<x:=by
        have:=List.pairwise_iff_getElem.1 ASC.out m (m+1) (by omega) hlt (by omega)
        rw [←(List.getElem?_eq_some_iff.1 hy).2,←(List.getElem?_eq_some_iff.1 hx).2]
        exact this
       have d2:decide (x≤y)=false:=dF (by omega)
       have w1:IntKind.i64.wrap ((m:Int)+1 - 1)=(m:Int):=by rw [w64 (by omega)];omega
       have g0:(0:Int)<(m:Int)+1:=by omega
       clear hx hy e2
       go_upto_region 10 with fail
       go_quiet ((go_at_call 35;exact Calls.quiet_of_eq (hat _)))
       go_wp2
       go_roundw
       case rel=>exact ⟨m+2,by go_num,by omega,below_drewN HBS.out _⟩
       case measure=>simp [intOf];omega
     ·obtain rfl:k=a.ref.length:=by omega
      go_wp2
      go_ret
      exact ⟨rfl,bl_step (bl_step HB.out HBR.out) HBS.out⟩
end
section
def insL:List Int→Int→List Int
 | [],n=>[n]
 | x :: l,n=>if n<x then n :: x :: l else x :: insL l n
theorem insL_any {n:Int}:∀{l:List Int},(∃y ∈ l,n<y)→∀x,insL (l ++ [x]) n=insL l n ++ [x]
 | [],h,_=>by obtain ⟨y,hy,_⟩:=h;simp at hy
 | a :: l,h,x=>by
  simp only [List.cons_append,insL]
  split
  ·rfl
  ·next hn=>
   rw [insL_any (l:=l) (by
    obtain ⟨y,hy,hl⟩:=h
    rcases List.mem_cons.1 hy with rfl | hy
    ·exact absurd hl hn
    ·exact ⟨y,hy,hl⟩) x]
   rfl
theorem insL_no {n:Int}:∀{l:List Int},(∀y ∈ l,¬n<y)→insL l n=l ++ [n]
 | [],_=>rfl
 | a :: l,h=>by
  simp only [insL,List.cons_append]
  rw [if_neg (h a (List.mem_cons_self ..)),insL_no fun y hy=>h y (List.mem_cons_of_mem _ hy)]
theorem insL_at {n x:Int} (hx:n<x):∀{l:List Int},(∀y ∈ l,¬n<y)→insL (l ++ [x]) n=l ++ [n,x]
 | [],_=>by simp [insL,hx]
 | a :: l,h=>by
  simp only [insL,List.cons_append]
  rw [if_neg (h a (List.mem_cons_self ..)),insL_at hx fun y hy=>h y (List.mem_cons_of_mem _ hy)]
theorem insL_mem {n x:Int}:∀{l:List Int},x ∈ insL l n↔x=n∨x ∈ l
 | []=>by simp [insL]
 | a :: l=>by
  simp only [insL]
  split
  ·simp
  ·simp only [List.mem_cons,insL_mem (l:=l)]
   constructor
   ·rintro (h | h | h) <;> simp [h]
   ·rintro (h | h | h) <;> simp [h]
theorem insL_asc {n:Int}:∀{l:List Int},l.Pairwise (·<·)→n ∉ l→(insL l n).Pairwise (·<·)
 | [],_,_=>by simp [insL]
 | a :: l,h,hn=>by
  rw [List.pairwise_cons] at h
  simp only [insL]
  split
  ·next hlt=>
   rw [List.pairwise_cons,List.pairwise_cons]
   exact ⟨fun y hy=>by rcases List.mem_cons.1 hy with rfl | hy;exact hlt;have:=h.1 y hy;omega,h⟩
  ·next hge=>
   rw [List.pairwise_cons]
   refine ⟨fun y hy=>?_,insL_asc h.2 fun hm=>hn (List.mem_cons_of_mem _ hm)⟩
   rcases insL_mem.1 hy with rfl | hy
   ·have:a≠y:=fun e=>hn (e ▸ List.mem_cons_self ..)
    omega
   ·exact h.1 y hy
theorem insL_len (n:Int):∀(l:List Int),(insL l n).length=l.length+1
 | []=>rfl
 | a :: l=>by
  simp only [insL]
  split
  ·rfl
  ·simp [insL_len n l]
def insK (l:List Int) (n:Int) (k:Nat) (d:Bool):List Int:=if d then insL (l.take k) n else l.take k
def insB (l:List Int) (n:Int) (k:Nat) (d:Bool):Prop:=if d then ∃y ∈ l.take k,n<y else ∀y ∈ l.take k,¬n<y
theorem insB.zero (l:List Int) (n:Int):insB l n 0 false:=fun y hy=>by simp at hy
theorem insB.t {l:List Int} {n x:Int} {k:Nat} (h:insB l n k true) (hx:l[k]?=some x):insB l n (k+1) true∧insK l n (k+1) true=insK l n k true ++ [x]:=by
 have e:l.take (k+1)=l.take k ++ [x]:=by rw [List.take_add_one,hx];rfl
 obtain ⟨y,hy,hl⟩:=h
 refine ⟨⟨y,by rw [e];exact List.mem_append_left _ hy,hl⟩,?_⟩
 show insL (l.take (k+1)) n=insL (l.take k) n ++ [x]
 rw [e,insL_any ⟨y,hy,hl⟩]
theorem insB.now {l:List Int} {n x:Int} {k:Nat} (h:insB l n k false) (hx:l[k]?=some x) (hl:n<x):insB l n (k+1) true∧insK l n (k+1) true=(insK l n k false ++ [n]) ++ [x]:=by
 have e:l.take (k+1)=l.take k ++ [x]:=by rw [List.take_add_one,hx];rfl
 refine ⟨⟨x,by rw [e];simp,hl⟩,?_⟩
 show insL (l.take (k+1)) n=(l.take k ++ [n]) ++ [x]
 rw [e,insL_at hl h];simp
theorem insB.f {l:List Int} {n x:Int} {k:Nat} (h:insB l n k false) (hx:l[k]?=some x) (hl:¬n<x):insB l n (k+1) false∧insK l n (k+1) false=insK l n k false ++ [x]:=by
 have e:l.take (k+1)=l.take k ++ [x]:=by rw [List.take_add_one,hx];rfl
 refine ⟨fun y hy=>?_,e⟩
 rw [e] at hy
 rcases List.mem_append.1 hy with hy | hy
 ·exact h y hy
 ·simp at hy;subst hy;exact hl
theorem insB.endT {l:List Int} {n:Int}:insK l n l.length true=insL l n:=by show insL (l.take l.length) n=_;rw [List.take_length]
theorem insB.endF {l:List Int} {n:Int} (h:insB l n l.length false):insK l n l.length false ++ [n]=insL l n:=by
 show l.take l.length ++ [n]=_
 have h':∀y ∈ l.take l.length,¬n<y:=h
 rw [List.take_length] at h' ⊢
 exact (insL_no h').symm
theorem insK_len (l:List Int) (n:Int) (k:Nat) (d:Bool):(insK l n k d).length≤l.length+1:=by
 unfold insK
 split
 ·rw [insL_len,List.length_take];omega
 ·rw [List.length_take];omega
theorem insert_w (l:List Int) (n:Int) (v:Value) (S:Nat→Prop) (w:World) (h:LA IntR w S v l) (hl:l.length≤1000) (hS:∀b,w.heap.size≤b→S b):Calls Tryz.prog 163 #[v,.int .i64 n] w (RetIL (insL l n) S w):=by
 obtain ⟨A,cap,rfl,hc,hm⟩:=h.form
 have H:=H_ h
 clear h
 unfold maxLen at hm
 go_enter Tryz.func163,Tryz.ntmps163
 go_wp2
 go_loopw [5,6,7] (fun u dv i wx=>∃(k:Nat) (d:Bool),i = .int .i64 k∧dv = .bool d∧k≤l.length∧insB l n k d∧LO IntR 3 wx w.heap.size S u (insK l n k d)∧Below w.heap.size w wx) (fun _ _ i _=>l.length - (intOf i).toNat)
 case atStart=>exact ⟨0,false,rfl,rfl,by omega,insB.zero _ _,LO.nil _ _ _ _ _,Below.refl _ _⟩
 case round=>
  obtain ⟨k,d,rfl,rfl,hk,hi,ho,hb⟩:=hrel
  have HO:=H_ ho
  have HB:=H_ hb
  have HI:=H_ hi
  have hkl:=insK_len l n k d
  clear ho hb hi
  by_cases hlt:k<l.length
  ·obtain ⟨x,hx⟩:∃x,l[k]?=some x:=⟨_,List.getElem?_eq_getElem hlt⟩
   obtain ⟨b,o,cap',hv,_,_,hb,_,c0⟩:=IL.cell (H.out.step HB.out) hx
   injection hv with e1 e2 e3
   subst e1 e3
   have HXX:=H_ hx
   have hsz:=HB.out.size
   have hlb:=(H.out.cells hx).1
   clear hx e2
   cases d with
   | true=>
    have HN:=H_ (HI.out.t HXX.out)
    go_wp2_with (at_builtin;go_loud (refine wpList_push IntR int_el rfl (.tmp 28) (.tmp 33) rfl _ w.heap.size S (insK l n k true) rfl (HO.out.alloc _) (by simp;omega) (by omega) _ #[.int .i64 x] rfl _ (heap_at_new _ _ _ rfl) x rfl ?_);intro v4 w4 hown4 hg4 hat4)
    go_roundw
    case rel=>exact ⟨k+1,true,by go_num,rfl,by omega,HN.out.1,by rw [HN.out.2];exact hown4,(bl_alloc HB.out _).grown hg4 (bl_alloc HB.out _).size (fun b hb=>(HO.out.own hb).1)⟩
    case measure=>simp [intOf];omega
   | false=>
    by_cases hnx:n<x
    ·have HN:=H_ (HI.out.now HXX.out hnx)
     go_wp2_with (first
      | ((at_builtin;go_loud (refine wpList_push IntR int_el rfl (.tmp 24) (.tmp 26) rfl _ w.heap.size S (insK l n k false) rfl (HO.out.alloc _) (by simp;omega) (by omega) _ #[.int .i64 n] rfl _ (heap_at_new _ _ _ rfl) n rfl ?_);intro v4 w4 hown4 hg4 hat4);have HO4:=H_ hown4;have HB4:=H_ ((bl_alloc HB.out _).grown hg4 (bl_alloc HB.out _).size (fun b hb=>(HO.out.own hb).1));have s4:=HB4.out.size;have c4:=(HB4.out.cell (p:=⟨b,o+k,none⟩) hlb).trans ((HB.out.cell (p:=⟨b,o+k,none⟩) hlb).symm.trans c0);clear c0 hown4 hg4 hat4)
      | (at_builtin;go_loud (refine wpList_push IntR int_el rfl (.tmp 28) (.tmp 33) rfl _ w.heap.size S (insK l n k false ++ [n]) rfl (HO4.out.alloc _) (by simp;omega) (by simp;omega) _ #[.int .i64 x] rfl _ (heap_at_new _ _ _ rfl) x rfl ?_);intro v5 w5 hown5 hg5 hat5))
     go_roundw
     case rel=>exact ⟨k+1,true,by go_num,rfl,by omega,HN.out.1,by rw [HN.out.2];exact hown5,(bl_alloc HB4.out _).grown hg5 (bl_alloc HB4.out _).size (fun b hb=>(HO4.out.own hb).1)⟩
     case measure=>simp [intOf];omega
    ·have HN:=H_ (HI.out.f HXX.out hnx)
     go_wp2_with (at_builtin;go_loud (refine wpList_push IntR int_el rfl (.tmp 28) (.tmp 33) rfl _ w.heap.size S (insK l n k false) rfl (HO.out.alloc _) (by simp;omega) (by omega) _ #[.int .i64 x] rfl _ (heap_at_new _ _ _ rfl) x rfl ?_);intro v4 w4 hown4 hg4 hat4)
     go_roundw
     case rel=>exact ⟨k+1,false,by go_num,rfl,by omega,HN.out.1,by rw [HN.out.2];exact hown4,(bl_alloc HB.out _).grown hg4 (bl_alloc HB.out _).size (fun b hb=>(HO.out.own hb).1)⟩
     case measure=>simp [intOf];omega
  ·obtain rfl:k=l.length:=by omega
   have hsz:=HB.out.size
   cases d with
   | true=>
    rw [insB.endT] at HO
    go_wp2
    go_ret
    exact ⟨_,rfl,HO.out.la (fun _ _ h=>h) hS,HB.out⟩
   | false=>
    have HN:=H_ (HI.out.endF)
    go_wp2_with (at_builtin;go_loud (refine wpList_push IntR int_el rfl (.tmp 37) (.tmp 39) rfl _ w.heap.size S (insK l n l.length false) rfl (HO.out.alloc _) (by simp;omega) (by omega) _ #[.int .i64 n] rfl _ (heap_at_new _ _ _ rfl) n rfl ?_);intro v4 w4 hown4 hg4 hat4)
    go_ret
    rw [HN.out] at hown4
    exact ⟨_,rfl,hown4.la (fun _ _ h=>h) hS,(bl_alloc HB.out _).grown hg4 (bl_alloc HB.out _).size (fun b hb=>(HO.out.own hb).1)⟩
theorem lru_size:(Tryz.prog.info? 121).map (·.size)=some 3:=by kernel_rfl
theorem one3 (A B C:Option Addr) (a b c d e f:Nat):(#[Value.slice A a b,.slice B c d,.slice C e f]:Array Value).all (·.oneCell')=true:=by simp [Value.oneCell']
theorem lru2_res {fn:Func} {p q:Tmp} (h:fn.results=#[.cell p 121,.tmp q]) (tmps:Array Value) (w:World) (g:Nat) (t:TypeId) (a b c:Value) (fr:Nat × Nat) (u:Value)
  (hp:tmps.getD p undef = .pointer (some ⟨g,0,none⟩)) (hq:tmps.getD q undef=u) (hg:w.heap[g]?=some (.cells #[a,b,c] t fr)):(results fn tmps).run Tryz.prog w = .ok (.tuple #[.agg #[a,b,c],u]) w:=
 res2 h tmps w g t _ fr _ u hp hq hg Tryz.underlying121 rfl lru_size
def RetLr (a:Lr) (err:Int) (S:Nat→Prop) (w:World) (e:Ending) (w':World):Prop:=∃v1 v2 v3,e = .returned (.tuple #[.agg #[v1,v2,v3],.int .i64 err])∧LrA w' S v1 v2 v3 a∧Below w.heap.size w w'
theorem bl_set {B:Nat} {w0 w:World} (hb:Below B w0 w) (p:Addr) (v:Value) (h:B≤p.block):Below B w0 (w.setCell p v):=hb.setCell h v
def addL (a:Lr) (f:Int) (act:Bool):Lr:=if hasL a f then a else if act then {a with act:=f :: a.act} else {a with ina:=f :: a.ina}
theorem add_w (a:Lr) (f:Int) (act:Bool) (v1 v2 v3:Value) (S:Nat→Prop) (w:World) (h:LrA w S v1 v2 v3 a) (ok:LruOk a) (hf:1≤f∧f≤64) (hS:∀b,w.heap.size≤b→S b) :
  Calls Tryz.prog 72 #[.agg #[v1,v2,v3],.int .i64 f,.bool act] w (RetLr (addL a f act) (if hasL a f then 5 else 0) S w):=by
 obtain ⟨l1,l2,l3⟩:=ok.lens
 obtain ⟨A1,c1,rfl,p1,p2⟩:=h.1.form
 obtain ⟨A2,c2,rfl,p3,p4⟩:=h.2.1.form
 obtain ⟨A3,c3,rfl,p5,p6⟩:=h.2.2.form
 have hck:=fun w' (hb:Below w.heap.size w w')=>lruCheck_w a _ _ _ S w' (h.step hb) ok
 have hha:=fun w' (hb:Below w.heap.size w w')=>has_w a f _ _ _ S w' (h.step hb)
 have HX:=H_ (bk_alloc (heap_alloc_at w (.cells #[.slice A1 a.act.length c1,.slice A2 a.ina.length c2,.slice A3 a.ref.length c3] 121)) (.cells #[.slice none 0 0,.slice none 0 0,.slice none 0 0] 121))
 have HR:=H_ (heap_at_new (w.alloc (.cells #[.slice A1 a.act.length c1,.slice A2 a.ina.length c2,.slice A3 a.ref.length c3] 121)) (.cells #[.slice none 0 0,.slice none 0 0,.slice none 0 0] 121) (w.heap.size+1) (by simp))
 have HW:=H_ (bl_alloc (bl_alloc (Below.refl w.heap.size w) (.cells #[.slice A1 a.act.length c1,.slice A2 a.ina.length c2,.slice A3 a.ref.length c3] 121)) (.cells #[.slice none 0 0,.slice none 0 0,.slice none 0 0] 121))
 have H:=H_ h
 have HS:=H_ hS
 have q1:decide (f<1)=false:=dF (by omega)
 have q2:decide (64<f)=false:=dF (by omega)
 clear p1 p2 p3 p4 p5 p6 h hS hf ok
 cases q:hasL a f with
 | true=>
  have HQ:=H_ (show addL a f act=a by unfold addL;rw [q];rfl)
  rw [q] at hha
  clear q
  go_enter Tryz.func72,Tryz.ntmps72
  go_wp2_with (first | (go_at_call 122;(with_reducible refine CM (hck _ HW.out) ?_);rintro e w1 ⟨rfl,hb1⟩;have HX1:=bkh HX hb1;have HR1:=bkh HR hb1;have HW1:=blh HW hb1;clear hb1;obtain ⟨x0,x1,x2⟩:=cs3 HX1.out) | (go_at_call 123;(with_reducible refine CM (hha _ HW1.out) ?_);rintro e w2 ⟨rfl,hb2⟩;clear x0 x1 x2;have HX2:=bkh HX1 hb2;have HR2:=bkh HR1 hb2;have HW2:=blh HW1 hb2;clear hb2;obtain ⟨x0,x1,x2⟩:=cs3 HX2.out) | (refine wpList_store_rowTo rfl 121 (.tmp 6) (.tmp 30) rfl rfl (w.heap.size+1) #[.slice A1 a.act.length c1,.slice A2 a.ina.length c2,.slice A3 a.ref.length c3] rfl rfl 121 _ (HR2.out) lru_size rfl (one3 _ _ _ _ _ _ _ _ _) ?_))
  show bodyPost Tryz.prog Tryz.f72 _ _ _ _
  refine bodyPost_ret (lru2_res rfl _ _ (w.heap.size+1) _ _ _ _ _ _ rfl rfl (setRow_heap _ _ _ _ _ _ HR2.out)) rfl ?_
  rw [HQ.out]
  exact ⟨_,_,_,rfl,H.out.step (bl_setRow HW2.out (by omega) _),bl_setRow HW2.out (by omega) _⟩
 | false=>
  rw [q] at hha
  have hfa:=fun w' (hb:Below w.heap.size w w') (hz:w.heap.size+2≤w'.heap.size)=>front_w a.act f _ (fun z=>S z∧z≠w.heap.size∧z≠w.heap.size+1) w' ((H.out.1.weak (fun b hb h=>⟨h,by omega,by omega⟩)).step hb) (by omega) (fun b hb'=>⟨HS.out b (Nat.le_trans hb.size hb'),by omega,by omega⟩)
  have hfi:=fun w' (hb:Below w.heap.size w w') (hz:w.heap.size+2≤w'.heap.size)=>front_w a.ina f _ (fun z=>S z∧z≠w.heap.size∧z≠w.heap.size+1) w' ((H.out.2.1.weak (fun b hb h=>⟨h,by omega,by omega⟩)).step hb) (by omega) (fun b hb'=>⟨HS.out b (Nat.le_trans hb.size hb'),by omega,by omega⟩)
  have HQ:=H_ (show addL a f act=if act then {a with act:=f :: a.act} else {a with ina:=f :: a.ina} by unfold addL;rw [q];rfl)
  clear q
  cases act with
  | true=>
   go_enter Tryz.func72,Tryz.ntmps72
   go_wp2_with (first
    | (go_at_call 122;(with_reducible refine CM (hck _ HW.out) ?_);rintro e w1 ⟨rfl,hb1⟩;have HX1:=bkh HX hb1;have HR1:=bkh HR hb1;have HW1:=blh HW hb1;clear hb1;obtain ⟨x0,x1,x2⟩:=cs3 HX1.out)
    | (go_at_call 123;(with_reducible refine CM (hha _ HW1.out) ?_);rintro e w2 ⟨rfl,hb2⟩;clear x0 x1 x2;have HX2:=bkh HX1 hb2;have HR2:=bkh HR1 hb2;have HW2:=blh HW1 hb2;clear hb2;obtain ⟨x0,x1,x2⟩:=cs3 HX2.out)
    | (go_at_call 124;(with_reducible refine CM (hfa _ HW2.out (by have:=bk_lt HR2.out;omega)) ?_);rintro e w3 ⟨u,rfl,hu,hb3⟩;obtain ⟨Au,cu,rfl,_,_⟩:=hu.form;clear x0 x1 x2;have HX3:=bkh HX2 hb3;have HR3:=bkh HR2 hb3;have HW3:=blh HW2 hb3;have HU:=H_ hu;clear hb3 hu;obtain ⟨x0,x1,x2⟩:=cs3 HX3.out;have f0:=free_at HX3.out 0;have f1:=free_at HX3.out 1;have f2:=free_at HX3.out 2)
    | (refine wpList_store_rowTo rfl 121 (.tmp 6) (.tmp 38) rfl rfl (w.heap.size+1) #[.slice Au (f :: a.act).length cu,.slice A2 a.ina.length c2,.slice A3 a.ref.length c3] rfl rfl 121 _ (set_bk HR3.out _ _ (by simp)) lru_size rfl (one3 _ _ _ _ _ _ _ _ _) ?_))
   show bodyPost Tryz.prog Tryz.f72 _ _ _ _
   refine bodyPost_ret (lru2_res rfl _ _ (w.heap.size+1) _ _ _ _ _ _ rfl rfl (setRow_heap _ _ _ _ _ _ (set_bk HR3.out _ _ (by simp)))) rfl ?_
   rw [HQ.out]
   have hbw:=bl_setRow (g:=w.heap.size+1) (bl_set HW3.out ⟨w.heap.size,0,none⟩ (.slice Au (f :: a.act).length cu) (Nat.le_refl _)) (by omega) #[.slice Au (f :: a.act).length cu,.slice A2 a.ina.length c2,.slice A3 a.ref.length c3]
   exact ⟨_,_,_,rfl,⟨((HU.out.kept (KeepS.of_setCell w3 ⟨w.heap.size,0,none⟩ _ (fun h=>h.2.1 rfl))).kept (KeepS.of_setRow _ _ _ (fun h=>h.2.2 rfl))).weak (fun _ _ h=>h.1),H.out.2.1.step hbw,H.out.2.2.step hbw⟩,hbw⟩
  | false=>
   go_enter Tryz.func72,Tryz.ntmps72
   go_wp2_with (first
    | (go_at_call 122;(with_reducible refine CM (hck _ HW.out) ?_);rintro e w1 ⟨rfl,hb1⟩;have HX1:=bkh HX hb1;have HR1:=bkh HR hb1;have HW1:=blh HW hb1;clear hb1;obtain ⟨x0,x1,x2⟩:=cs3 HX1.out)
    | (go_at_call 123;(with_reducible refine CM (hha _ HW1.out) ?_);rintro e w2 ⟨rfl,hb2⟩;clear x0 x1 x2;have HX2:=bkh HX1 hb2;have HR2:=bkh HR1 hb2;have HW2:=blh HW1 hb2;clear hb2;obtain ⟨x0,x1,x2⟩:=cs3 HX2.out)
    | (go_at_call 124;(with_reducible refine CM (hfi _ HW2.out (by have:=bk_lt HR2.out;omega)) ?_);rintro e w3 ⟨u,rfl,hu,hb3⟩;obtain ⟨Au,cu,rfl,_,_⟩:=hu.form;clear x0 x1 x2;have HX3:=bkh HX2 hb3;have HR3:=bkh HR2 hb3;have HW3:=blh HW2 hb3;have HU:=H_ hu;clear hb3 hu;obtain ⟨x0,x1,x2⟩:=cs3 HX3.out;have f0:=free_at HX3.out 0;have f1:=free_at HX3.out 1;have f2:=free_at HX3.out 2)
    | (refine wpList_store_rowTo rfl 121 (.tmp 6) (.tmp 38) rfl rfl (w.heap.size+1) #[.slice A1 a.act.length c1,.slice Au (f :: a.ina).length cu,.slice A3 a.ref.length c3] rfl rfl 121 _ (set_bk HR3.out _ _ (by simp)) lru_size rfl (one3 _ _ _ _ _ _ _ _ _) ?_))
   show bodyPost Tryz.prog Tryz.f72 _ _ _ _
   refine bodyPost_ret (lru2_res rfl _ _ (w.heap.size+1) _ _ _ _ _ _ rfl rfl (setRow_heap _ _ _ _ _ _ (set_bk HR3.out _ _ (by simp)))) rfl ?_
   rw [HQ.out]
   have hbw:=bl_setRow (g:=w.heap.size+1) (bl_set HW3.out ⟨w.heap.size,1,none⟩ (.slice Au (f :: a.ina).length cu) (Nat.le_refl _)) (by omega) #[.slice A1 a.act.length c1,.slice Au (f :: a.ina).length cu,.slice A3 a.ref.length c3]
   exact ⟨_,_,_,rfl,⟨H.out.1.step hbw,((HU.out.kept (KeepS.of_setCell w3 ⟨w.heap.size,1,none⟩ _ (fun h=>h.2.1 rfl))).kept (KeepS.of_setRow _ _ _ (fun h=>h.2.2 rfl))).weak (fun _ _ h=>h.1),H.out.2.2.step hbw⟩,hbw⟩
end
end Go.Proofs.YthhekebemmckcaaGreatDoor
