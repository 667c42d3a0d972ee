/-
  Lemmas and contracts for the laws of synchronisations (layer 43), part 14; several texts joined by a program.
-/
import Derived.Test.YthhekebemmckcaaGreatDoorJ01
import Derived.Test.YthhekebemmckcaaGreatDoorJ13
namespace Go.Proofs.YthhekebemmckcaaGreatDoor
set_option linter.unusedVariables false
set_option linter.unusedSimpArgs false
set_option maxRecDepth 100000
set_option maxHeartbeats 16000000
open Go.RowKit
section
structure Zn where
 first:Int
 size:Int
 mn:Int
 low:Int
 high:Int
 free:List Int
def ZnP (w:World) (S:Nat→Prop) (z:Zn) (r:List Value):Prop:=∃v,r=[.int .i64 z.first,.int .i64 z.size,.int .i64 z.mn,.int .i64 z.low,.int .i64 z.high,v]∧LA IntR w S v z.free
def ZnR:RR Zn 6 where
 p:=ZnP
 st w w' S a r hk h:=by obtain ⟨v,e,h⟩:=h;exact ⟨v,e,h.kept hk⟩
 wk w S S' a r hS h:=by obtain ⟨v,e,h⟩:=h;exact ⟨v,e,h.weak hS⟩
 sh w S a r h:=by
  obtain ⟨v,rfl,h⟩:=h
  refine ⟨rfl,fun u hu=>?_⟩
  simp only [List.mem_cons,List.not_mem_nil,or_false] at hu
  rcases hu with rfl | rfl | rfl | rfl | rfl | rfl
  ·rfl
  ·rfl
  ·rfl
  ·rfl
  ·rfl
  ·exact h.oneCell
theorem zn_info:(Tryz.prog.info? 139).map (fun i=>(i.zero,i.size,i.bytes))=some (some (.agg #[.int .i64 0,.int .i64 0,.int .i64 0,.int .i64 0,.int .i64 0,.slice none 0 0]),6,64):=by kernel_rfl
theorem zn_el:Elem Tryz.prog 25 139 6:=by
 obtain ⟨i,h1,h2,h3,h4⟩:=info_parts zn_info
 exact ⟨i,_,64,Tryz.underlying25,h1,h2,h3,h4,rfl,by omega,by omega⟩
theorem zn_size:(Tryz.prog.info? 139).map (·.size)=some 6:=by kernel_rfl
def nxt (L:List Zn):Int:=L.foldl (fun n z=>n+z.size) 1
theorem nxt_snoc (L:List Zn) (z:Zn):nxt (L ++ [z])=nxt L+z.size:=by unfold nxt;rw [List.foldl_append];rfl
structure ZoneOk (next:Int) (z:Zn):Prop where
 fst:z.first=next
 sz:1≤z.size∧z.size≤65 - next
 wm:0≤z.mn∧z.mn≤z.low∧z.low≤z.high∧z.high≤z.size
 rng:∀x ∈ z.free,z.first≤x∧x<z.first+z.size
 asc:z.free.Pairwise (·<·)
structure ZonesOk (L:List Zn):Prop where
 ne:0<L.length
 each:∀(i:Nat) (z:Zn),L[i]?=some z→ZoneOk (nxt (L.take i)) z
theorem ZonesOk.nx {L:List Zn} (h:ZonesOk L):∀(k:Nat),k≤L.length→1+(k:Int)≤nxt (L.take k)∧nxt (L.take k)≤65
 | 0,_=>by simp [nxt]
 | k+1,hk=>by
  obtain ⟨h1,h2⟩:=ZonesOk.nx h k (by omega)
  have hx:L[k]?=some L[k]:=List.getElem?_eq_getElem (by omega)
  have h3:=(h.each k _ hx).sz
  rw [take_snoc hx,nxt_snoc]
  omega
theorem ZonesOk.len {L:List Zn} (h:ZonesOk L):L.length≤64:=by have:=h.nx L.length (Nat.le_refl _);omega
theorem ZoneOk.flen {n:Int} {z:Zn} (h:ZoneOk n z) (hn:1≤n):z.free.length≤64:=
 pigeon 64 _ (nodup_asc h.asc) (fun x hx=>by
  have h1:=h.rng x hx
  have h2:=h.sz
  have h3:=h.fst
  omega)
theorem ZnA.cells {w:World} {S:Nat→Prop} {A:Option Addr} {n cap:Nat} {L:List Zn} (h:LA ZnR w S (.slice A n cap) L) {i:Nat} {z:Zn} (hi:L[i]?=some z):∃b o A' cap',A=some ⟨b,o,none⟩∧b<w.heap.size∧LA IntR w S (.slice A' z.free.length cap') z.free∧z.free.length≤cap'∧cap'≤maxLen∧
  w.cell? ⟨b,o+i*6,none⟩=some (.int .i64 z.first)∧w.cell? ⟨b,o+i*6+1,none⟩=some (.int .i64 z.size)∧w.cell? ⟨b,o+i*6+2,none⟩=some (.int .i64 z.mn)∧w.cell? ⟨b,o+i*6+3,none⟩=some (.int .i64 z.low)∧w.cell? ⟨b,o+i*6+4,none⟩=some (.int .i64 z.high)∧w.cell? ⟨b,o+i*6+5,none⟩=some (.slice A' z.free.length cap'):=by
 obtain ⟨b,o,cap',r,hv,c1,c2,hb,hS,hp,hc⟩:=h.at_ hi
 injection hv with e1 _ _
 obtain ⟨v,rfl,hf⟩:=hp
 obtain ⟨A',cf,rfl,q1,q2⟩:=hf.form
 exact ⟨b,o,A',cf,e1,hb,hf,q1,q2,hc 0 _ rfl,hc 1 _ rfl,hc 2 _ rfl,hc 3 _ rfl,hc 4 _ rfl,hc 5 _ rfl⟩
theorem zonesCheck_w (L:List Zn) (v:Value) (S:Nat→Prop) (w:World) (h:LA ZnR w S v L) (ok:ZonesOk L):Calls Tryz.prog 83 #[v] w (RetB true w):=by
 obtain ⟨A,cap,rfl,hc1,hc2⟩:=h.form
 have H:=H_ h
 have OK:=H_ ok
 have hlen:=ok.len
 have n0:=ok.ne
 have n1:(0:Int)<(L.length:Int):=by omega
 unfold maxLen at hc2
 clear h ok
 go_enter Tryz.func83,Tryz.ntmps83
 go_wp2
 go_loopw [3,4] (fun nx i wx=>∃k:Nat,i = .int .i64 k∧nx = .int .i64 (nxt (L.take k))∧k≤L.length∧Below w.heap.size w wx) (fun _ i _=>L.length - (intOf i).toNat)
 case atStart=>exact ⟨0,rfl,rfl,by omega,Below.refl _ _⟩
 case round=>
  obtain ⟨k,rfl,rfl,hk,hb⟩:=hrel
  have HB:=H_ hb
  clear hb
  obtain ⟨x1,x2⟩:=OK.out.nx k hk
  by_cases hlt:k<L.length
  ·obtain ⟨z,hz⟩:∃z,L[k]?=some z:=⟨_,List.getElem?_eq_getElem hlt⟩
   have hok:=OK.out.each k z hz
   obtain ⟨b,o,A',cap',rfl,hbl,hfr,q1,q2,c0,c1,c2,c3,c4,c5⟩:=ZnA.cells (H.out.step HB.out) hz
   have HN:=H_ (show nxt (L.take (k+1))=nxt (L.take k)+z.size by rw [take_snoc hz,nxt_snoc])
   have hfl:=hok.flen (by omega)
   obtain ⟨r1,⟨r2,r3⟩,⟨r4,r5,r6,r7⟩,r8,r9⟩:=hok
   obtain ⟨fi,si,mn,lo,hg,fr⟩:=z
   dsimp only at hfr q1 q2 c0 c1 c2 c3 c4 c5 HN hfl r1 r2 r3 r4 r5 r6 r7 r8 r9
   subst r1
   generalize nxt (L.take k)=nx at *
   have RNG:=H_ r8
   have ASC:=H_ r9
   have HF:=H_ hfr
   have d1:(nx != nx)=false:=by simp
   have d2:decide (si<1)=false:=dF (by omega)
   have d3:decide (65 - nx<si)=false:=dF (by omega)
   have d4:decide (mn<0)=false:=dF (by omega)
   have d5:decide (lo<mn)=false:=dF (by omega)
   have d6:decide (hg<lo)=false:=dF (by omega)
   have d7:decide (si<hg)=false:=dF (by omega)
   unfold maxLen at q2
   clear hz hfr r8 r9
   go_wp2
   have HZ:=H_ (heap_alloc_at wr (.cells #[.int .i64 nx,.int .i64 si,.int .i64 mn,.int .i64 lo,.int .i64 hg,.slice A' fr.length cap'] 139))
   have HZB:=H_ (bl_alloc HB.out (.cells #[.int .i64 nx,.int .i64 si,.int .i64 mn,.int .i64 lo,.int .i64 hg,.slice A' fr.length cap'] 139))
   have HF2:=H_ (HF.out.alloc (.cells #[.int .i64 nx,.int .i64 si,.int .i64 mn,.int .i64 lo,.int .i64 hg,.slice A' fr.length cap'] 139))
   clear c0 c1 c2 c3 c4 c5 HF
   go_loopw [6] (fun j wx=>∃m:Nat,j = .int .i64 m∧m≤fr.length∧Below w.heap.size w wx∧wx.heap[wr.heap.size]?=some (.cells #[.int .i64 nx,.int .i64 si,.int .i64 mn,.int .i64 lo,.int .i64 hg,.slice A' fr.length cap'] 139 (0,0))∧LA IntR wx S (.slice A' fr.length cap') fr) (fun j _=>fr.length - (intOf j).toNat)
   case atStart=>exact ⟨0,rfl,by omega,HZB.out,HZ.out,HF2.out⟩
   case round=>
    clear HZ HZB HF2 HB
    obtain ⟨m,rfl,hm,hb,hZ,hF⟩:=hrel
    have HB:=H_ hb
    have HZ:=H_ hZ
    have HF:=H_ hF
    obtain ⟨p0,p1,p2,p3,p4,p5⟩:=cs6 hZ
    have hlz:=bk_lt hZ
    clear hb hZ hF
    by_cases hlm:m<fr.length
    ·obtain ⟨x,hx⟩:∃x,fr[m]?=some x:=⟨_,List.getElem?_eq_getElem hlm⟩
     obtain ⟨b9,o9,cap9,hv,_,_,hb9,_,c0⟩:=IL.cell HF.out hx
     injection hv with e1 e2 e3
     obtain ⟨g1,g2⟩:=RNG.out x (List.mem_of_getElem? hx)
     have t1:decide (x<nx)=false:=dF (by omega)
     have t2:decide (nx+si≤x)=false:=dF (by omega)
     have w1:IntKind.i64.wrap (nx+si)=nx+si:=w64 (by omega)
     cases m with
     | zero=>
      rw [Nat.add_zero] at c0
      subst e1
      clear hx e2 e3
      go_upto_region 11 with fail
      go_quiet (fail)
      go_wp2
      go_roundw
      case rel=>exact ⟨1,rfl,by omega,below_drewN HB.out _,HZ.out,HF.out.step (below_drewN B_ _)⟩
      case measure=>simp [intOf];omega
     | succ m=>
      obtain ⟨y,hy⟩:∃y,fr[m]?=some y:=⟨_,List.getElem?_eq_getElem (by omega)⟩
      obtain ⟨b8,o8,cap8,hv8,_,_,_,_,c1⟩:=IL.cell HF.out hy
      injection hv8 with e4 _ _
      rw [e1] at e4
      injection e4 with e4
      injection e4 with e5 e6
      subst e1 e5 e6
      have hyx:y<x:=by
       have:=List.pairwise_iff_getElem.1 ASC.out m (m+1) (by omega) hlm (by omega)
       rw [←(List.getElem?_eq_some_iff.1 hy).2,←(List.getElem?_eq_some_iff.1 hx).2]
       exact this
      have t3:decide (x≤y)=false:=dF (by omega)
      have w2:IntKind.i64.wrap ((m:Int)+1 - 1)=(m:Int):=by rw [w64 (by omega)];omega
      have g0:(0:Int)<(m:Int)+1:=by omega
      clear hx hy e2 e3 hyx
      go_upto_region 11 with fail
      go_quiet (fail)
      go_wp2
      go_roundw
      case rel=>exact ⟨m+2,by go_num,by omega,below_drewN HB.out _,HZ.out,HF.out.step (below_drewN B_ _)⟩
      case measure=>simp [intOf];omega
    ·obtain rfl:m=fr.length:=by omega
     go_wp2
     go_roundw
     case rel=>exact ⟨k+1,by go_num,by rw [HN.out],by omega,HB.out⟩
     case measure=>simp [intOf];omega
  ·obtain rfl:k=L.length:=by omega
   go_wp2
   go_ret
   exact ⟨rfl,HB.out⟩
end
section
def RetZn (L:List Zn) (S:Nat→Prop) (w:World) (e:Ending) (w':World):Prop:=∃v,e = .returned v∧LA ZnR w' S v L∧Below w.heap.size w w'
abbrev znV (a b c d e:Int) (v:Value):Value:= .agg #[.int .i64 a,.int .i64 b,.int .i64 c,.int .i64 d,.int .i64 e,v]
theorem zwith_w (L:List Zn) (i:Nat) (a b c d f:Int) (u:Value) (l:List Int) (v:Value) (S:Nat→Prop) (w:World) (h:LA ZnR w S v L) (hi:i<L.length) (hu:LA IntR w S u l) (hl:L.length≤100) (hS:∀b,w.heap.size≤b→S b) :
  Calls Tryz.prog 118 #[v,.int .i64 i,znV a b c d f u] w (RetZn (L.set i ⟨a,b,c,d,f,l⟩) S w):=by
 obtain ⟨A,cap,rfl,hc1,hc2⟩:=h.form
 obtain ⟨A',cap',rfl,hc3,hc4⟩:=hu.form
 have H:=H_ h
 have HU:=H_ hu
 have HS:=H_ hS
 have HX:=H_ (heap_alloc_at w (.cells #[.int .i64 a,.int .i64 b,.int .i64 c,.int .i64 d,.int .i64 f,.slice A' l.length cap'] 139))
 have HB:=H_ (bl_alloc (Below.refl w.heap.size w) (.cells #[.int .i64 a,.int .i64 b,.int .i64 c,.int .i64 d,.int .i64 f,.slice A' l.length cap'] 139))
 have i0:(0:Int)≤(i:Int):=by omega
 have i1:(i:Int)<(L.length:Int):=by omega
 clear h hu hS
 go_enter Tryz.func118,Tryz.ntmps118
 go_wp2_with (first
  | (at_builtin;go_loud (refine wpList_copy ZnR zn_el rfl _ _ rfl rfl _ (fun z=>S z∧z<w.heap.size) L rfl (H.out.old.alloc _) (by omega) ?_);intro v4 w4 hown4 hg4;obtain ⟨G,cp,rfl,q1,q2,q3,hlw⟩:=hown4.lw (by omega);have HG:=H_ hg4;have HX4:=H_ (gb_keep hg4 HX.out (by simp));have HT:=H_ (hlw.there (i:=i) (p:=0) (n:=6) hi (by omega));have HW:=H_ hlw;clear hown4 hlw hg4;obtain ⟨p0,p1,p2,p3,p4,p5⟩:=cs6 HX4.out)
  | (refine wpList_store_mid rfl 139 (.tmp 13) (.tmp 12) rfl G (i*6) #[.int .i64 a,.int .i64 b,.int .i64 c,.int .i64 d,.int .i64 f,.slice A' l.length cap'] rfl rfl HT.out zn_size (by simp [Value.oneCell']) ?_))
 go_ret
 have hb:=HB.out.grown HG.out HB.out.size (fun b hb=>by cases hb)
 have hlt:w.heap.size<(w.alloc (.cells #[.int .i64 a,.int .i64 b,.int .i64 c,.int .i64 d,.int .i64 f,.slice A' l.length cap'] 139)).heap.size:=bk_lt HX.out
 have hset:=HW.out.set (i:=i) (a:=(⟨a,b,c,d,f,l⟩:Zn)) hi (vs:=[.int .i64 a,.int .i64 b,.int .i64 c,.int .i64 d,.int .i64 f,.slice A' l.length cap']) ⟨_,rfl,(HU.out.old.step hb).weak (fun z _ h=>⟨h,by have:=h.2;omega⟩)⟩
 refine ⟨_,rfl,?_,bl_setCells hb (by omega) _ _⟩
 have:=hset.la (S':=S) (cap:=cp) (HS.out G (by omega)) (fun z _ h=>h.1.1) (by rw [List.length_set];exact q1) q2
 rw [List.length_set] at this
 exact this
def canZ (z:Zn) (u:Bool):Bool:=decide (z.mn<(z.free.length:Int))||(u&&decide (0<z.free.length))
def takeI (L:List Zn) (u:Bool):Nat→Option Nat
 | 0=>none
 | i+1=>match L[i]? with
  | some z=>if canZ z u then some i else takeI L u i
  | none=>none
def takeZ (L:List Zn) (u:Bool) (p:Nat):List Zn × Int × Int:=
 match takeI L u (p+1) with
 | some i=>match L[i]? with
  | some z=>(L.set i {z with free:=z.free.drop 1},z.free.headD 0,0)
  | none=>(L,0,3)
 | none=>(L,0,3)
def RetZT (r:List Zn × Int × Int) (S:Nat→Prop) (w:World) (e:Ending) (w':World):Prop:=∃v,e = .returned (.tuple #[v,.int .i64 r.2.1,.int .i64 r.2.2])∧LA ZnR w' S v r.1∧Below w.heap.size w w'
theorem take_w (L:List Zn) (p:Nat) (u:Bool) (v:Value) (S:Nat→Prop) (w:World) (h:LA ZnR w S v L) (hp:p<L.length) (ok:ZonesOk L) (hS:∀b,w.heap.size≤b→S b) :
  Calls Tryz.prog 68 #[v,.int .i64 p,.bool u] w (RetZT (takeZ L u p) S w):=by
 obtain ⟨A,cap,rfl,hc1,hc2⟩:=h.form
 have hck:=zonesCheck_w L _ S w h ok
 have H:=H_ h
 have OK:=H_ ok
 have HS:=H_ hS
 have hlen:=ok.len
 have i0:(0:Int)≤(p:Int):=by omega
 have i1:(p:Int)<(L.length:Int):=by omega
 clear h ok hS
 unfold maxLen at hc2
 go_enter Tryz.func68,Tryz.ntmps68
 go_wp2_with (go_at_call 83;(with_reducible refine CM hck ?_);rintro e w1 ⟨rfl,hb1⟩;have HB1:=H_ hb1;clear hb1)
 go_loopw [9] (fun i wx=>∃k:Nat,i = .int .i64 ((k:Int) - 1)∧k≤p+1∧takeI L u (p+1)=takeI L u k∧Below w.heap.size w wx) (fun i _=>(intOf i+1).toNat)
 case atStart=>exact ⟨p+1,by go_num,by omega,rfl,HB1.out⟩
 case round=>
  clear HB1
  obtain ⟨k,rfl,hk,hta,hb⟩:=hrel
  have HB:=H_ hb
  have HTA:=H_ hta
  clear hb hta
  cases k with
  | zero=>
   have HQ:=H_ (show takeZ L u p=(L,0,3) by unfold takeZ;rw [HTA.out];rfl)
   go_wp2
   go_ret3
   rw [HQ.out]
   exact ⟨_,rfl,H.out.step HB.out,HB.out⟩
  | succ i=>
   have hi:i<L.length:=by omega
   obtain ⟨z,hz⟩:∃z,L[i]?=some z:=⟨_,List.getElem?_eq_getElem hi⟩
   have hok:=OK.out.each i z hz
   have x1:=(OK.out.nx i (by omega)).1
   obtain ⟨b,o,A',cap',rfl,hbl,hfr,q1,q2,c0,c1,c2,c3,c4,c5⟩:=ZnA.cells (H.out.step HB.out) hz
   have hfl:=hok.flen (by omega)
   have HZ:=H_ hz
   have hwi:=fun v' w' (hb:Below w.heap.size w w') hu=>zwith_w L i z.first z.size z.mn z.low z.high v' (z.free.drop 1) _ S w' (H.out.step hb) hi hu (by omega) (fun b hb'=>HS.out b (Nat.le_trans hb.size hb'))
   have HT1:=H_ (show takeI L u (i+1)=if canZ z u then some i else takeI L u i by simp only [takeI];rw [hz])
   have e1:((i+1:Nat):Int) - 1=(i:Int):=by omega
   rw [e1]
   obtain ⟨fi,si,mn,lo,hg,fr⟩:=z
   dsimp only at hfr q1 q2 c0 c1 c2 c3 c4 c5 hfl hwi
   have ilt:(i:Int)<(L.length:Int):=by omega
   clear hz hok e1
   unfold maxLen at q2
   cases hcan:canZ ⟨fi,si,mn,lo,hg,fr⟩ u with
   | false=>
    have HN:=H_ (show takeI L u (p+1)=takeI L u i by rw [HTA.out,HT1.out,hcan];rfl)
    have hc':decide (mn<(fr.length:Int))=false∧(u&&decide (0<fr.length))=false:=Bool.or_eq_false_iff.1 hcan
    obtain ⟨d1,d2⟩:=hc'
    clear hcan
    cases u with
    | true=>
     have hf0:fr.length=0:=by have:=of_decide_eq_false (show decide (0<fr.length)=false from d2);omega
     have d3:decide (0<fr.length)=false:=d2
     have d4:decide ((0:Int)<(fr.length:Int))=false:=dF (by omega)
     clear hf0 d2
     go_wp2
     go_roundw
     case rel=>exact ⟨i,by go_num,by omega,HN.out,bl_alloc HB.out _⟩
     case measure=>first | (simp [intOf];done) | (simp [intOf];omega)
    | false=>
     clear d2
     go_wp2
     go_roundw
     case rel=>exact ⟨i,by go_num,by omega,HN.out,bl_alloc HB.out _⟩
     case measure=>first | (simp [intOf];done) | (simp [intOf];omega)
   | true=>
    have hpos:0<fr.length:=by
     rcases Bool.or_eq_true_iff.1 hcan with h | h
     ·have h:=of_decide_eq_true h
      have:=OK.out
      have hz:=this.each i _ HZ.out
      have:=hz.wm.1
      dsimp only at h this
      omega
     ·exact of_decide_eq_true ((Bool.and_eq_true_iff.1 h).2)
    have HN:=H_ (show takeZ L u p=(L.set i ⟨fi,si,mn,lo,hg,fr.drop 1⟩,fr.headD 0,0) by unfold takeZ;rw [HTA.out,HT1.out,hcan];simp only [if_true];rw [HZ.out])
    obtain ⟨x,tl,rfl⟩:∃x tl,fr=x :: tl:=by cases fr with
     | nil=>simp at hpos
     | cons x tl=>exact ⟨x,tl,rfl⟩
    simp only [List.drop_succ_cons,List.drop_zero] at hwi
    obtain ⟨b8,o8,cap8,hv8,_,_,hb8,_,g0⟩:=IL.cell hfr (i:=0) (x:=x) rfl
    injection hv8 with e4 e5 e6
    subst e4
    clear e5 e6
    rw [Nat.add_zero] at g0
    obtain ⟨B0,hB0⟩:∃B0:Option Addr,(if cap'=1 then some (⟨b8,o8,none⟩:Addr) else some ⟨b8,o8+1,none⟩)=B0:=⟨_,rfl⟩
    have hdr:=hfr.drop (n:=1) (by simp) B0 (fun h=>by rw [←hB0,if_neg (by omega)])
    obtain ⟨m,hm⟩:∃m,m=(x :: tl).length:=⟨_,rfl⟩
    have hm1:1≤m:=by rw [hm];simp
    have hfl':m≤64:=by rw [hm];exact hfl
    have hcan':decide (mn<(m:Int))=true∨(decide (mn<(m:Int))=false∧u=true):=by
     rw [hm]
     rcases Bool.or_eq_true_iff.1 hcan with h | h
     ·exact .inl h
     ·cases hd:decide (mn<((x :: tl).length:Int)) with
      | true=>exact .inl rfl
      | false=>exact .inr ⟨rfl,(Bool.and_eq_true_iff.1 h).1⟩
    rw [←hm] at c5 hdr q1
    have HDR:=H_ hdr
    have g1:(0:Int)<(m:Int):=by omega
    have g2:1≤cap':=by omega
    have htl:tl.length≤64:=by have:=hfl;simp at this;omega
    have hsw:=HB.out.size
    have gn:0<m:=by omega
    clear hfr hdr hfl hpos hcan hm HT1 HTA
    rcases hcan' with d1 | ⟨d1,rfl⟩
    all_goals
     go_wp2_with (first
      | (at_builtin;go_loud (refine wpList_copy IntR int_el rfl _ _ rfl rfl (.slice B0 (m - 1) (cap' - 1)) (fun z=>S z∧z<wr.heap.size) tl rfl (HDR.out.old.alloc _) (by omega) ?_);intro v4 w4 hown4 hg4;obtain ⟨A5,c9,rfl,_,_⟩:=(hown4.la (S':=Any) (fun _ _ _=>trivial) (fun _ _=>trivial)).form;have HZ4:=H_ (gb_keep hg4 (heap_alloc_at wr _) (by simp));have f5:=free_at HZ4.out 5;obtain ⟨p0,p1,p2,p3,p4,p5⟩:=cs6 HZ4.out;have HB5:=H_ (bl_set ((bl_alloc HB.out _).grown hg4 (bl_alloc HB.out _).size (fun b hb=>by cases hb)) ⟨wr.heap.size,5,none⟩ (.slice A5 tl.length c9) hsw);have HU5:=H_ (((hown4.la (S':=fun z=>S z∧z≠wr.heap.size) (fun b _ h=>⟨h.1,by have:=h.2;omega⟩) (fun b hb=>by simp at hb;exact ⟨HS.out b (by omega),by omega⟩)).kept (KeepS.of_setCell w4 ⟨wr.heap.size,5,none⟩ (.slice A5 tl.length c9) (fun h=>h.2 rfl))).weak (S':=S) (fun _ _ h=>h.1));clear hown4 hg4)
      | (go_at_call 118;(with_reducible refine CM (hwi _ _ HB5.out HU5.out) ?_);rintro e w6 ⟨v6,rfl,hu6,hb6⟩))
     go_ret3
     rw [HN.out]
     exact ⟨_,rfl,hu6,bl_step HB5.out hb6⟩
def freeZ (L:List Zn):Nat:=(L.map (fun z=>z.free.length)).sum
theorem freeZ_snoc (L:List Zn) (z:Zn):freeZ (L ++ [z])=freeZ L+z.free.length:=by unfold freeZ;rw [List.map_append,List.sum_append];simp
theorem freeZ_le {L:List Zn} (h:∀z ∈ L,z.free.length≤64):freeZ L≤L.length*64:=by
 induction L with
 | nil=>simp [freeZ]
 | cons z L ih=>
  have h1:=h z (List.mem_cons_self ..)
  have h2:=ih fun x hx=>h x (List.mem_cons_of_mem _ hx)
  unfold freeZ at h2 ⊢
  rw [List.map_cons,List.sum_cons,List.length_cons]
  omega
theorem zfree_w (L:List Zn) (v:Value) (S:Nat→Prop) (w:World) (h:LA ZnR w S v L) (ok:ZonesOk L):Calls Tryz.prog 44 #[v] w (RetI (freeZ L) w):=by
 obtain ⟨A,cap,rfl,hc1,hc2⟩:=h.form
 have hck:=zonesCheck_w L _ S w h ok
 have hlen:=ok.len
 have hfl:∀k,k≤L.length→freeZ (L.take k)≤k*64:=fun k hk=>by
  have h1:=freeZ_le (L:=L.take k) (fun z hz=>by
   obtain ⟨i,hi⟩:=List.getElem?_of_mem (List.mem_of_mem_take hz)
   have:=ok.nx i (Nat.le_of_lt (g_l hi))
   exact (ok.each i z hi).flen (by omega))
  rw [List.length_take,Nat.min_eq_left hk] at h1
  exact h1
 have H:=H_ h
 have HF:=H_ hfl
 clear h ok hfl
 unfold maxLen at hc2
 go_enter Tryz.func44,Tryz.ntmps44
 go_wp2_with (go_at_call 83;(with_reducible refine CM hck ?_);rintro e w1 ⟨rfl,hb1⟩;have HB1:=H_ hb1;clear hb1)
 go_loop [3,4] (fun n i=>∃k:Nat,i = .int .i64 k∧k≤L.length∧n = .int .i64 (freeZ (L.take k))) (fun _ i=>L.length - (intOf i).toNat)
 case atStart=>exact ⟨0,rfl,by omega,rfl⟩
 case round=>
  obtain ⟨k,rfl,hk,rfl⟩:=hrel
  have h1:=HF.out k hk
  have h2:(freeZ (L.take k):Int)≤4096:=by omega
  by_cases hlt:k<L.length
  ·obtain ⟨z,hz⟩:∃z,L[k]?=some z:=⟨_,List.getElem?_eq_getElem hlt⟩
   obtain ⟨b,o,A',cap',rfl,hbl,hfr,q1,q2,c0,c1,c2,c3,c4,c5⟩:=ZnA.cells (H.out.step HB1.out) hz
   have HN:=H_ (show freeZ (L.take (k+1))=freeZ (L.take k)+z.free.length by rw [take_snoc hz,freeZ_snoc])
   have h3:=HF.out (k+1) (by omega)
   rw [HN.out] at h3
   have h4:(z.free.length:Int)≤4160:=by omega
   generalize freeZ (L.take k)=fz at *
   clear hz hfr
   go_wp2
   go_round
   case rel=>exact ⟨k+1,by go_num,by omega,by rw [HN.out];go_num⟩
   case measure=>simp [intOf];omega
  ·obtain rfl:k=L.length:=by omega
   rw [List.take_length] at *
   go_wp2
   go_ret
   exact ⟨rfl,HB1.out⟩
end
section
theorem ZonesOk.mono {L:List Zn} (h:ZonesOk L) {k:Nat}:∀(i:Nat),k≤i→i≤L.length→nxt (L.take k)≤nxt (L.take i)
 | 0,hk,_=>by rw [Nat.le_zero.1 hk];exact Int.le_refl _
 | i+1,hk,hi=>by
  by_cases he:k=i+1
  ·rw [he];exact Int.le_refl _
  ·have h1:=ZonesOk.mono (k:=k) h i (by omega) (by omega)
   have hx:L[i]?=some L[i]:=List.getElem?_eq_getElem (by omega)
   have h3:=(h.each i _ hx).sz
   rw [take_snoc hx,nxt_snoc]
   omega
theorem ZonesOk.before {L:List Zn} (h:ZonesOk L) {k i:Nat} {z z':Zn} (hk:L[k]?=some z) (hi:L[i]?=some z') (hki:k<i):z.first+z.size≤z'.first:=by
 have h1:=h.mono (k:=k+1) i hki (Nat.le_of_lt (g_l hi))
 rw [take_snoc hk,nxt_snoc] at h1
 have h2:=(h.each k z hk).fst
 have h3:=(h.each i z' hi).fst
 omega
def RetZE (L:List Zn) (err:Int) (S:Nat→Prop) (w:World) (e:Ending) (w':World):Prop:=∃v,e = .returned (.tuple #[v,.int .i64 err])∧LA ZnR w' S v L∧Below w.heap.size w w'
theorem int_la {e:TypeId} {w:World} {base:Nat} {S S':Nat→Prop} {v:Value} {L:List Int} (h:LO IntR e w base S v L) (_:∀b,base≤b→True) (hb:∀b,base≤b→S' b):LA IntR w S' v L:=by
 obtain ⟨rows,w1,w2⟩:=h
 have h2:LO IntR e w base (fun _=>False) v L:=⟨rows,w1,w2⟩
 exact h2.la (fun _ _ h=>h.elim) hb
theorem give_w (L:List Zn) (i:Nat) (z:Zn) (f:Int) (v:Value) (S:Nat→Prop) (w:World) (h:LA ZnR w S v L) (hi:L[i]?=some z) (hf:z.first≤f∧f<z.first+z.size) (hnf:f ∉ z.free) (ok:ZonesOk L) (hS:∀b,w.heap.size≤b→S b) :
  Calls Tryz.prog 137 #[v,.int .i64 f] w (RetZE (L.set i {z with free:=insL z.free f}) 0 S w):=by
 obtain ⟨A,cap,rfl,hc1,hc2⟩:=h.form
 have hck:=zonesCheck_w L _ S w h ok
 have hil:=(g_l hi)
 have H:=H_ h
 have OK:=H_ ok
 have HS:=H_ hS
 have HI:=H_ hi
 have HNF:=H_ hnf
 have hlen:=ok.len
 clear h ok hS hi hnf
 unfold maxLen at hc2
 go_enter Tryz.func137,Tryz.ntmps137
 go_wp2_with (go_at_call 83;(with_reducible refine CM hck ?_);rintro e w1 ⟨rfl,hb1⟩;have HB1:=H_ hb1;clear hb1)
 go_loopw [6] (fun j wx=>∃k:Nat,j = .int .i64 k∧k≤i∧Below w.heap.size w wx) (fun j _=>L.length - (intOf j).toNat)
 case atStart=>exact ⟨0,rfl,by omega,HB1.out⟩
 case round=>
  clear HB1
  obtain ⟨k,rfl,hk,hb⟩:=hrel
  have HB:=H_ hb
  clear hb
  have hkl:k<L.length:=by omega
  obtain ⟨zk,hz⟩:∃z,L[k]?=some z:=⟨_,List.getElem?_eq_getElem hkl⟩
  have hok:=OK.out.each k zk hz
  obtain ⟨x1,x2⟩:=OK.out.nx k (by omega)
  obtain ⟨b,o,A',cap',rfl,hbl,hfr,q1,q2,c0,c1,c2,c3,c4,c5⟩:=ZnA.cells (H.out.step HB.out) hz
  have hfl:=hok.flen (by omega)
  have hs1:=hok.sz
  have hs2:=hok.fst
  have hs3:=hok.sz
  by_cases hki:k<i
  ·have hbf:=OK.out.before hz HI.out hki
   obtain ⟨fi,si,mn,lo,hg,fr⟩:=zk
   dsimp only at hfr q1 q2 c0 c1 c2 c3 c4 c5 hfl hbf hs1 hs2
   have d1:decide (f<fi)=false:=dF (by omega)
   have d2:decide (fi+si≤f)=true:=dT (by omega)
   have b1:-1000≤fi:=by omega
   have b2:fi≤1000:=by omega
   have b3:si≤1000:=by omega
   unfold maxLen at q2
   clear hz hok hfr hs2
   go_wp2
   go_roundw
   case rel=>exact ⟨k+1,by go_num,by omega,bl_alloc HB.out _⟩
   case measure=>simp [intOf];omega
  ·obtain rfl:k=i:=by omega
   obtain rfl:zk=z:=Option.some.inj (hz.symm.trans HI.out)
   have hwi:=fun v' w' (hb:Below w.heap.size w w') hu=>zwith_w L k zk.first zk.size zk.mn zk.low zk.high v' (insL zk.free f) _ S w' (H.out.step hb) hkl hu (by omega) (fun b hb'=>HS.out b (Nat.le_trans hb.size hb'))
   obtain ⟨fi,si,mn,lo,hg,fr⟩:=zk
   dsimp only at hfr q1 q2 c0 c1 c2 c3 c4 c5 hfl hs1 hs2 hf HNF hwi
   have d1:decide (f<fi)=false:=dF (by omega)
   have d2:decide (fi+si≤f)=false:=dF (by omega)
   have b1:-1000≤fi:=by omega
   have b2:fi≤1000:=by omega
   have b3:si≤1000:=by omega
   have hsw:=HB.out.size
   unfold maxLen at q2
   have HF0:=H_ hfr
   obtain ⟨V,hV⟩:∃V:World,V=wr:=⟨_,rfl⟩
   subst hV
   clear hz hok hfr hs2
   go_wp2
   go_loopw [8,9,10] (fun u dv j wx=>∃(m:Nat) (d:Bool),j = .int .i64 m∧dv = .bool d∧m≤fr.length∧insB fr f m d∧LO IntR 3 wx (V.heap.size+1) S u (insK fr f m d)∧Below (V.heap.size+1) (V.alloc (.cells #[.int .i64 fi,.int .i64 si,.int .i64 mn,.int .i64 lo,.int .i64 hg,.slice A' fr.length cap'] 139)) wx) (fun _ _ j _=>fr.length - (intOf j).toNat)
   case atStart=>exact ⟨0,false,rfl,rfl,by omega,insB.zero _ _,LO.nil _ _ _ _ _,Below.refl _ _⟩
   case round=>
    clear c0 c1 c2 c3 c4 c5
    obtain ⟨m,d,rfl,rfl,hm,hi,ho,hbx⟩:=hrel
    have HO:=H_ ho
    have HII:=H_ hi
    have hbx:Below (V.alloc (.cells #[.int .i64 fi,.int .i64 si,.int .i64 mn,.int .i64 lo,.int .i64 hg,.slice A' fr.length cap'] 139)).heap.size (V.alloc (.cells #[.int .i64 fi,.int .i64 si,.int .i64 mn,.int .i64 lo,.int .i64 hg,.slice A' fr.length cap'] 139)) wr:=by simpa using hbx
    have HBX:=H_ hbx
    have hZ:=bk_step (heap_alloc_at V (.cells #[.int .i64 fi,.int .i64 si,.int .i64 mn,.int .i64 lo,.int .i64 hg,.slice A' fr.length cap'] 139)) hbx
    have HZ:=H_ hZ
    have hszx:=hbx.size
    rw [show (V.alloc (.cells #[.int .i64 fi,.int .i64 si,.int .i64 mn,.int .i64 lo,.int .i64 hg,.slice A' fr.length cap'] 139)).heap.size=V.heap.size+1 by simp] at hszx
    have hkl2:=insK_len fr f m d
    have hF:LA IntR wr S (.slice A' fr.length cap') fr:=(HF0.out.alloc _).step hbx
    have HBW:=H_ (bl_step (bl_alloc HB.out _) hbx)
    have HF:=H_ hF
    obtain ⟨p0,p1,p2,p3,p4,p5⟩:=cs6 hZ
    clear ho hi hbx hZ
    by_cases hlm:m<fr.length
    ·obtain ⟨x,hx⟩:∃x,fr[m]?=some x:=⟨_,List.getElem?_eq_getElem hlm⟩
     obtain ⟨b9,o9,cap9,hv,_,_,hb9,_,c0⟩:=IL.cell hF hx
     injection hv with e1 e2 e3
     subst e1
     have hxf:¬x=f:=fun e=>HNF.out (e ▸ List.mem_of_getElem? hx)
     have HXX:=H_ hx
     clear e2 e3 hx hF
     cases d with
     | true=>
      have HN:=H_ (HII.out.t HXX.out)
      go_wp2_with (at_builtin;go_loud (refine wpList_push IntR int_el rfl (.tmp 68) (.tmp 74) rfl _ (V.heap.size+1) S (insK fr f m true) rfl (HO.out.alloc _) (by simp;omega) (by omega) _ #[.int .i64 x] rfl _ (heap_at_new _ _ _ rfl) x rfl ?_);intro v4 w4 hown4 hg4 hat4)
      go_roundw
      case rel=>exact ⟨m+1,true,by go_num,rfl,by omega,HN.out.1,by rw [HN.out.2];exact hown4,by
       have:=(bl_alloc HBX.out (.cells #[.int .i64 x] 3)).grown hg4 (bl_alloc HBX.out _).size (fun b hb=>by have:=(HO.out.own hb).1;simp;omega)
       simpa using this⟩
      case measure=>simp [intOf];omega
     | false=>
      by_cases hnx:f<x
      ·have HN:=H_ (HII.out.now HXX.out hnx)
       go_wp2_with (first
        | ((at_builtin;go_loud (refine wpList_push IntR int_el rfl (.tmp 64) (.tmp 66) rfl _ (V.heap.size+1) S (insK fr f m false) rfl (HO.out.alloc _) (by simp;omega) (by omega) _ #[.int .i64 f] rfl _ (heap_at_new _ _ _ rfl) f rfl ?_);intro v4 w4 hown4 hg4 hat4);have HO4:=H_ hown4;have hbx4:=(bl_alloc HBX.out (.cells #[.int .i64 f] 3)).grown hg4 (bl_alloc HBX.out _).size (fun b hb=>by have:=(HO.out.own hb).1;simp;omega);have HBX4:=H_ hbx4;have HZ4:=H_ (bk_step (heap_alloc_at V (.cells #[.int .i64 fi,.int .i64 si,.int .i64 mn,.int .i64 lo,.int .i64 hg,.slice (some ⟨b9,o9,none⟩) fr.length cap'] 139)) hbx4);have s4:=hbx4.size;rw [show (V.alloc (.cells #[.int .i64 fi,.int .i64 si,.int .i64 mn,.int .i64 lo,.int .i64 hg,.slice (some ⟨b9,o9,none⟩) fr.length cap'] 139)).heap.size=V.heap.size+1 by simp] at s4;obtain ⟨b7,o7,cap7,hv7,_,_,hb7,_,g0⟩:=IL.cell ((HF0.out.alloc (.cells #[.int .i64 fi,.int .i64 si,.int .i64 mn,.int .i64 lo,.int .i64 hg,.slice (some ⟨b9,o9,none⟩) fr.length cap'] 139)).step hbx4) HXX.out;injection hv7 with e1 e2 e3;injection e1 with e1;injection e1 with e4 e5;subst e4 e5;clear e2 e3 c0 p0 p1 p2 p3 p4 p5 hown4 hg4 hat4 hbx4;obtain ⟨p0,p1,p2,p3,p4,p5⟩:=cs6 HZ4.out)
        | (at_builtin;go_loud (refine wpList_push IntR int_el rfl (.tmp 68) (.tmp 74) rfl _ (V.heap.size+1) S (insK fr f m false ++ [f]) rfl (HO4.out.alloc _) (by simp;omega) (by simp;omega) _ #[.int .i64 x] rfl _ (heap_at_new _ _ _ rfl) x rfl ?_);intro v5 w5 hown5 hg5 hat5))
       go_roundw
       case rel=>exact ⟨m+1,true,by go_num,rfl,by omega,HN.out.1,by rw [HN.out.2];exact hown5,by
        have:=(bl_alloc HBX4.out (.cells #[.int .i64 x] 3)).grown hg5 (bl_alloc HBX4.out _).size (fun b hb=>by have:=(HO4.out.own hb).1;simp;omega)
        simpa using this⟩
       case measure=>simp [intOf];omega
      ·have HN:=H_ (HII.out.f HXX.out hnx)
       go_wp2_with (at_builtin;go_loud (refine wpList_push IntR int_el rfl (.tmp 68) (.tmp 74) rfl _ (V.heap.size+1) S (insK fr f m false) rfl (HO.out.alloc _) (by simp;omega) (by omega) _ #[.int .i64 x] rfl _ (heap_at_new _ _ _ rfl) x rfl ?_);intro v4 w4 hown4 hg4 hat4)
       go_roundw
       case rel=>exact ⟨m+1,false,by go_num,rfl,by omega,HN.out.1,by rw [HN.out.2];exact hown4,by
        have:=(bl_alloc HBX.out (.cells #[.int .i64 x] 3)).grown hg4 (bl_alloc HBX.out _).size (fun b hb=>by have:=(HO.out.own hb).1;simp;omega)
        simpa using this⟩
       case measure=>simp [intOf];omega
    ·obtain rfl:m=fr.length:=by omega
     cases d with
     | true=>
      rw [insB.endT] at HO
      obtain ⟨A5,c9,rfl,_,_⟩:=(HO.out.la (S':=Any) (fun _ _ _=>trivial) (fun _ _=>trivial)).form
      have f5:=free_at HZ.out 5
      have HB5:=H_ (bl_set HBW.out ⟨V.heap.size,5,none⟩ (.slice A5 (insL fr f).length c9) hsw)
      have HU5:=H_ ((int_la HO.out (fun _ _=>trivial) (S':=fun z=>S z∧z≠V.heap.size) (fun b hb=>⟨HS.out b (by omega),by omega⟩)).kept (KeepS.of_setCell wr ⟨V.heap.size,5,none⟩ (.slice A5 (insL fr f).length c9) (fun h=>h.2 rfl)) |>.weak (S':=S) (fun _ _ h=>h.1))
      go_wp2_with (go_at_call 118;(with_reducible refine CM (hwi _ _ HB5.out HU5.out) ?_);rintro e w6 ⟨v6,rfl,hu6,hb6⟩)
      go_ret2
      exact ⟨_,rfl,hu6,bl_step HB5.out hb6⟩
     | false=>
      have HN:=H_ (HII.out.endF)
      go_wp2_with (first
       | ((at_builtin;go_loud (refine wpList_push IntR int_el rfl (.tmp 78) (.tmp 80) rfl _ (V.heap.size+1) S (insK fr f fr.length false) rfl (HO.out.alloc _) (by simp;omega) (by omega) _ #[.int .i64 f] rfl _ (heap_at_new _ _ _ rfl) f rfl ?_);intro v4 w4 hown4 hg4 hat4);rw [HN.out] at hown4;obtain ⟨A5,c9,rfl,_,_⟩:=(hown4.la (S':=Any) (fun _ _ _=>trivial) (fun _ _=>trivial)).form;have hbx4:=(bl_alloc HBX.out (.cells #[.int .i64 f] 3)).grown hg4 (bl_alloc HBX.out _).size (fun b hb=>by have:=(HO.out.own hb).1;simp;omega);have HZ4:=H_ (bk_step (heap_alloc_at V (.cells #[.int .i64 fi,.int .i64 si,.int .i64 mn,.int .i64 lo,.int .i64 hg,.slice A' fr.length cap'] 139)) hbx4);have s4:=hbx4.size;rw [show (V.alloc (.cells #[.int .i64 fi,.int .i64 si,.int .i64 mn,.int .i64 lo,.int .i64 hg,.slice A' fr.length cap'] 139)).heap.size=V.heap.size+1 by simp] at s4;have f5:=free_at HZ4.out 5;clear p0 p1 p2 p3 p4 p5;obtain ⟨p0,p1,p2,p3,p4,p5⟩:=cs6 HZ4.out;have HB5:=H_ (bl_set (bl_step (bl_alloc HB.out _) hbx4) ⟨V.heap.size,5,none⟩ (.slice A5 (insL fr f).length c9) hsw);have HU5:=H_ ((int_la hown4 (fun _ _=>trivial) (S':=fun z=>S z∧z≠V.heap.size) (fun b hb=>⟨HS.out b (by omega),by omega⟩)).kept (KeepS.of_setCell w4 ⟨V.heap.size,5,none⟩ (.slice A5 (insL fr f).length c9) (fun h=>h.2 rfl)) |>.weak (S':=S) (fun _ _ h=>h.1));clear hown4 hg4 hat4 hbx4)
       | (go_at_call 118;(with_reducible refine CM (hwi _ _ HB5.out HU5.out) ?_);rintro e w6 ⟨v6,rfl,hu6,hb6⟩))
      go_ret2
      exact ⟨_,rfl,hu6,bl_step HB5.out hb6⟩
end
end Go.Proofs.YthhekebemmckcaaGreatDoor
