/-
  Lemmas and contracts for the laws of synchronisations (layer 43), part 15; several texts joined by a program.
-/
import Derived.Test.YthhekebemmckcaaGreatDoorJ01
import Derived.Test.YthhekebemmckcaaGreatDoorJ14
import Derived.StillTailTactics
namespace Go.Proofs.YthhekebemmckcaaGreatDoor
set_option linter.unusedVariables false
set_option linter.unusedSimpArgs false
set_option maxRecDepth 100000
set_option maxHeartbeats 16000000
open Go.RowKit
section
def upN (a:Int) (n:Nat):List Int:=(List.range n).map (fun i:Nat=>a+(i:Int))
theorem upN_snoc (a:Int) (n:Nat):upN a (n+1)=upN a n ++ [a+n]:=by unfold upN;rw [List.range_succ,List.map_append];rfl
theorem upN_len (a:Int) (n:Nat):(upN a n).length=n:=by unfold upN;simp
def newZ (next n:Int):Zn:=⟨next,n,n / 8,n / 4,n / 2,upN next n.toNat⟩
def newZs:Int→List Int→List Zn
 | _,[]=>[]
 | next,n :: l=>newZ next n :: newZs (next+n) l
def sumI (l:List Int):Int:=l.foldl (fun a n=>a+n) 0
theorem foldl_add (l:List Int) (a:Int):l.foldl (fun a n=>a+n) a=a+l.foldl (fun a n=>a+n) 0:=by
 induction l generalizing a with
 | nil=>simp
 | cons x l ih=>rw [List.foldl_cons,List.foldl_cons,ih,ih (0+x)];omega
theorem sumI_snoc (l:List Int) (n:Int):sumI (l ++ [n])=sumI l+n:=by unfold sumI;rw [List.foldl_append];rfl
theorem newZs_snoc (n:Int):∀(l:List Int) (a:Int),newZs a (l ++ [n])=newZs a l ++ [newZ (a+sumI l) n]
 | [],a=>by simp [newZs,sumI]
 | x :: l,a=>by
  simp only [List.cons_append,newZs]
  rw [newZs_snoc n l (a+x)]
  have:sumI (x :: l)=x+sumI l:=by unfold sumI;rw [List.foldl_cons,foldl_add];omega
  rw [this,Int.add_assoc]
theorem newZs_len:∀(l:List Int) (a:Int),(newZs a l).length=l.length
 | [],_=>rfl
 | x :: l,a=>by simp [newZs,newZs_len l]
theorem nxt_newZs:∀(l:List Int),nxt (newZs 1 l)=1+sumI l:=by
 have key:∀(l:List Int) (a b:Int),(newZs a l).foldl (fun n z=>n+z.size) b=b+sumI l:=fun l=>by
  induction l with
  | nil=>intro a b;simp [newZs,sumI]
  | cons x l ih=>
   intro a b
   simp only [newZs,List.foldl_cons]
   rw [ih]
   have:sumI (x :: l)=x+sumI l:=by unfold sumI;rw [List.foldl_cons,foldl_add];omega
   rw [this]
   show b+x+sumI l=_
   omega
 intro l
 exact key l 1 1
structure SzOk (l:List Int):Prop where
 pos:0<l.length
 each:∀n ∈ l,1≤n
 all:sumI l≤64
theorem SzOk.part {l:List Int} (h:SzOk l):∀(k:Nat),k≤l.length→0≤sumI (l.take k)∧sumI (l.take k)≤sumI l∧∀n,l[k]?=some n→sumI (l.take k)+n≤sumI l:=by
 have up:∀(k:Nat),k≤l.length→0≤sumI (l.take k):=fun k=>by
  induction k with
  | zero=>intro _;simp [sumI]
  | succ k ih=>
   intro hk
   have hx:l[k]?=some l[k]:=List.getElem?_eq_getElem (by omega)
   have:=h.each _ (List.mem_of_getElem? hx)
   rw [take_snoc hx,sumI_snoc]
   have:=ih (by omega)
   omega
 have down:∀(j k:Nat),k+j=l.length→sumI (l.take k)≤sumI l:=fun j=>by
  induction j with
  | zero=>intro k hk;rw [List.take_of_length_le (by omega)];exact Int.le_refl _
  | succ j ih=>
   intro k hk
   have hx:l[k]?=some l[k]:=List.getElem?_eq_getElem (by omega)
   have h1:=h.each _ (List.mem_of_getElem? hx)
   have h2:=ih (k+1) (by omega)
   rw [take_snoc hx,sumI_snoc] at h2
   omega
 intro k hk
 refine ⟨up k hk,down (l.length - k) k (by omega),fun n hn=>?_⟩
 have hkl:=(g_l hn)
 have:=down (l.length - (k+1)) (k+1) (by omega)
 rw [take_snoc hn,sumI_snoc] at this
 exact this
theorem SzOk.len {l:List Int} (h:SzOk l):l.length≤64:=by
 have key:∀(k:Nat),k≤l.length→(k:Int)≤sumI (l.take k):=fun k=>by
  induction k with
  | zero=>intro _;simp [sumI]
  | succ k ih=>
   intro hk
   have hx:l[k]?=some l[k]:=List.getElem?_eq_getElem (by omega)
   have:=h.each _ (List.mem_of_getElem? hx)
   rw [take_snoc hx,sumI_snoc]
   have:=ih (by omega)
   omega
 have h1:=key l.length (Nat.le_refl _)
 rw [List.take_length] at h1
 have:=h.all
 omega
theorem upN_mem {a x:Int} {n:Nat} (h:x ∈ upN a n):a≤x∧x<a+n:=by
 unfold upN at h
 obtain ⟨i,hi,rfl⟩:=List.mem_map.1 h
 have:=List.mem_range.1 hi
 omega
theorem upN_asc (a:Int) (n:Nat):(upN a n).Pairwise (·<·):=by
 unfold upN
 rw [List.pairwise_map]
 exact List.pairwise_lt_range.imp fun {x y} h=>by omega
theorem SzOk.zones {l:List Int} (h:SzOk l):ZonesOk (newZs 1 l):=by
 refine ⟨by rw [newZs_len];exact h.pos,fun i z hz=>?_⟩
 have hil:i<l.length:=by have:=(g_l hz);rwa [newZs_len] at this
 have hx:l[i]?=some l[i]:=List.getElem?_eq_getElem hil
 have htk:∀(k:Nat) (l:List Int) (a:Int),(newZs a l).take k=newZs a (l.take k):=fun k=>by
  induction k with
  | zero=>intro l a;simp [newZs]
  | succ k ih=>
   intro l a
   cases l with
   | nil=>simp [newZs]
   | cons x l=>simp only [newZs,List.take_succ_cons];rw [ih]
 have hz':z=newZ (1+sumI (l.take i)) l[i]:=by
  have h1:(newZs 1 l).take (i+1)=(newZs 1 l).take i ++ [z]:=take_snoc hz
  rw [htk,htk,take_snoc hx,newZs_snoc] at h1
  have:=List.append_cancel_left h1
  injection this with this _
  exact this.symm
 rw [htk,nxt_newZs]
 obtain ⟨p1,p2,p3⟩:=h.part i (by omega)
 have p4:=p3 _ hx
 have p5:=h.all
 have p6:=h.each _ (List.mem_of_getElem? hx)
 subst hz'
 exact ⟨rfl,⟨p6,by show l[i]≤65 - _;omega⟩,⟨by show 0≤l[i] / 8;omega,by show l[i] / 8≤l[i] / 4;omega,by show l[i] / 4≤l[i] / 2;omega,by show l[i] / 2≤l[i];omega⟩,
  fun x hx=>by
   have:=upN_mem (show x ∈ upN (1+sumI (l.take i)) (l[i]).toNat from hx)
   show 1+sumI (l.take i)≤x∧x<1+sumI (l.take i)+l[i]
   omega,upN_asc _ _⟩
theorem LO.weak {α:Type} {k:Nat} {R:RR α k} {e:TypeId} {w:World} {base:Nat} {S S':Nat→Prop} {v:Value} {L:List α} (h:LO R e w base S v L) (hS:∀b,b<w.heap.size→S b→S' b):LO R e w base S' v L:=by
 obtain ⟨rows,r1,r2⟩:=h
 exact ⟨rows,r1,r2.imp fun a r h=>R.wk _ _ _ _ _ (fun b hb h=>⟨hS b hb h.1,h.2⟩) h⟩
theorem LO.old {α:Type} {k:Nat} {R:RR α k} {e:TypeId} {w:World} {base:Nat} {S:Nat→Prop} {v:Value} {L:List α} (h:LO R e w base S v L):LO R e w base (fun b=>S b∧b<w.heap.size) v L:=h.weak fun b hb h=>⟨h,hb⟩
theorem own_apart {e:TypeId} {w:World} {base B:Nat} {S:Nat→Prop} {v u:Value} {l:List Int} {lo:Nat} (h:LO IntR e w base S v l) (hB:B<base) (hu:∀b,u.ownBlock=some b→b<B):v.ownBlock=none∨∃b,v.ownBlock=some b∧¬(lo≤b∧b<B)∧u.ownBlock≠some b:=by
 cases hv:v.ownBlock with
 | none=>exact .inl rfl
 | some b=>
  have h1:=(h.own hv).1
  exact .inr ⟨b,rfl,fun h=>by omega,fun hc=>by have:=hu b hc;omega⟩
theorem znew_w (l:List Int) (v:Value) (S:Nat→Prop) (w:World) (h:LA IntR w S v l) (ok:SzOk l) (hS:∀b,w.heap.size≤b→S b):Calls Tryz.prog 43 #[v] w (RetZE (newZs 1 l) 0 S w):=by
 obtain ⟨A,cap,rfl,hc1,hc2⟩:=h.form
 have H:=H_ h
 have OK:=H_ ok
 have hlen:=ok.len
 have hpos:=ok.pos
 have hall:=ok.all
 have d0:((l.length:Int) == 0)=false:=beq_eq_false_iff_ne.2 (by omega)
 clear h ok
 unfold maxLen at hc2
 go_enter Tryz.func43,Tryz.ntmps43
 go_wp2
 go_loopw [4,5,6] (fun u nx i wx=>∃k:Nat,i = .int .i64 k∧nx = .int .i64 (1+sumI (l.take k))∧k≤l.length∧LO ZnR 139 wx w.heap.size (fun b=>w.heap.size≤b) u (newZs 1 (l.take k))∧Below w.heap.size w wx) (fun _ _ i _=>l.length - (intOf i).toNat)
 case atStart=>exact ⟨0,rfl,rfl,by omega,LO.nil _ _ _ _ _,Below.refl _ _⟩
 case round=>
  obtain ⟨k,rfl,rfl,hk,ho,hb⟩:=hrel
  have HB:=H_ hb
  have HO:=H_ ho
  obtain ⟨V,hV⟩:∃V:World,V=wr:=⟨_,rfl⟩
  subst hV
  clear ho hb
  obtain ⟨s1,s2,s3⟩:=OK.out.part k hk
  by_cases hlt:k<l.length
  ·obtain ⟨n,hn⟩:∃n,l[k]?=some n:=⟨_,List.getElem?_eq_getElem hlt⟩
   obtain ⟨b,o,cap',hv,_,_,hb,_,c0⟩:=IL.cell (H.out.step HB.out) hn
   injection hv with e1 e2 e3
   subst e1
   have n1:=OK.out.each n (List.mem_of_getElem? hn)
   have n2:=s3 n hn
   have HN:=H_ (show newZs 1 (l.take (k+1))=newZs 1 (l.take k) ++ [newZ (1+sumI (l.take k)) n] by rw [take_snoc hn,newZs_snoc])
   have HM:=H_ (show 1+sumI (l.take (k+1))=1+sumI (l.take k)+n by rw [take_snoc hn,sumI_snoc];omega)
   have hol:(newZs 1 (l.take k)).length≤64:=by rw [newZs_len,List.length_take];omega
   generalize newZs 1 (l.take k)=zs at *
   obtain ⟨nx,hnx⟩:∃nx,nx=1+sumI (l.take k):=⟨_,rfl⟩
   rw [←hnx] at HN HM ⊢
   have b1:1≤nx:=by omega
   have b2:nx+n≤65:=by omega
   have d1:decide (n<1)=false:=dF (by omega)
   have d2:decide (64<n)=false:=dF (by omega)
   have d3:decide (65<nx+n)=false:=dF (by omega)
   clear hnx s1 s2 s3 hn e2 e3 n2
   go_wp2
   have HZB:=H_ (bl_alloc HB.out (.cells #[.int .i64 nx,.int .i64 n,.int .i64 (n / 8),.int .i64 (n / 4),.int .i64 (n / 2),.slice none 0 0] 139))
   have HOL:=H_ (show ∀b,u4.ownBlock=some b→b<V.heap.size from fun b hb=>(HO.out.own hb).2)
   have HOZ:=H_ ((HO.out.old).alloc (.cells #[.int .i64 nx,.int .i64 n,.int .i64 (n / 8),.int .i64 (n / 4),.int .i64 (n / 2),.slice none 0 0] 139))
   have HZ0:=H_ (heap_alloc_at V (.cells #[.int .i64 nx,.int .i64 n,.int .i64 (n / 8),.int .i64 (n / 4),.int .i64 (n / 2),.slice none 0 0] 139))
   have hsv:=HB.out.size
   have hN:n=(n.toNat:Int):=by omega
   obtain ⟨N,hNN⟩:∃N,N=n.toNat:=⟨_,rfl⟩
   rw [←hNN] at hN
   have HN0:=H_ hNN
   have hN64:N≤64:=by omega
   have hN1:n≤(N:Int):=by omega
   have hN2:(N:Int)≤n:=by omega
   clear hNN hN
   go_loopw [9] (fun f wx=>∃(m:Nat) (u2:Value),f = .int .i64 (nx+m)∧m≤N∧Below w.heap.size w wx∧wx.heap[V.heap.size]?=some (.cells #[.int .i64 nx,.int .i64 n,.int .i64 (n / 8),.int .i64 (n / 4),.int .i64 (n / 2),u2] 139 (0,0))∧LO IntR 3 wx (V.heap.size+1) (fun _=>False) u2 (upN nx m)∧LO ZnR 139 wx w.heap.size (fun b=>w.heap.size≤b∧b<V.heap.size) u4 zs∧(∀b,u4.ownBlock=some b→b<V.heap.size)) (fun f _=>(nx+n - intOf f).toNat)
   case atStart=>exact ⟨0,_,by simp,by omega,HZB.out,HZ0.out,LO.nil _ _ _ _ _,HOZ.out,HOL.out⟩
   case round=>
    clear HZB HOZ HZ0 HOL c0
    obtain ⟨m,u2,rfl,hm,hb,hZ,hI,hO,hOL⟩:=hrel
    have HB:=H_ hb
    have HZ:=H_ hZ
    have HI:=H_ hI
    have HO:=H_ hO
    have HOL:=H_ hOL
    have hlz:=bk_lt hZ
    have hsw:=hb.size
    obtain ⟨A5,c9,rfl,_,_⟩:=(hI.la (S':=Any) (fun _ _ _=>trivial) (fun _ _=>trivial)).form
    have f5:=free_at hZ 5
    obtain ⟨p0,p1,p2,p3,p4,p5⟩:=cs6 hZ
    have hul:(upN nx m).length≤64:=by rw [upN_len];omega
    clear hb hZ hI hO hOL
    by_cases hlm:m<N
    ·have t1:decide (nx+(m:Int)<nx+n)=true:=dT (by omega)
     have t2:(nx+(m:Int)<nx+n):=by omega
     have HUS:=H_ (upN_snoc nx m)
     go_wp2_with (at_builtin;go_loud (refine wpList_push IntR int_el rfl (.tmp 53) (.tmp 55) rfl _ (V.heap.size+1) (fun _=>False) (upN nx m) rfl (HI.out.alloc _) (by simp;omega) (by omega) _ #[.int .i64 (nx+m)] rfl _ (heap_at_new _ _ _ rfl) (nx+m) rfl ?_);intro v4 w4 hown4 hg4 hat4;obtain ⟨A6,c10,e6,_,_⟩:=(hown4.la (S':=Any) (fun _ _ _=>trivial) (fun _ _=>trivial)).form;obtain ⟨n6,hn6⟩:∃n6,n6=(upN nx m ++ [nx+(m:Int)]).length:=⟨_,rfl⟩;rw [←hn6] at e6;clear hn6;subst e6;have HZ4:=H_ (gb_keep hg4 (bk_alloc HZ.out _) (fun h=>by have:=(HI.out.own h).1;omega));have f5:=free_at HZ4.out 5;clear p0 p1 p2 p3 p4 p5;obtain ⟨p0,p1,p2,p3,p4,p5⟩:=cs6 HZ4.out)
     go_roundw
     case rel=>
      refine ⟨m+1,.slice A6 n6 c10,by go_num,by omega,bl_set ((bl_alloc HB.out _).grown hg4 (bl_alloc HB.out _).size (fun b hb=>by have:=(HI.out.own hb).1;omega)) _ _ hsv,set_same HZ4.out _,?_,?_,HOL.out⟩
      ·rw [HUS.out]
       exact hown4.kept (grownBy_setCell w4 ⟨V.heap.size,5,none⟩ (.slice A6 n6 c10)) (.inr ⟨V.heap.size,rfl,fun h=>h.elim,fun h=>by have:=(hown4.own h).1;omega⟩)
      ·have h4:=(HO.out.alloc (.cells #[.int .i64 (nx+m)] 3)).kept hg4 (own_apart HI.out (by omega) HOL.out)
       exact h4.kept (grownBy_setCell w4 ⟨V.heap.size,5,none⟩ (.slice A6 n6 c10)) (.inr ⟨V.heap.size,rfl,fun h=>by have:=h.2;omega,fun h=>by have:=HOL.out _ h;omega⟩)
     case measure=>simp [intOf];omega
    ·have hmN:m=N:=by omega
     have HUP:=H_ (show upN nx m=upN nx n.toNat by rw [hmN,HN0.out])
     have t1:decide (nx+(m:Int)<nx+n)=false:=dF (by omega)
     have t2:¬(nx+(m:Int)<nx+n):=by omega
     clear hmN
     go_wp2_with (at_builtin;go_loud (refine wpList_push ZnR zn_el rfl (.tmp 58) (.tmp 60) rfl _ w.heap.size (fun b=>w.heap.size≤b) zs rfl ((HO.out.alloc _).weak (fun b _ h=>h.1)) (by simp;omega) (by omega) _ #[.int .i64 nx,.int .i64 n,.int .i64 (n / 8),.int .i64 (n / 4),.int .i64 (n / 2),.slice A5 (upN nx m).length c9] rfl _ (heap_at_new _ _ _ rfl) (newZ nx n) ⟨_,rfl,by
       show LA IntR _ _ _ (upN nx n.toNat)
       rw [←HUP.out]
       exact (HI.out.alloc _).la (fun b _ h=>h.elim) (fun b hb=>⟨by omega,fun h=>by have:=HOL.out b h;omega⟩)⟩ ?_);intro v4 w4 hown4 hg4 hat4)
     go_roundw
     case rel=>exact ⟨k+1,by go_num,by rw [HM.out],by omega,by rw [HN.out];exact hown4,(bl_alloc HB.out _).grown hg4 (bl_alloc HB.out _).size (fun b hb=>(HO.out.own hb).1)⟩
     case measure=>simp [intOf];omega
  ·obtain rfl:k=l.length:=by omega
   rw [List.take_length] at *
   go_wp2
   go_ret2
   exact ⟨_,rfl,HO.out.la (fun b _ h=>hS b h) hS,HB.out⟩
end
section
structure Pg where
 data:ByteArray
 valid:Int
 dirty:Int
abbrev pgV (d:ByteArray) (v y:Int):Value:= .agg #[.string d,.int .i64 v,.int .i64 y]
structure PgOk (p:Pg):Prop where
 len:p.data.size=16
 v:0≤p.valid∧p.valid≤3
 d:0≤p.dirty∧p.dirty≤3
 sub:bits .andNot .i64 p.dirty p.valid=0
theorem pg_size:(Tryz.prog.info? 53).map (·.size)=some 3:=by kernel_rfl
theorem pgCheck_w (d:ByteArray) (v y:Int) (w:World) (ok:PgOk ⟨d,v,y⟩):Calls Tryz.prog 130 #[pgV d v y] w (RetB true w):=by
 obtain ⟨h1,⟨h2,h3⟩,⟨h4,h5⟩,h6⟩:=ok
 dsimp only at h1 h2 h3 h4 h5 h6
 have e1:((d.size:Int) == 16)=true:=by simp;omega
 have e2:(bits .andNot .i64 y v == 0)=true:=by simp [h6]
 clear h1 h6
 go_enter Tryz.func130,Tryz.ntmps130
 go_wp2
 go_ret
 exact ⟨rfl,bl_alloc B_ _⟩
theorem ranged_w (off n:Int) (w:World) (h1:0≤off) (h2:0≤n) (h3:off≤16) (h4:n≤16 - off):Calls Tryz.prog 156 #[.int .i64 off,.int .i64 n] w (RetQ (.bool true) w):=by
 have d1:decide (n≤16 - off)=true:=decide_eq_true h4
 go_enter Tryz.func156,Tryz.ntmps156
 go_wp2
 go_ret
 exact ⟨rfl,rfl⟩
def cntI (off n lo:Int):Nat→Int
 | 0=>0
 | j+1=>cntI off n lo j+if off≤lo+(j:Int)∧lo+(j:Int)<off+n then 1 else 0
theorem cntI_bd (off n lo:Int) (j:Nat):0≤cntI off n lo j∧cntI off n lo j≤j:=by
 induction j with
 | zero=>simp [cntI]
 | succ j ih=>unfold cntI;split <;> omega
def touB (off n:Int) (k:Nat):Bool:=decide (0<cntI off n (8*k) 8)
def covB (off n:Int) (k:Nat):Bool:=decide (cntI off n (8*k) 8=8)
def setK (f:Nat→Bool):Nat→Int
 | 0=>0
 | 1=>if f 0 then 1 else 0
 | _=>(if f 0 then 1 else 0)+if f 1 then 2 else 0
def touI (off n:Int):Int:=setK (touB off n) 2
def covI (off n:Int):Int:=setK (covB off n) 2
theorem setK_or (f:Nat→Bool) {k:Nat} (hk:k<2):(f k=true→bits .or .i64 (setK f k) ((2 ^ k:Nat):Int)=setK f (k+1))∧(f k=false→setK f k=setK f (k+1)):=by
 match k,hk with
 | 0,_=>
  constructor
  ·intro h;simp only [setK,h,if_true];decide +kernel
  ·intro h;simp [setK,h]
 | 1,_=>
  constructor
  ·intro h
   cases h0:f 0 <;> simp only [setK,h,h0,if_true] <;> decide +kernel
  ·intro h;simp [setK,h]
def RetII (a b:Int) (w:World) (e:Ending) (w':World):Prop:=e = .returned (.tuple #[.int .i64 a,.int .i64 b])∧w=w'
theorem touched_w (off n:Int) (w:World) (h1:0≤off) (h2:0≤n) (h3:off≤16) (h4:n≤16 - off):Calls Tryz.prog 157 #[.int .i64 off,.int .i64 n] w (RetII (touI off n) (covI off n) w):=by
 have hon:off+n≤16:=by omega
 go_enter Tryz.func157,Tryz.ntmps157
 go_wp2
 go_loop [6,7,8] (fun t c k=>∃m:Nat,m≤2∧k = .int .i64 m∧t = .int .i64 (setK (touB off n) m)∧c = .int .i64 (setK (covB off n) m)) (fun _ _ k=>2 - (intOf k).toNat)
 case atStart=>exact ⟨0,by omega,rfl,rfl,rfl⟩
 case round=>
  obtain ⟨m,hm,rfl,rfl,rfl⟩:=hrel
  obtain rfl | rfl | rfl:m=0∨m=1∨m=2:=by omega
  ·skip
   have hto:=setK_or (touB off n) (k:=0) (by omega)
   have hco:=setK_or (covB off n) (k:=0) (by omega)
   have HTO:=H_ hto
   have HCO:=H_ hco
   obtain ⟨t,ht⟩:∃t,t=setK (touB off n) 0:=⟨_,rfl⟩
   obtain ⟨c,hc⟩:∃c,c=setK (covB off n) 0:=⟨_,rfl⟩
   rw [←ht,←hc]
   rw [←ht] at HTO
   rw [←hc] at HCO
   clear hto hco ht hc
   go_wp2
   go_loop [9,10] (fun n9 i=>∃j:Nat,j≤8∧i = .int .i64 ((0:Int)+(j:Int))∧n9 = .int .i64 (cntI off n (0:Int) j)) (fun _ i=>((0:Int)+8 - intOf i).toNat)
   case atStart=>exact ⟨0,by omega,rfl,rfl⟩
   case round=>
    obtain ⟨j,hj,rfl,rfl⟩:=hrel
    obtain ⟨q1,q2⟩:=cntI_bd off n (0:Int) j
    have HR:=H_ (show cntI off n (0:Int) (j+1)=cntI off n (0:Int) j+if off≤(0:Int)+(j:Int)∧(0:Int)+(j:Int)<off+n then 1 else 0 from rfl)
    by_cases hlt:j<8
    ·generalize cntI off n (0:Int) j=q at *
     have d0:(0:Int)+(j:Int)<(0:Int)+8:=by omega
     by_cases a1:off≤(0:Int)+(j:Int)
     ·by_cases a2:(0:Int)+(j:Int)<off+n
      ·have HR':=H_ (show cntI off n (0:Int) (j+1)=q+1 by rw [HR.out,if_pos ⟨a1,a2⟩])
       go_wp2
       go_round
       case rel=>exact ⟨j+1,by omega,by go_num,by rw [HR'.out]⟩
       case measure=>simp [intOf];omega
      ·have HR':=H_ (show cntI off n (0:Int) (j+1)=q by rw [HR.out,if_neg (fun h=>a2 h.2)];omega)
       go_wp2
       go_round
       case rel=>exact ⟨j+1,by omega,by go_num,by rw [HR'.out]⟩
       case measure=>simp [intOf];omega
     ·have HR':=H_ (show cntI off n (0:Int) (j+1)=q by rw [HR.out,if_neg (fun h=>a1 h.1)];omega)
      go_wp2
      go_round
      case rel=>exact ⟨j+1,by omega,by go_num,by rw [HR'.out]⟩
      case measure=>simp [intOf];omega
    ·obtain rfl:j=8:=by omega
     have HT0:=H_ (show touB off n 0=decide (0<cntI off n (0:Int) 8) from rfl)
     have HC0:=H_ (show covB off n 0=decide (cntI off n (0:Int) 8=8) from rfl)
     generalize cntI off n (0:Int) 8=q at *
     clear HR hlt
     by_cases b1:0<q
     ·have HT1:=H_ (HTO.out.1 (by rw [HT0.out];exact decide_eq_true b1))
      by_cases b2:q=8
      ·have HC1:=H_ (HCO.out.1 (by rw [HC0.out];exact decide_eq_true b2))
       have d1:(q == 8)=true:=by simp [b2]
       have b3:=H_ b2
       clear b2
       go_wp2
       go_round
       case rel=>exact ⟨0+1,by omega,by go_num,by rw [←HT1.out];rfl,by rw [←HC1.out];rfl⟩
       case measure=>simp [intOf]
      ·have HC1:=H_ (HCO.out.2 (by rw [HC0.out];exact decide_eq_false b2))
       have d1:(q == 8)=false:=by simp [b2]
       go_wp2
       go_round
       case rel=>exact ⟨0+1,by omega,by go_num,by rw [←HT1.out];rfl,by rw [←HC1.out]⟩
       case measure=>simp [intOf]
     ·have HT1:=H_ (HTO.out.2 (by rw [HT0.out];exact decide_eq_false b1))
      have b2:¬q=8:=by omega
      have HC1:=H_ (HCO.out.2 (by rw [HC0.out];exact decide_eq_false b2))
      have d1:(q == 8)=false:=by simp [b2]
      go_wp2
      go_round
      case rel=>exact ⟨0+1,by omega,by go_num,by rw [←HT1.out],by rw [←HC1.out]⟩
      case measure=>simp [intOf]
  ·skip
   have hto:=setK_or (touB off n) (k:=1) (by omega)
   have hco:=setK_or (covB off n) (k:=1) (by omega)
   have HTO:=H_ hto
   have HCO:=H_ hco
   obtain ⟨t,ht⟩:∃t,t=setK (touB off n) 1:=⟨_,rfl⟩
   obtain ⟨c,hc⟩:∃c,c=setK (covB off n) 1:=⟨_,rfl⟩
   rw [←ht,←hc]
   rw [←ht] at HTO
   rw [←hc] at HCO
   clear hto hco ht hc
   go_wp2
   go_loop [9,10] (fun n9 i=>∃j:Nat,j≤8∧i = .int .i64 ((8:Int)+(j:Int))∧n9 = .int .i64 (cntI off n (8:Int) j)) (fun _ i=>((8:Int)+8 - intOf i).toNat)
   case atStart=>exact ⟨0,by omega,rfl,rfl⟩
   case round=>
    obtain ⟨j,hj,rfl,rfl⟩:=hrel
    obtain ⟨q1,q2⟩:=cntI_bd off n (8:Int) j
    have HR:=H_ (show cntI off n (8:Int) (j+1)=cntI off n (8:Int) j+if off≤(8:Int)+(j:Int)∧(8:Int)+(j:Int)<off+n then 1 else 0 from rfl)
    by_cases hlt:j<8
    ·generalize cntI off n (8:Int) j=q at *
     have d0:(8:Int)+(j:Int)<(8:Int)+8:=by omega
     by_cases a1:off≤(8:Int)+(j:Int)
     ·by_cases a2:(8:Int)+(j:Int)<off+n
      ·have HR':=H_ (show cntI off n (8:Int) (j+1)=q+1 by rw [HR.out,if_pos ⟨a1,a2⟩])
       go_wp2
       go_round
       case rel=>exact ⟨j+1,by omega,by go_num,by rw [HR'.out]⟩
       case measure=>simp [intOf];omega
      ·have HR':=H_ (show cntI off n (8:Int) (j+1)=q by rw [HR.out,if_neg (fun h=>a2 h.2)];omega)
       go_wp2
       go_round
       case rel=>exact ⟨j+1,by omega,by go_num,by rw [HR'.out]⟩
       case measure=>simp [intOf];omega
     ·have HR':=H_ (show cntI off n (8:Int) (j+1)=q by rw [HR.out,if_neg (fun h=>a1 h.1)];omega)
      go_wp2
      go_round
      case rel=>exact ⟨j+1,by omega,by go_num,by rw [HR'.out]⟩
      case measure=>simp [intOf];omega
    ·obtain rfl:j=8:=by omega
     have HT0:=H_ (show touB off n 1=decide (0<cntI off n (8:Int) 8) from rfl)
     have HC0:=H_ (show covB off n 1=decide (cntI off n (8:Int) 8=8) from rfl)
     generalize cntI off n (8:Int) 8=q at *
     clear HR hlt
     by_cases b1:0<q
     ·have HT1:=H_ (HTO.out.1 (by rw [HT0.out];exact decide_eq_true b1))
      by_cases b2:q=8
      ·have HC1:=H_ (HCO.out.1 (by rw [HC0.out];exact decide_eq_true b2))
       have d1:(q == 8)=true:=by simp [b2]
       have b3:=H_ b2
       clear b2
       go_wp2
       go_round
       case rel=>exact ⟨1+1,by omega,by go_num,by rw [←HT1.out];rfl,by rw [←HC1.out];rfl⟩
       case measure=>simp [intOf]
      ·have HC1:=H_ (HCO.out.2 (by rw [HC0.out];exact decide_eq_false b2))
       have d1:(q == 8)=false:=by simp [b2]
       go_wp2
       go_round
       case rel=>exact ⟨1+1,by omega,by go_num,by rw [←HT1.out];rfl,by rw [←HC1.out]⟩
       case measure=>simp [intOf]
     ·have HT1:=H_ (HTO.out.2 (by rw [HT0.out];exact decide_eq_false b1))
      have b2:¬q=8:=by omega
      have HC1:=H_ (HCO.out.2 (by rw [HC0.out];exact decide_eq_false b2))
      have d1:(q == 8)=false:=by simp [b2]
      go_wp2
      go_round
      case rel=>exact ⟨1+1,by omega,by go_num,by rw [←HT1.out],by rw [←HC1.out]⟩
      case measure=>simp [intOf]
  ·go_wp2
   go_ret2
   exact ⟨rfl,rfl⟩
end
section
def RetPg (p:Pg) (err:Int) (w:World) (e:Ending) (w':World):Prop:=e = .returned (.tuple #[pgV p.data p.valid p.dirty,.int .i64 err])∧Below w.heap.size w w'
def RetN2 (a b:Int) (w:World) (e:Ending) (w':World):Prop:=e = .returned (.tuple #[.int .i64 a,.int .i64 b])∧Below w.heap.size w w'
theorem pg2_res {fn:Func} {p q:Tmp} (h:fn.results=#[.cell p 53,.tmp q]) (tmps:Array Value) (w:World) (g:Nat) (t:TypeId) (a b c:Value) (fr:Nat × Nat) (u:Value)
  (hp:tmps.getD p undef = .pointer (some ⟨g,0,none⟩)) (hq:tmps.getD q undef=u) (hg:w.heap[g]?=some (.cells #[a,b,c] t fr)):(results fn tmps).run Tryz.prog w = .ok (.tuple #[.agg #[a,b,c],u]) w:=
 res2 h tmps w g t _ fr _ u hp hq hg Tryz.underlying53 rfl pg_size
theorem pg_one (d:ByteArray) (v y:Int):(#[Value.string d,.int .i64 v,.int .i64 y]:Array Value).all (·.oneCell')=true:=by simp [Value.oneCell']
def cleanG (p:Pg) (s:Int):Pg:={p with dirty:=bits .andNot .i64 p.dirty s}
def soilG (p:Pg) (s:Int):Pg:={p with dirty:=bits .or .i64 p.dirty (bits .and .i64 s p.valid)}
theorem clean_w (d:ByteArray) (v y s:Int) (w:World) (ok:PgOk ⟨d,v,y⟩) (hs:0≤s∧s≤3):Calls Tryz.prog 89 #[pgV d v y,.int .i64 s] w (RetPg (cleanG ⟨d,v,y⟩ s) 0 w):=by
 have hck:=fun w'=>pgCheck_w d v y w' ok
 have HX:=H_ (bk_alloc (heap_alloc_at w (.cells #[.string d,.int .i64 v,.int .i64 y] 53)) (.cells #[.string ByteArray.empty,.int .i64 0,.int .i64 0] 53))
 have HR:=H_ (heap_at_new (w.alloc (.cells #[.string d,.int .i64 v,.int .i64 y] 53)) (.cells #[.string ByteArray.empty,.int .i64 0,.int .i64 0] 53) (w.heap.size+1) (by simp))
 have HW:=H_ (bl_alloc (bl_alloc (Below.refl w.heap.size w) (.cells #[.string d,.int .i64 v,.int .i64 y] 53)) (.cells #[.string ByteArray.empty,.int .i64 0,.int .i64 0] 53))
 have d1:decide (s<0)=false:=dF (by omega)
 have d2:decide (3<s)=false:=dF (by omega)
 clear ok
 go_enter Tryz.func89,Tryz.ntmps89
 go_wp2_with (first
  | (go_at_call 130;(with_reducible refine CM (hck _) ?_);rintro e w1 ⟨rfl,hb1⟩;have HX1:=bkh HX hb1;have HR1:=bkh HR hb1;have HW1:=blh HW hb1;clear hb1;obtain ⟨x0,x1,x2⟩:=cs3 HX1.out;have f0:=free_at HX1.out 0;have f1:=free_at HX1.out 1;have f2:=free_at HX1.out 2)
  | (refine wpList_store_rowTo rfl 53 (.tmp 4) (.tmp 22) rfl rfl (w.heap.size+1) #[.string d,.int .i64 v,.int .i64 (bits .andNot .i64 y s)] rfl rfl 53 _ (set_bk HR1.out _ _ (by simp)) pg_size rfl (pg_one _ _ _) ?_))
 show bodyPost Tryz.prog Tryz.f89 _ _ _ _
 refine bodyPost_ret (pg2_res rfl _ _ (w.heap.size+1) _ _ _ _ _ _ rfl rfl (setRow_heap _ _ _ _ _ _ (set_bk HR1.out _ _ (by simp)))) rfl ?_
 exact ⟨rfl,bl_setRow (bl_set HW1.out _ _ (Nat.le_refl _)) (by omega) _⟩
theorem soil_w (d:ByteArray) (v y s:Int) (w:World) (ok:PgOk ⟨d,v,y⟩) (hs:0≤s∧s≤3):Calls Tryz.prog 92 #[pgV d v y,.int .i64 s] w (RetPg (soilG ⟨d,v,y⟩ s) 0 w):=by
 have hck:=fun w'=>pgCheck_w d v y w' ok
 have HX:=H_ (bk_alloc (heap_alloc_at w (.cells #[.string d,.int .i64 v,.int .i64 y] 53)) (.cells #[.string ByteArray.empty,.int .i64 0,.int .i64 0] 53))
 have HR:=H_ (heap_at_new (w.alloc (.cells #[.string d,.int .i64 v,.int .i64 y] 53)) (.cells #[.string ByteArray.empty,.int .i64 0,.int .i64 0] 53) (w.heap.size+1) (by simp))
 have HW:=H_ (bl_alloc (bl_alloc (Below.refl w.heap.size w) (.cells #[.string d,.int .i64 v,.int .i64 y] 53)) (.cells #[.string ByteArray.empty,.int .i64 0,.int .i64 0] 53))
 have d1:decide (s<0)=false:=dF (by omega)
 have d2:decide (3<s)=false:=dF (by omega)
 clear ok
 go_enter Tryz.func92,Tryz.ntmps92
 go_wp2_with (first
  | (go_at_call 130;(with_reducible refine CM (hck _) ?_);rintro e w1 ⟨rfl,hb1⟩;have HX1:=bkh HX hb1;have HR1:=bkh HR hb1;have HW1:=blh HW hb1;clear hb1;obtain ⟨x0,x1,x2⟩:=cs3 HX1.out;have f0:=free_at HX1.out 0;have f1:=free_at HX1.out 1;have f2:=free_at HX1.out 2)
  | (refine wpList_store_rowTo rfl 53 (.tmp 4) (.tmp 25) rfl rfl (w.heap.size+1) #[.string d,.int .i64 v,.int .i64 (bits .or .i64 y (bits .and .i64 s v))] rfl rfl 53 _ (set_bk HR1.out _ _ (by simp)) pg_size rfl (pg_one _ _ _) ?_))
 show bodyPost Tryz.prog Tryz.f92 _ _ _ _
 refine bodyPost_ret (pg2_res rfl _ _ (w.heap.size+1) _ _ _ _ _ _ rfl rfl (setRow_heap _ _ _ _ _ _ (set_bk HR1.out _ _ (by simp)))) rfl ?_
 exact ⟨rfl,bl_setRow (bl_set HW1.out _ _ (Nat.le_refl _)) (by omega) _⟩
def needI (v off n:Int) (wr:Bool):Int:=bits .andNot .i64 (if wr then bits .andNot .i64 (touI off n) (covI off n) else touI off n) v
theorem needs_w (d:ByteArray) (v y off n:Int) (b:Bool) (w:World) (ok:PgOk ⟨d,v,y⟩) (h1:0≤off) (h2:0≤n) (h3:off≤16) (h4:n≤16 - off):Calls Tryz.prog 126 #[pgV d v y,.int .i64 off,.int .i64 n,.bool b] w (RetN2 (needI v off n b) 0 w):=by
 have hck:=fun w'=>pgCheck_w d v y w' ok
 have hra:=fun w'=>ranged_w off n w' h1 h2 h3 h4
 have hto:=fun w'=>touched_w off n w' h1 h2 h3 h4
 have HX:=H_ (heap_alloc_at w (.cells #[.string d,.int .i64 v,.int .i64 y] 53))
 have HW:=H_ (bl_alloc (Below.refl w.heap.size w) (.cells #[.string d,.int .i64 v,.int .i64 y] 53))
 have HN:=H_ (show needI v off n b=bits .andNot .i64 (if b then bits .andNot .i64 (touI off n) (covI off n) else touI off n) v from rfl)
 generalize touI off n=t at *
 generalize covI off n=c at *
 clear ok
 cases b
 all_goals
  go_enter Tryz.func126,Tryz.ntmps126
  go_wp2_with (first
   | (go_at_call 130;(with_reducible refine CM (hck _) ?_);rintro e w1 ⟨rfl,hb1⟩;have HX1:=bkh HX hb1;have HW1:=blh HW hb1;clear hb1;obtain ⟨x0,x1,x2⟩:=cs3 HX1.out)
   | (go_at_call 156;(with_reducible refine CM (hra _) ?_);rintro e w2 ⟨rfl,rfl⟩)
   | (go_at_call 157;(with_reducible refine CM (hto _) ?_);rintro e w2 ⟨rfl,rfl⟩))
  go_ret2
  rw [HN.out]
  exact ⟨rfl,HW1.out⟩
end
section
def catG (d s:ByteArray) (o:Nat):ByteArray:=d.extract 0 o ++ s ++ d.extract (o+s.size) d.size
def writeG (p:Pg) (o:Nat) (s:ByteArray):Pg:=⟨catG p.data s o,bits .or .i64 p.valid (touI o s.size),bits .or .i64 p.dirty (touI o s.size)⟩
theorem pwrite_w (d:ByteArray) (v y:Int) (o:Nat) (s:ByteArray) (w:World) (ok:PgOk ⟨d,v,y⟩) (hr:o+s.size≤16) (hn:needI v o s.size true=0):Calls Tryz.prog 127 #[pgV d v y,.int .i64 o,.string s] w (RetPg (writeG ⟨d,v,y⟩ o s) 0 w):=by
 have hne:=fun w'=>needs_w d v y o s.size true w' ok (by omega) (by omega) (by omega) (by omega)
 have hto:=fun w'=>touched_w o s.size w' (by omega) (by omega) (by omega) (by omega)
 rw [hn] at hne
 have hd:d.size=16:=ok.len
 have HX:=H_ (bk_alloc (heap_alloc_at w (.cells #[.string d,.int .i64 v,.int .i64 y] 53)) (.cells #[.string ByteArray.empty,.int .i64 0,.int .i64 0] 53))
 have HR:=H_ (heap_at_new (w.alloc (.cells #[.string d,.int .i64 v,.int .i64 y] 53)) (.cells #[.string ByteArray.empty,.int .i64 0,.int .i64 0] 53) (w.heap.size+1) (by simp))
 have HW:=H_ (bl_alloc (bl_alloc (Below.refl w.heap.size w) (.cells #[.string d,.int .i64 v,.int .i64 y] 53)) (.cells #[.string ByteArray.empty,.int .i64 0,.int .i64 0] 53))
 have HQ:=H_ (show writeG ⟨d,v,y⟩ o s=⟨catG d s o,bits .or .i64 v (touI o s.size),bits .or .i64 y (touI o s.size)⟩ from rfl)
 generalize touI o s.size=t at *
 generalize covI o s.size=c at *
 have a1:o≤d.size:=by omega
 have a2:o+s.size≤d.size:=by omega
 have n1:¬(9223372036854775807<o+s.size):=by omega
 have n3:¬(9223372036854775807<d.size):=by omega
 have n2:¬(9223372036854775807<o+s.size+(d.size - (o+s.size))):=by omega
 have b1:IntKind.i64.wrap ((o:Int)+(s.size:Int))=(o:Int)+(s.size:Int):=w64 (by omega)
 have b2:(0:Int)≤(o:Int)+(s.size:Int):=by omega
 have b3:((o:Int)+(s.size:Int)).toNat=o+s.size:=by omega
 have b4:(o:Int)+(s.size:Int)≤(d.size:Int):=by omega
 clear ok hn hd
 go_enter Tryz.func127,Tryz.ntmps127
 go_upto_region 7 with (first
  | (go_at_call 126;(with_reducible refine CM (hne _) ?_);rintro e w1 ⟨rfl,hb1⟩;have HX1:=bkh HX hb1;have HR1:=bkh HR hb1;have HW1:=blh HW hb1;clear hb1;obtain ⟨x0,x1,x2⟩:=cs3 HX1.out)
  | (go_at_call 157;(with_reducible refine CM (hto _) ?_);rintro e w2 ⟨rfl,rfl⟩))
 go_still_tail 22,(by kernel_rfl)
 change wpList _ _ _ _ _ w1.drew
 have HX2:=H_ (bk_step (w':=w1.drew) HX1.out (Below.refl w1.heap.size w1).drew)
 have HR2:=H_ (bk_step (w':=w1.drew) HR1.out (Below.refl w1.heap.size w1).drew)
 have HW2:=H_ (bl_step (w1:=w1.drew) HW1.out (Below.refl w1.heap.size w1).drew)
 generalize w1.drew=V at HX2 HR2 HW2
 clear x0 x1 x2 b1 b2 b3 b4
 go_wp2_with (refine wpList_store_rowTo rfl 53 (.tmp 6) (.tmp 56) rfl rfl (w.heap.size+1) #[.string (d.extract 0 o ++ s ++ d.extract (o+s.size) d.size),.int .i64 (bits .or .i64 v t),.int .i64 (bits .or .i64 y t)] rfl rfl 53 _ (HR2.out) pg_size rfl (pg_one _ _ _) ?_)
 show bodyPost Tryz.prog Tryz.f127 _ _ _ _
 refine bodyPost_ret (pg2_res rfl _ _ (w.heap.size+1) _ _ _ _ _ _ rfl rfl (setRow_heap _ _ _ _ _ _ HR2.out)) rfl ?_
 rw [HQ.out]
 exact ⟨rfl,bl_setRow HW2.out (by omega) _⟩
def newG:Pg:=⟨⟨#[0,0,0,0,0,0,0,0,0,0,0,0,0,0,0,0]⟩,0,0⟩
def holeG:Pg:={newG with valid:=3}
def RetP1 (p:Pg) (w:World) (e:Ending) (w':World):Prop:=e = .returned (pgV p.data p.valid p.dirty)∧Below w.heap.size w w'
theorem pg_res {fn:Func} {p:Tmp} (h:fn.results=#[.cell p 53]) (tmps:Array Value) (w:World) (g:Nat) (t:TypeId) (a b c:Value) (fr:Nat × Nat)
  (hp:tmps.getD p undef = .pointer (some ⟨g,0,none⟩)) (hg:w.heap[g]?=some (.cells #[a,b,c] t fr)):(results fn tmps).run Tryz.prog w = .ok (.agg #[a,b,c]) w:=
 results_cell_row h tmps w g t _ fr _ hp hg Tryz.underlying53 rfl pg_size
theorem u8_info:(Tryz.prog.info? 5).map (fun i=>(i.zero,i.size,i.bytes))=some (some (.int .u8 0),1,1):=by kernel_rfl
theorem conv_bytes (l:List UInt8) (g c:Nat) (w:World) (hc:∀j (hj:j<l.length),w.cell? ⟨g,j,none⟩=some (.int .u8 (l[j].toNat:Int))) :
  (convert 141 9 (.slice (some ⟨g,0,none⟩) l.length c)).run Tryz.prog w = .ok (.string ⟨l.toArray⟩) w:=by
 refine run_convert_bytes_back (P:=Tryz.prog) w 141 9 5 ⟨g,0,none⟩ c l Tryz.underlying141 Tryz.underlying5 Tryz.underlying9 ?_
 intro j hj
 rw [show (⟨g,0,none⟩:Addr).add j=⟨g,j,none⟩ by rw [Addr.add_mid,Nat.zero_add]];exact hc j hj
theorem made_zero (n:Nat):(madeCells (Value.int .u8 0).cells (n*1)).toList=List.replicate n (.int .u8 0):=by
 apply List.ext_getElem?
 intro i
 by_cases h:i<n
 ·simp [madeCells,h,Value.cells,Nat.mod_one]
 ·simp [madeCells,h,Value.cells]
theorem conv_zero {w:World} {base g n:Nat} {e:TypeId} (h:w.ownsRow base e 1 (.slice (some ⟨g,0,none⟩) n n) n (madeCells (Value.int .u8 0).cells (n*1)).toList) (w2:World) (hk:w2.heap[g]?=w.heap[g]?):(convert 141 9 (.slice (some ⟨g,0,none⟩) n n)).run Tryz.prog w2 = .ok (.string ⟨(List.replicate n 0).toArray⟩) w2:=by
 have:=conv_bytes (List.replicate n 0) g n w2 (fun j hj=>by
  rw [List.length_replicate] at hj
  rw [cell_kept hk,h.cellAt j (by omega),made_zero]
  simp [hj])
 rw [List.length_replicate] at this
 exact this
theorem pnew_w (w:World):Calls Tryz.prog 73 #[] w (RetP1 newG w):=by
 have HR:=H_ (heap_alloc_at w (.cells #[.string ByteArray.empty,.int .i64 0,.int .i64 0] 53))
 obtain ⟨i0,hi,hz0,hz1,hz2⟩:=info_parts u8_info
 go_enter Tryz.func73,Tryz.ntmps73
 go_wp2_with (first
  | (refine wpList_make_full (w.alloc (.cells #[.string ByteArray.empty,.int .i64 0,.int .i64 0] 53)) rfl (.const (.int .i64 16)) (.const (.int .i64 16)) 141 rfl w.heap.size 5 i0 (.int .u8 0) 1 Tryz.underlying141 hi hz0 hz1 .i64 .i64 16 16 16 rfl rfl rfl rfl (by rw [hz2];omega) (by unfold maxLen;omega) (bl_alloc (Below.refl w.heap.size w) _).size ?_;intro w4 hown4 hg4;rw [show (w.alloc (.cells #[.string ByteArray.empty,.int .i64 0,.int .i64 0] 53)).heap.size=w.heap.size+1 by simp] at hown4;have hcv:=conv_zero hown4 w4 rfl;have HR4:=H_ (gb_keep hg4 HR.out (by simp));have HB4:=H_ ((bl_alloc (Below.refl w.heap.size w) (.cells #[.string ByteArray.empty,.int .i64 0,.int .i64 0] 53)).grown hg4 (bl_alloc (Below.refl w.heap.size w) _).size (fun b hb=>by cases hb)))
  | (refine wpList_store_rowTo rfl 53 (.tmp 0) (.tmp 3) rfl rfl (w.heap.size) #[.string ⟨(List.replicate 16 0).toArray⟩,.int .i64 0,.int .i64 0] rfl rfl 53 _ (HR4.out) pg_size rfl (pg_one _ _ _) ?_))
 show bodyPost Tryz.prog Tryz.f73 _ _ _ _
 refine bodyPost_ret (pg_res rfl _ _ w.heap.size _ _ _ _ _ rfl (setRow_heap _ _ _ _ _ _ HR4.out)) rfl ?_
 exact ⟨rfl,bl_setRow HB4.out (Nat.le_refl _) _⟩
theorem phole_w (w:World):Calls Tryz.prog 75 #[] w (RetP1 holeG w):=by
 have HR:=H_ (heap_alloc_at w (.cells #[.string ByteArray.empty,.int .i64 0,.int .i64 0] 53))
 obtain ⟨i0,hi,hz0,hz1,hz2⟩:=info_parts u8_info
 go_enter Tryz.func75,Tryz.ntmps75
 go_wp2_with (first
  | (refine wpList_make_full (w.alloc (.cells #[.string ByteArray.empty,.int .i64 0,.int .i64 0] 53)) rfl (.const (.int .i64 16)) (.const (.int .i64 16)) 141 rfl w.heap.size 5 i0 (.int .u8 0) 1 Tryz.underlying141 hi hz0 hz1 .i64 .i64 16 16 16 rfl rfl rfl rfl (by rw [hz2];omega) (by unfold maxLen;omega) (bl_alloc (Below.refl w.heap.size w) _).size ?_;intro w4 hown4 hg4;rw [show (w.alloc (.cells #[.string ByteArray.empty,.int .i64 0,.int .i64 0] 53)).heap.size=w.heap.size+1 by simp] at hown4;have hcv:=conv_zero hown4 w4 rfl;have HR4:=H_ (gb_keep hg4 HR.out (by simp));have HB4:=H_ ((bl_alloc (Below.refl w.heap.size w) (.cells #[.string ByteArray.empty,.int .i64 0,.int .i64 0] 53)).grown hg4 (bl_alloc (Below.refl w.heap.size w) _).size (fun b hb=>by cases hb)))
  | (refine wpList_store_rowTo rfl 53 (.tmp 0) (.tmp 3) rfl rfl (w.heap.size) #[.string ⟨(List.replicate 16 0).toArray⟩,.int .i64 3,.int .i64 0] rfl rfl 53 _ (HR4.out) pg_size rfl (pg_one _ _ _) ?_))
 show bodyPost Tryz.prog Tryz.f75 _ _ _ _
 refine bodyPost_ret (pg_res rfl _ _ w.heap.size _ _ _ _ _ rfl (setRow_heap _ _ _ _ _ _ HR4.out)) rfl ?_
 exact ⟨rfl,bl_setRow HB4.out (Nat.le_refl _) _⟩
end
end Go.Proofs.YthhekebemmckcaaGreatDoor
