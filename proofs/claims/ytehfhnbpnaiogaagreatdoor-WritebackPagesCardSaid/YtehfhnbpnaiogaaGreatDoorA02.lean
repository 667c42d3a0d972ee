/-
  Lemmas and contracts for the laws of this seat, part 2; several texts joined by a program.
-/
import Derived.Test.YtehfhnbpnaiogaaGreatDoorA01
import Derived.Test.YtehfhnbpnaiogaaGreatDoorA00
import Derived.ArgAppend
import Derived.Deep.MidRow
import Derived.Great.BuildSlice
namespace Go.Proofs.YtehfhnbpnaiogaaGreatDoor
set_option linter.all false
set_option maxRecDepth 100000
set_option maxHeartbeats 16000000
open Go.RowKit Go.Proofs.Tryz IntKind
variable {A:Option Addr} {G:Nat→Value→World→Prop} {P:Program} {R:World→World→Prop} {S S':Nat->Prop} {W w w':World} {b base cap g i k n o p s:Nat} {l rows:List (List Value)} {pl:Nat→Bool} {r:Option Nat} {t:TypeId} {v:Value} {vs:List Value}
section
section
variable {P:Program} {ops:Array Oper} {T:Act→Prop} {i:Nat} {o:Oper} {l:List Oper} {a:Act}
def qC {C:World→Prop}
  (h2:∀v,cH_ P ops C R G T (i+1) l (a.put o.dst v))
  (h1:∀w,C w→(∀j,Region.waitsFor .any ops i j=true→G j (cv_ ops a j) w)→∀K:Act→World→Prop,(∀v w',C w'→R w w'→G i v w'→K (a.put o.dst v) w')→Oper.wp P o a w K cN_:=by intro xw hC hd K hK;(try obtain rfl:v0=_:=hd 0 (by decide +kernel));(try obtain rfl:v1=_:=hd 1 (by decide +kernel));(try obtain rfl:v2=_:=hd 2 (by decide +kernel));(try obtain rfl:v3=_:=hd 3 (by decide +kernel));(try obtain rfl:v4=_:=hd 4 (by decide +kernel));(try obtain rfl:v5=_:=hd 5 (by decide +kernel));(try obtain rfl:v6=_:=hd 6 (by decide +kernel));(try obtain rfl:v7=_:=hd 7 (by decide +kernel));(try obtain rfl:v8=_:=hd 8 (by decide +kernel));(try obtain rfl:v9=_:=hd 9 (by decide +kernel));(try obtain rfl:v10=_:=hd 10 (by decide +kernel));(try obtain rfl:v11=_:=hd 11 (by decide +kernel));(try obtain rfl:v12=_:=hd 12 (by decide +kernel));(try obtain rfl:v13=_:=hd 13 (by decide +kernel));(try obtain rfl:v14=_:=hd 14 (by decide +kernel));(try obtain rfl:v15=_:=hd 15 (by decide +kernel));(try obtain rfl:v16=_:=hd 16 (by decide +kernel));(try obtain rfl:v17=_:=hd 17 (by decide +kernel));(try obtain rfl:v18=_:=hd 18 (by decide +kernel));(try obtain rfl:v19=_:=hd 19 (by decide +kernel));(try obtain rfl:v20=_:=hd 20 (by decide +kernel));(try obtain rfl:v21=_:=hd 21 (by decide +kernel));(try obtain rfl:v22=_:=hd 22 (by decide +kernel));(try obtain rfl:v23=_:=hd 23 (by decide +kernel));go_simp;exact hK _ _ hC (Below.refl _ _) rfl):cH_ P ops C R G T i (o :: l) a:=⟨h1,h2⟩
def qP {C:Bool→World→Prop}
  (h2:∀v,bt_ P ops C R G s pl T (i+1) l (a.put o.dst v)) (hp:pl i=true:=by rfl) (his:(i == s)=false:=by rfl)
  (h1:∀w,C false w→(∀j,Region.waitsFor .any ops i j=true→G j (cv_ ops a j) w)→∀K:Act→World→Prop,(∀v w',C false w'→R w w'→G i v w'→K (a.put o.dst v) w')→Oper.wp P o a w K cN_:=by
   intro xw hC hd K hK
   (try obtain rfl:v0=_:=hd 0 (by decide +kernel))
   (try obtain rfl:v1=_:=hd 1 (by decide +kernel))
   (try obtain rfl:v2=_:=hd 2 (by decide +kernel))
   (try obtain rfl:v3=_:=hd 3 (by decide +kernel))
   (try obtain rfl:v4=_:=hd 4 (by decide +kernel))
   (try obtain rfl:v5=_:=hd 5 (by decide +kernel))
   (try obtain rfl:v6=_:=hd 6 (by decide +kernel))
   (try obtain rfl:v7=_:=hd 7 (by decide +kernel))
   (try obtain rfl:v8=_:=hd 8 (by decide +kernel))
   (try obtain rfl:v9=_:=hd 9 (by decide +kernel))
   (try obtain rfl:v10=_:=hd 10 (by decide +kernel))
   (try obtain rfl:v11=_:=hd 11 (by decide +kernel))
   (try obtain rfl:v12=_:=hd 12 (by decide +kernel))
   (try obtain rfl:v13=_:=hd 13 (by decide +kernel))
   (try obtain rfl:v14=_:=hd 14 (by decide +kernel))
   (try obtain rfl:v15=_:=hd 15 (by decide +kernel))
   (try obtain rfl:v16=_:=hd 16 (by decide +kernel))
   (try obtain rfl:v17=_:=hd 17 (by decide +kernel))
   (try obtain rfl:v18=_:=hd 18 (by decide +kernel))
   (try obtain rfl:v19=_:=hd 19 (by decide +kernel))
   (try obtain rfl:v20=_:=hd 20 (by decide +kernel))
   (try obtain rfl:v21=_:=hd 21 (by decide +kernel))
   (try obtain rfl:v22=_:=hd 22 (by decide +kernel))
   (try obtain rfl:v23=_:=hd 23 (by decide +kernel))
   go_simp
   exact hK _ _ hC (r_.refl _) rfl):bt_ P ops C R G s pl T i (o :: l) a:=e_ hp his h1 h2
def qE {Γ:Type} {C:Γ→(Nat→Bool)→World→Prop} {G:Γ→Nat→Value→World→Prop}
  (h2:∀v,bG_ P ops C G s pl T (i+1) l (a.put o.dst v))
  (h1:∀g d w,d i=false→(d s=true→pl i=false)→C g d w→(∀j,Region.waitsFor .any ops i j=true→G g j (cv_ ops a j) w)→∀K:Act→World→Prop,(∀g' v w',C g' (ac_ d i) w'→(∀j u,G g j u w→G g' j u w')→G g' i v w'→K (a.put o.dst v) w')→Oper.wp P o a w K cN_:=by
 intro gg dn xw hdi hpl hC hd K hK;(try obtain rfl:v0=_:=hd 0 (by decide +kernel));(try obtain rfl:v1=_:=hd 1 (by decide +kernel));(try obtain rfl:v2=_:=hd 2 (by decide +kernel));(try obtain rfl:v3=_:=hd 3 (by decide +kernel));(try obtain rfl:v4=_:=hd 4 (by decide +kernel));(try obtain rfl:v5=_:=hd 5 (by decide +kernel));(try obtain rfl:v6=_:=hd 6 (by decide +kernel));(try obtain rfl:v7=_:=hd 7 (by decide +kernel));(try obtain rfl:v8=_:=hd 8 (by decide +kernel));(try obtain rfl:v9=_:=hd 9 (by decide +kernel));(try obtain rfl:v10=_:=hd 10 (by decide +kernel));(try obtain rfl:v11=_:=hd 11 (by decide +kernel));(try obtain rfl:v12=_:=hd 12 (by decide +kernel));(try obtain rfl:v13=_:=hd 13 (by decide +kernel));(try obtain rfl:v14=_:=hd 14 (by decide +kernel));(try obtain rfl:v15=_:=hd 15 (by decide +kernel));(try obtain rfl:v16=_:=hd 16 (by decide +kernel));(try obtain rfl:v17=_:=hd 17 (by decide +kernel));(try obtain rfl:v18=_:=hd 18 (by decide +kernel));(try obtain rfl:v19=_:=hd 19 (by decide +kernel));(try obtain rfl:v20=_:=hd 20 (by decide +kernel));(try obtain rfl:v21=_:=hd 21 (by decide +kernel));(try obtain rfl:v22=_:=hd 22 (by decide +kernel));(try obtain rfl:v23=_:=hd 23 (by decide +kernel));go_simp
 first
  | exact hK gg _ _ (hC.more (by decide) (by decide)) (fun _ _ h=>h) rfl
  | exact hK gg _ _ (hC.more rfl) (fun _ _ h=>h) rfl
  | exact hK gg _ _ (hC.pure _ rfl rfl rfl) (fun _ _ h=>h) rfl
  | exact hK gg _ _ (hC.more (by decide) (by decide) (Below.refl _ _)) (fun _ _ h=>h) rfl
  | exact hK gg _ _ (hC.more rfl rfl rfl rfl) (fun _ _ h=>h) rfl):bG_ P ops C G s pl T i (o :: l) a:=⟨h1,h2⟩
end
end
section
def pn_ (x n:Int) (w:World) (h1:1<=n) (h2:n<=9223372036854775807) :
  C_ 15 #[I_ x,I_ n] w fun e w'=>e = .returned (I_ (kZ_ x n))/\w=w':=by go_enter func15,ntmps15;go_wp2;go_ret;exact ⟨jS_ (rJ_ x n h1 h2),rfl⟩
def cM_ (w:World) (b:Nat):Prop:=
 ∃(a:Option Addr) (len cap k:Nat),w.heap[b]?=some (.cells #[S_ a len cap,I_ (k:Int)] 76 (0,0))/\k<=len/\len<=maxLen/\
  ∀i,i<len->∃(c o:Nat) (x:Int),a=some ⟨c,o,none⟩/\c<b/\w.cell? ⟨c,o+i,none⟩=some (I_ x)
def cM_.kept {row:Option Nat} (h:cM_ w b) (hg:w.grownBy w' row) (hb:some b≠row)
  (hr:∀k,row=some k->∀(a:Option Addr) (len cap:Nat) (k':Int),w.heap[b]?=some (.cells #[S_ a len cap,I_ k'] 76 (0,0))->∀x,a=some x->x.block≠k):cM_ w' b:=by let⟨a,len,cap,k,h1,h2,h3,j⟩:=h;refine ⟨a,len,cap,k,?_,h2,h3,?_⟩;{rw [hg.block b (Array.getElem?_eq_some_iff.1 h1).1 hb];exact h1};intro i f;let⟨c,o,x,d,hc,g⟩:=j i f;refine ⟨c,o,x,d,hc,hg.cell g ?_⟩;intro e;exact hr c e.symm a len cap k h1 _ d rfl
def p7_ (n:Int) (w:World) (b len cap:Nat) (a:Option Addr)
  (h1:w.cell? ⟨b,0,none⟩=some (S_ a len cap)) (h2:w.cell? ⟨b,1,none⟩=some (I_ len)) (hm:len<=maxLen) :
  C_ 9 #[P_ b,I_ n] w fun e w'=>e = .returned (I_ 0)/\∃m,w'=w.drewN m:=by unfold maxLen at hm;go_enter func9,ntmps9;go_wp2;go_quiet (fail);go_wp2;go_ret;exact ⟨rfl,nq,rfl⟩
def oa_ (n:Int) (w:World) (b len cap c o k:Nat) (x:Int) (h1n:1<=n) (h2n:n<=9223372036854775807)
  (h1:w.cell? ⟨b,0,none⟩=some (S_ (some ⟨c,o,none⟩) len cap)) (h2:w.cell? ⟨b,1,none⟩=some (I_ k)) (hf:w.frozen? ⟨b,1,none⟩=false) (hm:len<=maxLen)
  (hk:k<len) (hx:w.cell? ⟨c,o+k,none⟩=some (I_ x)) (hc:c≠b) :
  C_ 9 #[P_ b,I_ n] w fun e w'=>e = .returned (I_ (kZ_ x n))/\∃m,w'=(w.setCell ⟨b,1,none⟩ (I_ (k+1))).drewN m:=by unfold maxLen at hm;go_enter func9,ntmps9;go_wp2;have e1:i64.wrap ((k:Int)+1 - 1)=(k:Int):=(by rw [show (k:Int)+1 - 1=k from by omega];exact IntWalk.i64_in _ O_);have e2:(0:Int)<=(k:Int):=O_;have d:(k:Int)<len:=O_;have a:((k:Int)).toNat=k:=O_;go_wp2_with fail;go_quiet (fail);go_wp2_with fail;go_quiet ((go_at_call 15;exact Calls.quiet_of_eq (pn_ _ _ _ h1n h2n)));go_wp2;go_ret;exact ⟨rfl,_,qp_⟩
def u8_ (n:Int) (b:Nat) (w:World) (e:Ending) (w':World):Prop:=∃x,e = .returned (I_ x)/\0<=x/\x<n/\w.grownBy w' (some b)/\cM_ w' b
def oS_ (n:Int) (h1n:1<=n) (h2n:n<=9223372036854775807) (h:cM_ w b) :
  C_ 9 #[P_ b,I_ n] w (u8_ n b w):=by let⟨a,len,cap,k,h1,h2,h3,d⟩:=h;have c0:w.cell? ⟨b,0,none⟩=some (S_ a len cap):=(by rw [a_ h1];rfl);have c1:w.cell? ⟨b,1,none⟩=some (I_ k):=(by rw [a_ h1];rfl);by_cases f:k<len;{obtain ⟨c,o,x,rfl,hc,r⟩:=d k f;refine (oa_ n w b len cap c o k x h1n h2n c0 c1 (t_ h1 1) h3 f r O_).mono ?_;rintro e w' ⟨rfl,m,rfl⟩;have l:=eG_ x n h1n;have p:w.grownBy ((w.setCell ⟨b,1,none⟩ (I_ (k+1))).drewN m) (some b):=u_ (v_ w ⟨b,1,none⟩ _) (dc_ _ _ _);refine ⟨_,rfl,l.1,l.2,p,some ⟨c,o,none⟩,len,cap,k+1,?_,f,h3,?_⟩;{show (w.setCell ⟨b,1,none⟩ (I_ (k+1))).heap[b]?=_;simp [World.setCell,Array.getElem?_modify,h1]};intro i t;let⟨s,o',q,u,g,j⟩:=d i t;exact ⟨s,o',q,u,g,p.cell j (by simp;omega)⟩};obtain rfl:k=len:=O_;refine (p7_ n w b k cap a c0 c1 h3).mono ?_;rintro e w' ⟨rfl,m,rfl⟩;exact ⟨0,rfl,O_,O_,dc_ _ _ _,a,k,cap,k,h1,lR_ _,h3,d⟩
def cM_.alloc (h:cM_ w b) (o:Obj):cM_ (w.alloc o) b:=
 h.kept (gA_ w o none) A_ A_
def Tp (W:World) (b:Nat) (w:World):Prop:=cM_ w b/\s_ W w/\W<=b
def Tp.alloc (h:Tp W b w) (o:Obj):Tp W b (w.alloc o):=⟨h.1.alloc o,h.2.1.alloc h.2.1.size o,h.2.2⟩
def Tp.below (h:Tp W b w):s_ W w:=h.2.1
def Tp.lt (h:Tp W b w):b<w:=by let⟨⟨a,len,cap,k,h1,_⟩,_⟩:=h;exact (Array.getElem?_eq_some_iff.1 h1).1
def un_ (n:Int) (W:World) (b:Nat) (w:World) (e:Ending) (w':World):Prop:=∃x,e = .returned (I_ x)/\0<=x/\x<n/\Tp W b w'/\w.grownBy w' (some b)
def aF_ (n:Int) (h1n:1<=n) (h2n:n<=9223372036854775807) (h:Tp W b w) :
  C_ 9 #[P_ b,I_ n] w (un_ n W b w):=by refine (oS_ n h1n h2n h.1).mono ?_;rintro e w' ⟨x,rfl,h0,h1,hg,ht⟩;exact ⟨x,rfl,h0,h1,⟨ht,h.2.1.grown hg h.2.1.size (by intro k hk;have h2:=h.2.2;simp at hk;omega),h.2.2⟩,hg⟩
def Tp.step (h:Tp W b w) (hb:s_ w w'):Tp W b w':=by have hg:w.grownBy w' none:=⟨hb.os,hb.tape,hb.output,hb.size,fun k hk _=>hb.block k hk⟩;refine ⟨h.1.kept hg A_ A_,h.2.1.trans (hb.mono h.2.1.size),h.2.2⟩
def cM_.set (h:cM_ w b) (p:Addr) (v:Value) (hp:b<p.block):cM_ (w.setCell p v) b:=by have d:=v_ w p v;let⟨a,len,cap,k,h1,h2,h3,f⟩:=h;refine ⟨a,len,cap,k,?_,h2,h3,?_⟩;{rw [d.block b (Array.getElem?_eq_some_iff.1 h1).1 (by simp;omega)];exact h1};intro i j;let⟨c,o,x,l,hc,g⟩:=f i j;exact ⟨c,o,x,l,hc,d.cell g (by simp;omega)⟩
def Tp.set (h:Tp W b w) (p:Addr) (v:Value) (hp:b<p.block):Tp W b (w.setCell p v):=
 ⟨h.1.set p v hp,h.2.1.setCell (lT_ h.2.2 (Nat.le_of_lt hp)) v,h.2.2⟩
end
section
def bZ_ {o:Obj} (hg:w.grownBy w' (some b)) (hn:g≠b) (h:w.heap[g]?=some o):w'.heap[g]?=some o:=
 (hg.block _ (Array.getElem?_eq_some_iff.1 h).1 (by simpa using hn)).trans h
def ae_ (hb:s_ w w') (row:Option Nat):w.grownBy w' row:=⟨hb.os,hb.tape,hb.output,hb.size,fun k hk _=>hb.block k hk⟩
def ci_ (w:World) (g:Nat) (cs:Array Value):w.grownBy (w.setRow g cs) (some g):=
 ⟨rfl,rfl,rfl,by simp [World.setRow],fun k _ hk=>setRow_other w g k cs fun e=>hk (by rw [e])⟩
def Tp.gb (h:Tp W b w) (hg:w.grownBy w' (some g)) (hb:b<g):Tp W b w':=by refine ⟨?_,h.2.1.grown hg h.2.1.size (fun k f=>by have:=h.2.2;injection f;omega),h.2.2⟩;let⟨a,len,cap,k,h1,h2,h3,d⟩:=h.1;refine ⟨a,len,cap,k,?_,h2,h3,?_⟩;{rw [hg.block b (Array.getElem?_eq_some_iff.1 h1).1 (by simp;omega)];exact h1};intro i l;let⟨c,o,x,m,hc,j⟩:=d i l;exact ⟨c,o,x,m,hc,hg.cell j (by simp;omega)⟩
def Tp.gb' (h:Tp W b w) (hg:w.grownBy w' r) (hr:∀k,r=some k->b<k):Tp W b w':=by cases r with|none=>exact h.step ⟨hg.os,hg.tape,hg.output,hg.size,fun z hz=>hg.block z hz A_⟩|some k=>exact h.gb hg (hr k rfl)
end
section
def r_.trans {a b c:World} (h:r_ S a b) (g:r_ S b c):r_ S a c:=
 ⟨lT_ h.1 g.1,fun z hz hl=>(g.2 z hz (lL_ hl h.1)).trans (h.2 z hz hl)⟩
def r_.of_below (hb:s_ w w'):r_ S w w':=⟨hb.size,fun z _ h=>hb.block z h⟩
def r_.of_gb (hg:w.grownBy w' r) (hr:∀k,r=some k->¬S k):r_ S w w':=
 ⟨hg.size,fun z hz h=>hg.block z h fun e=>hr z e.symm hz⟩
theorem df_ (g:Nat):∀(vs:List Value) (o:Nat) (w:World) (z:Nat),z≠g->(w.setCells g o vs).heap[z]?=w.heap[z]?
 | [],_,_,_,_=>rfl
 | v :: vs,o,w,z,hz=>by
  rw [World.setCells,df_ g vs (o+1) _ z hz];exact hS_ w ⟨g,o,none⟩ v z hz
theorem br_ (g:Nat):∀(vs:List Value) (o:Nat) (w:World),(w.setCells g o vs).heap.size=w.heap.size
 | [],_,_=>rfl
 | v :: vs,o,w=>by rw [World.setCells,br_ g vs];simp [World.setCell]
def r_.of_setCells (w:World) (g o:Nat) (vs:List Value) (hg:¬S g):r_ S w (w.setCells g o vs):=
 ⟨Nat.le_of_eq (br_ g vs o w).symm,fun z hz _=>df_ g vs o w z (fun e=>hg (e ▸ hz))⟩
def r_.of_setCell (w:World) (p:Addr) (v:Value) (hg:¬S p.block):r_ S w (w.setCell p v):=
 ⟨by simp [World.setCell],fun z hz _=>hS_ w p v z fun e=>hg (e ▸ hz)⟩
def r_.of_setRow (w:World) (X:Nat) (cs:Array Value) (h:¬S X):r_ S w (w.setRow X cs):=
 ⟨Nat.le_of_eq (by simp [World.setRow]),fun z b _=>by
  show (w.setRow X cs).heap[z]?=_
  have a:z≠X:=fun e=>h (e ▸ b);simp only[World.setRow,Array.getElem?_modify];rw [if_neg (fun e=>a e.symm)]⟩
def r_.of_alloc (w:World) (o:Obj):r_ S w (w.alloc o):=r_.of_below (B_.alloc (lR_ _) _)
theorem hX_:∀(rows:List (List Value)),(∀r ∈ rows,r.length=k)->∀(i:Nat) (r:List Value) (j:Nat) (u:Value),rows[i]?=some r->r[j]?=some u->rows.flatten[i*k+j]?=some u
 | [],_,i,r,j,u,hi,_=>by simp at hi
 | x :: rows,h,0,r,j,u,hi,hj=>by
  have hx:x=r:=by simpa using hi
  subst hx;rw [Nat.zero_mul,Nat.zero_add,List.flatten_cons,gL_ ((g_l hj))];exact hj
 | x :: rows,h,i+1,r,j,u,hi,hj=>by
  have hx:x.length=k:=h x (List.mem_cons_self ..);rw [List.flatten_cons,List.getElem?_append_right (by rw [hx,Nat.succ_mul];omega)];rw [show (i+1)*k+j - x.length=i*k+j by rw [hx,Nat.succ_mul];omega];exact hX_ rows (fun r a=>h r (List.mem_cons_of_mem _ a)) i r j u (by simpa using hi) hj
theorem jP_:∀(rows:List (List Value)),(∀r ∈ rows,r.length=k)->∀(n:Nat) (u:Value),rows.flatten[n]?=some u->∃(i:Nat) (r:List Value) (j:Nat),rows[i]?=some r/\r[j]?=some u/\n=i*k+j
 | [],_,n,u,hn=>by simp at hn
 | x :: rows,h,n,u,hn=>by
  have hx:x.length=k:=h x (List.mem_cons_self ..)
  by_cases a:n<x.length
  ·rw [List.flatten_cons,gL_ a] at hn;exact ⟨0,x,n,rfl,hn,O_⟩
  ·rw [List.flatten_cons,List.getElem?_append_right O_] at hn;let⟨i,r,j,h1,h2,h3⟩:=jP_ rows (fun r b=>h r (List.mem_cons_of_mem _ b)) _ u hn;exact ⟨i+1,r,j,by simpa using h1,h2,by rw [Nat.succ_mul];omega⟩
theorem eu_:∀(rows:List (List Value)),(∀r ∈ rows,r.length=k)->rows.flatten.length=rows.length*k
 | [],_=>by simp
 | x :: rows,h=>by
  rw [List.flatten_cons,aL_,h x (List.mem_cons_self ..),eu_ rows (fun r hr=>h r (List.mem_cons_of_mem _ hr)),cL_,Nat.succ_mul];omega
def Shp (k:Nat) (rows:List (List Value)):Prop:=∀r ∈ rows,r.length=k/\∀u ∈ r,u.oneCell'=true
def Shp.len (h:Shp k rows):∀r ∈ rows,r.length=k:=fun r hr=>(h r hr).1
def Shp.one (h:Shp k rows):∀u ∈ rows.flatten,u.oneCell'=true:=fun u hu=>by
 let⟨r,hr,hu⟩:=List.mem_flatten.1 hu;exact (h r hr).2 u hu
def Shp.nil:Shp k []:=fun r hr=>by simp at hr
def Shp.sub {l':List (List Value)} (h:Shp k l) (hs:∀r ∈ l',r ∈ l):Shp k l':=fun r hr=>h r (hs r hr)
def Shp.set (h:Shp k l) {r:List Value} (hr:r.length=k/\∀u ∈ r,u.oneCell'=true):Shp k (l.set i r):=fun x hx=>by
 rcases List.mem_or_eq_of_mem_set hx with hx | rfl
 ·exact h x hx
 ·exact hr
def RW (k:Nat) (w:World) (S:Nat->Prop) (v:Value) (rows:List (List Value)):Prop:=
 ∃A cap,v = S_ A rows.length cap/\rows.length<=cap/\cap<=maxLen/\Shp k rows/\
  (rows=[]\/∃b o,A=some ⟨b,o,none⟩/\b<w.heap.size/\S b/\∀(i:Nat) (r:List Value) (j:Nat) (u:Value),rows[i]?=some r->r[j]?=some u->w.cell? ⟨b,o+i*k+j,none⟩=some u)
def d_ (h:w'.heap[b]?=w.heap[b]?):w'.cell? ⟨b,o,none⟩=w.cell? ⟨b,o,none⟩:=World.cell?_of_block (a:=⟨b,o,none⟩) h
def RW.kept (h:RW k w S v rows) (hk:r_ S w w'):RW k w' S v rows:=by let⟨A,cap,e,h1,h2,h3,a⟩:=h;refine ⟨A,cap,e,h1,h2,h3,?_⟩;rcases a with a | ⟨b,o,e1,hb,hS,hc⟩;{exact .inl a};exact .inr ⟨b,o,e1,lL_ hb hk.1,hS,fun i r j u d c=>(d_ (hk.2 b hS hb)).trans (hc i r j u d c)⟩
def RW.weak (h:RW k w S v rows) (hS:∀b,b<w.heap.size->S b->S' b):RW k w S' v rows:=by let⟨A,cap,e,h1,h2,h3,h4⟩:=h;refine ⟨A,cap,e,h1,h2,h3,?_⟩;rcases h4 with h4 | ⟨b,o,e1,hb,hs,hc⟩;{exact .inl h4};exact .inr ⟨b,o,e1,hb,hS b hb hs,hc⟩
def RW.nil (k:Nat) (w:World) (S:Nat->Prop):RW k w S (S_ none 0 0) []:=⟨none,0,rfl,A_,by unfold maxLen;omega,Shp.nil,.inl rfl⟩
def RW.form (h:RW k w S v rows):∃A cap,v = S_ A rows.length cap/\rows.length<=cap/\cap<=maxLen:=by let⟨A,cap,e,h1,h2,_⟩:=h;exact ⟨A,cap,e,h1,h2⟩
def RW.at_ (h:RW k w S v rows) (hi:i<rows.length):∃b o cap,v = S_ (some ⟨b,o,none⟩) rows.length cap/\rows.length<=cap/\cap<=maxLen/\b<w.heap.size/\S b/\
  ∀(i:Nat) (r:List Value) (j:Nat) (u:Value),rows[i]?=some r->r[j]?=some u->w.cell? ⟨b,o+i*k+j,none⟩=some u:=by let⟨A,cap,e,h1,h2,h3,h4⟩:=h;rcases h4 with h4 | ⟨b,o,e1,hb,hS,hc⟩;{subst h4;simp at hi};subst e1;exact ⟨b,o,cap,e,h1,h2,hb,hS,hc⟩
def RW.of_own (h:w.ownsRow base t k v rows.length rows.flatten) (hs:Shp k rows) (hS:∀b,v.ownBlock=some b->S b):RW k w S v rows:=by rcases h.2 with ⟨h1,h2⟩ | ⟨g,cap,cur,h1,h2,h3,h4,h5,h6,h7⟩;{exact ⟨none,0,by rw [h1,h2],O_,by unfold maxLen;omega,hs,.inl (List.eq_nil_of_length_eq_zero h2)⟩};refine ⟨_,cap,h1,h4,h5,hs,.inr ⟨g,0,rfl,l_ h3,hS g (by rw [h1];rfl),fun i r j u a c=>?_⟩⟩;have hf:=hX_ rows hs.len i r j u a c;rw [<-h7,List.getElem?_take] at hf;split at hf;{rw [Nat.zero_add];simpa [World.cell?,h3] using hf};cases hf
def WR (k:Nat) (w:World) (g:Nat) (rows:List (List Value)):Prop:=
 w.there g 0 (rows.length*k)/\g<w/\Shp k rows/\∀(i:Nat) (r:List Value) (j:Nat) (u:Value),rows[i]?=some r->r[j]?=some u->w.cell? ⟨g,i*k+j,none⟩=some u
def WR.of_own (h:w.ownsRow base t k v rows.length rows.flatten) (hs:Shp k rows) (h0:0<rows.length):∃g cap,v = S_ (some ⟨g,0,none⟩) rows.length cap/\rows.length<=cap/\cap<=maxLen/\base<=g/\WR k w g rows:=by rcases h.2 with ⟨h1,h2⟩ | ⟨g,cap,cur,h1,h2,h3,h4,h5,h6,h7⟩;{omega};have a:rows.length*k<=cap*k:=Nat.mul_le_mul_right _ h4;refine ⟨g,cap,h1,h4,h5,h2,fun j b=>?_,l_ h3,hs,fun i r j u c b=>?_⟩;{rw [Nat.zero_add,a_ h3,t_ h3];exact ⟨by rw [Array.getElem?_eq_getElem O_];rfl,rfl⟩};have hf:=hX_ rows hs.len i r j u c b;rw [<-h7,List.getElem?_take] at hf;split at hf;{simpa [World.cell?,h3] using hf};cases hf
def WR.rw (h:WR k w g rows) (hg:S g) (h1:rows.length<=cap) (h2:cap<=maxLen):RW k w S (S_ (some ⟨g,0,none⟩) rows.length cap) rows:=
 ⟨_,cap,rfl,h1,h2,h.2.2.1,.inr ⟨g,0,rfl,h.2.1,hg,fun i r j u hi hj=>by rw [Nat.zero_add];exact h.2.2.2 i r j u hi hj⟩⟩
def WR.block (h:WR k w g rows) (hb:w'.heap[g]?=w.heap[g]?) (hs:w.heap.size<=w'.heap.size):WR k w' g rows:=by let⟨h1,h2,h3,f⟩:=h;refine ⟨fun j c=>?_,O_,h3,fun i r j u d c=>(d_ hb).trans (f i r j u d c)⟩;let⟨a,b⟩:=h1 j c;exact ⟨by rw [d_ hb];exact a,by rw [World.frozen?_of_block (a:=⟨g,0+j,none⟩) hb];exact b⟩
def WR.setPart (h:WR k w g rows) {r r':List Value} (hi:rows[i]?=some r) (hp:p+vs.length<=k) (hr':r'=r.take p ++ vs ++ r.drop (p+vs.length)) (h1:∀u ∈ vs,u.oneCell'=true) :
  WR k (w.setCells g (i*k+p) vs) g (rows.set i r'):=by let⟨a1,a2,a3,a4⟩:=h;have n:=g_l hi;have B:r.length=k:=a3.len r (mG_ hi);have m:r'.length=k:=(by rw [hr'];simp;omega);have D:i*k+k<=rows.length*k:=(by rw [<-Nat.succ_mul];exact Nat.mul_le_mul_right _ n);have s:w.there g (i*k+p) vs.length:=fun j c=>(by have:=a1 (i*k+p+j) O_;rw [Nat.zero_add] at this;exact this);have l:=World.rangeAt_setCells_same w g (i*k+p) vs s;refine ⟨by rw [sL_];exact World.there_setCells a1 _ _ _,by rw [br_];exact a2,a3.set ⟨m,fun u f=>?_⟩,fun b x j u a c=>?_⟩;{rw [hr'] at f;have y:=(a3 r (mG_ hi)).2;rcases List.mem_append.1 f with f | f;{rcases List.mem_append.1 f with f | f;{exact y u (List.mem_of_mem_take f)};exact h1 u f};exact y u (List.mem_of_mem_drop f)};by_cases t:b=i;{subst t;rw [gS_ n] at a;injection a with a;subst a;have o:j<k:=(by have:=g_l c;omega);rw [hr'] at c;by_cases q:j<p;{rw [List.append_assoc,gL_ (by rw [List.length_take];omega),List.getElem?_take,if_pos q] at c;have:=World.rangeAt_setCells_apart (w:=w) (b':=g) (o':=b*k+j) (cs:=[u]) (fun z v d=>by match z with|0=>simp at d;rw [<-d];exact a4 b r j u hi c|z+1=>simp at d) g (b*k+p) vs (.inr (.inl (by simp;omega)));exact this 0 u rfl};by_cases A:j<p+vs.length;{rw [List.append_assoc,List.getElem?_append_right (by rw [List.length_take];omega),gL_ (by rw [List.length_take];omega)] at c;have:=l _ _ c;rw [show b*k+p+(j - (r.take p).length)=b*k+j by rw [List.length_take];omega] at this;exact this};rw [List.getElem?_append_right (by simp;omega),List.getElem?_drop] at c;rw [show p+vs.length+(j - (r.take p ++ vs).length)=j by simp;omega] at c;have:=World.rangeAt_setCells_apart (w:=w) (b':=g) (o':=b*k+j) (cs:=[u]) (fun z v d=>by match z with|0=>simp at d;rw [<-d];exact a4 b r j u hi c|z+1=>simp at d) g (b*k+p) vs (.inr (.inr O_));exact this 0 u rfl};rw [gN_ (fun e=>t e.symm)] at a;have o:j<k:=(by have:=g_l c;have:=a3.len x (mG_ a);omega);have C:b*k+1+j<=i*k+p\/i*k+p+vs.length<=b*k+j:=(by rcases Nat.lt_or_gt_of_ne t with hlt | hgt;{left;have:(b+1)*k<=i*k:=Nat.mul_le_mul_right _ hlt;rw [Nat.succ_mul] at this;omega};right;have:(i+1)*k<=b*k:=Nat.mul_le_mul_right _ hgt;rw [Nat.succ_mul] at this;omega);have:=World.rangeAt_setCells_apart (w:=w) (b':=g) (o':=b*k+j) (cs:=[u]) (fun z v d=>by match z with|0=>simp at d;rw [<-d];exact a4 b x j u a c|z+1=>simp at d) g (i*k+p) vs (.inr (by simp;omega));exact this 0 u rfl
def WR.setRow (h:WR k w g rows) (hi:i<rows.length) (hv:vs.length=k) (h1:∀u ∈ vs,u.oneCell'=true):WR k (w.setCells g (i*k) vs) g (rows.set i vs):=by have a:(rows[i]).length=k:=h.2.2.1.len _ (gM_ hi);have:=h.setPart (i:=i) (p:=0) (r:=rows[i]) (vs:=vs) (r':=vs) (gE_ hi) O_ (by rw [List.take_zero,List.nil_append,Nat.zero_add,hv,<-a,List.drop_length,List.append_nil]) h1;exact this
def WR.there_ (h:WR k w g rows) (hi:i<rows.length) (hp:p+n<=k):w.there g (i*k+p) n:=fun j hj=>by
 have hik:i*k+k<=rows.length*k:=by rw [<-Nat.succ_mul];exact Nat.mul_le_mul_right _ hi
 have:=h.1 (i*k+p+j) O_;rw [Nat.zero_add] at this;exact this
def lM_ (t ty e:TypeId) (i:TypeInfo) (ht:P.underlying t=some (.slice e)) (hi:P.info? e=some i) (B:Option Addr) (c:Nat) (w:World) :
  (Builtin.append_ #[t,t] ty #[S_ none 0 0,S_ B 0 c]).run P w = .ok (S_ none 0 0) w:=by cases B <;> simp [Builtin.append_,storeCells,run_underlying ht,sizeOf,typeInfo,hi,Builtin.lenOf,Builtin.firstCells,loadCells,loadCellsFrom]
def hf_ {ops:Array Oper} {rest:List Oper} {o:Oper} {a:Act} {Q:Exit->Act->World->Prop}
  (hg:o.guard=none) (s x:Operand) (t:TypeId) (hop:o.op=Op.call {callee:=Callee.builtin Builtin.append,args:=#[s,x],argTypes:=#[t,t]})
  (e:TypeId) (i:TypeInfo) (z:Value)(bytes:Nat) (h1:P.underlying t=some (.slice e)) (h2:P.info? e=some i) (h3:i.zero=some z) (h4:i.size=k) (h5:i.bytes=bytes) (h6:z.cells.size=k) (h7:0<k)
  (hs:a.eval s = S_ none 0 0) (hx:a.eval x=v) (hR:RW k w S v rows) (hb:bytes<=1000) (hn:rows.length<=1000000)
  (hK:∀v' w',w'.ownsRow (w) e k v' rows.length rows.flatten->w.grownBy w' none->wpList P ops Q rest (a.put o.dst v') w'):wpList P ops Q (o :: rest) a w:=by let⟨A,cap,hv,y,q,d,hc⟩:=hR;by_cases h0:rows=[];{subst h0;refine wpList_plain hg fun K g=>?_;have f:=lM_ (P:=P) t o.type e i h1 h2 A cap w;unfold Oper.wp execOp;simp only[hop,resolve,invoke,builtin,Sem.run_bind,Sem.run_pure,Result.andThen_ok,List.map_toArray,List.map_cons,List.map_nil,hs,hx,hv,List.length_nil,f];exact g _ _ (hK _ _ (World.ownsRow_nil _ _ _ _) (World.grownBy.refl _ _))};rcases hc with hc | ⟨b,o',e1,hb',hS,hc⟩;{exact absurd hc h0};subst e1;have p:0<rows.length:=List.length_pos_iff.2 h0;refine wpList_append_grows w hg s x t hop e i z k bytes h1 h2 h3 h4 h5 h6 h7 none 0 0 [] hs (fun _=>⟨rfl,rfl⟩) A_ (fun b hb=>by cases hb) ⟨b,o',none⟩ rows.length cap rows.flatten (hx.trans hv) (eu_ rows d.len) (fun j u D=>?_) d.one O_ (by unfold maxLen;omega) ?_ (fun v' w' c l=>?_);{obtain ⟨C,r,B,m,n,rfl⟩:=jP_ rows d.len j u D;rw [Addr.add_mid,<-Nat.add_assoc];exact hc C r B u m n};{have:(0+rows.length)*bytes<=1000000*1000:=Nat.mul_le_mul O_ hb;omega};rw [Nat.zero_add,List.nil_append] at c;exact hK v' w' c l
end
section
inductive T where
 | mk (kids:List T) (v m:Int)
def T.kids:T->List T | .mk ks _ _=>ks
def T.val:T->Int | .mk _ v _=>v
def T.marks:T->Int | .mk _ _ m=>m
def T.nil:T:= .mk [] 0 0
def emI (n:Nat) (v m:Int):Bool:=decide (n=0)&&(decide (v=0)&&decide (m=0))
def T.emB (t:T):Bool:=emI t.kids.length t.val t.marks
def lfI (n:Nat) (v m:Int):Bool:=decide (n=0/\v≠0/\0<=m/\m<=7/\(0<v\/m=0))
def T.lfB (t:T):Bool:=lfI t.kids.length t.val t.marks
abbrev ndV (A:Option Addr) (n cap:Nat) (v m:Int):Value:= .agg #[S_ A n cap,I_ v,I_ m]
def NC (w:World) (b o:Nat) (A:Option Addr) (n cap:Nat) (v m:Int):Prop:=
 w.cell? ⟨b,o,none⟩=some (S_ A n cap)/\w.cell? ⟨b,o+1,none⟩=some (I_ v)/\w.cell? ⟨b,o+2,none⟩=some (I_ m)
inductive NK (w:World) (S:Nat->Prop):Option Addr->List T->Prop
 | nil (A:Option Addr):NK w S A []
 | mk (b o:Nat) (ks:List T) (A:Nat->Option Addr) (cap:Nat->Nat) (hb:S b) (hlt:b<w)
   (hc:∀i k,ks[i]?=some k->NC w b (o+i*3) (A i) k.kids.length (cap i) k.val k.marks) (hl:∀i k,ks[i]?=some k->k.kids.length<=maxLen/\k.kids.length<=cap i)
   (hk:∀i k,ks[i]?=some k->NK w S (A i) k.kids):NK w S (some ⟨b,o,none⟩) ks
def NC.block {v m:Int} (h:NC w b o A n cap v m) (hb:w'.heap[b]?=w.heap[b]?):NC w' b o A n cap v m:=by let⟨h1,h2,h3⟩:=h;exact ⟨(World.cell?_of_block (a:=⟨b,_,none⟩) hb).trans h1,(World.cell?_of_block (a:=⟨b,_,none⟩) hb).trans h2,(World.cell?_of_block (a:=⟨b,_,none⟩) hb).trans h3⟩
def NK.kept {ks:List T} (h:NK w S A ks) (hs:w.heap.size<=w'.heap.size) (hb:∀b,S b->b<w.heap.size->w'.heap[b]?=w.heap[b]?):NK w' S A ks:=by induction h with|nil A=>exact .nil A|mk b o ks A cap hS hlt hc hl hk ih=>exact .mk b o ks A cap hS O_ (fun i k hi=>(hc i k hi).block (hb b hS hlt)) hl ih
def NK.step {ks:List T} (h:NK w S A ks) (hb:s_ w w'):NK w' S A ks:=h.kept hb.size (fun b _ hlt=>hb.block b hlt)
def NK.alloc {ks:List T} (h:NK w S A ks) (o:Obj):NK (w.alloc o) S A ks:=h.step (B_.alloc (lR_ _) _)
def NK.weak {ks:List T} (h:NK w S A ks) (hs:∀b,b<w.heap.size->S b->S' b):NK w S' A ks:=by induction h with|nil A=>exact .nil A|mk b o ks A cap hS hlt hc hl hk ih=>exact .mk b o ks A cap (hs b hlt hS) hlt hc hl ih
def NK.at_ {ks:List T} (h:NK w S A ks) (hi:i<ks.length):∃b o k A' cap,A=some ⟨b,o,none⟩/\S b/\b<w.heap.size/\ks[i]?=some k/\
  NC w b (o+i*3) A' k.kids.length cap k.val k.marks/\k.kids.length<=maxLen/\k.kids.length<=cap/\NK w S A' k.kids:=by cases h with|nil A=>simp at hi|mk b o ks A cap hS hlt hc hl hk=>have he:ks[i]?=some ks[i]:=gE_ hi;exact ⟨b,o,_,_,_,rfl,hS,hlt,he,hc i _ he,(hl i _ he).1,(hl i _ he).2,hk i _ he⟩
def Any (_:Nat):Prop:=True
section
def cO_ (A:Option Addr) (n cap:Nat) (v m:Int) (w:World):C_ 217 #[ndV A n cap v m] w (aO_ (emI n v m) w):=by have a:=H_ ((bR_ (w) w).alloc (lR_ _) (.cells #[S_ A n cap,I_ v,I_ m] 56));unfold emI;rcases n with _ | n;{by_cases h1:v=0;{subst h1;by_cases h2:m=0;{subst h2;go_enter func217,ntmps217;go_wp2;go_ret;exact ⟨A_,a.out⟩};have b:decide (m=0)=false:=dF h2;go_enter func217,ntmps217;go_wp2;go_ret;exact ⟨by simp [h2],a.out⟩};have b:decide (v=0)=false:=dF h1;go_enter func217,ntmps217;go_wp2;go_ret;exact ⟨by simp [h1],a.out⟩};have h0:((n:Int)+1=0)=False:=(by simp;omega);go_enter func217,ntmps217;go_wp2;go_ret;exact ⟨A_,a.out⟩
def e9_ (A:Option Addr) (n cap:Nat) (v m:Int) (w:World):C_ 204 #[ndV A n cap v m] w (aO_ (emI n v m) w):=by have a:=H_ ((bR_ (w) w).alloc (lR_ _) (.cells #[S_ A n cap,I_ v,I_ m] 56));unfold emI;rcases n with _ | n;{by_cases h1:v=0;{subst h1;by_cases h2:m=0;{subst h2;go_enter func204,ntmps204;go_wp2;go_ret;exact ⟨A_,a.out⟩};have b:decide (m=0)=false:=dF h2;go_enter func204,ntmps204;go_wp2;go_ret;exact ⟨by simp [h2],a.out⟩};have b:decide (v=0)=false:=dF h1;go_enter func204,ntmps204;go_wp2;go_ret;exact ⟨by simp [h1],a.out⟩};have h0:((n:Int)+1=0)=False:=(by simp;omega);go_enter func204,ntmps204;go_wp2;go_ret;exact ⟨A_,a.out⟩
def s0_ (A:Option Addr) (n cap:Nat) (v m:Int) (w:World):C_ 227 #[ndV A n cap v m] w (aO_ (lfI n v m) w):=by have b:=H_ ((bR_ (w) w).alloc (lR_ _) (.cells #[S_ A n cap,I_ v,I_ m] 56));rcases n with _ | n;{by_cases h1:v=0;{have a:=H_ (show lfI 0 v m=false from dF O_);subst h1;go_enter func227,ntmps227;go_wp2;go_ret;exact ⟨D_ a.symm,b.out⟩};have g:decide (v=0)=false:=dF h1;have d:(v == 0)=false:=(by simpa using h1);by_cases h2:0<=m;{by_cases h3:m<=7;{by_cases f:0<v;{have a:=H_ (show lfI 0 v m=true from dT O_);go_enter func227,ntmps227;go_wp2;go_ret;exact ⟨D_ (by rw [a.out];simpa using h1),b.out⟩};by_cases c:m=0;{have a:=H_ (show lfI 0 v m=true from dT O_);subst c;go_enter func227,ntmps227;go_wp2;go_ret;exact ⟨D_ (by rw [a.out];simpa using h1),b.out⟩};have a:=H_ (show lfI 0 v m=false from dF O_);have i:decide (m=0)=false:=dF c;go_enter func227,ntmps227;go_wp2;go_ret;exact ⟨D_ (a.symm ▸ by first | rfl | assumption | simp [c]),b.out⟩};have a:=H_ (show lfI 0 v m=false from dF O_);go_enter func227,ntmps227;go_wp2;go_ret;exact ⟨D_ a.symm,b.out⟩};have a:=H_ (show lfI 0 v m=false from dF O_);go_enter func227,ntmps227;go_wp2;go_ret;exact ⟨D_ a.symm,b.out⟩};have a:=H_ (show lfI (n+1) v m=false from dF O_);have h0:((n:Int)+1=0)=False:=(by simp;omega);go_enter func227,ntmps227;go_wp2;go_ret;exact ⟨D_ a.symm,b.out⟩
end
end
end Go.Proofs.YtehfhnbpnaiogaaGreatDoor
