/-
  Lemmas and contracts for the laws of this seat, part 15; several texts joined by a program.
-/
import Derived.Test.YtehfhnbpnaiogaaGreatDoorE14
import Derived.Test.YtehfhnbpnaiogaaGreatDoorE00
namespace Go.Proofs.YtehfhnbpnaiogaaGreatDoor
set_option linter.unusedVariables false
set_option linter.unusedSimpArgs false
set_option maxRecDepth 100000
set_option maxHeartbeats 16000000
open Go.RowKit Go.Proofs.Tryz IntKind
variable {A:Act} {B F G Z db i id j n z:Nat} {C:Ck} {D L:List UInt8} {P:Program} {Q:Exit->Act->World->Prop} {S:Nat->Prop} {W w w' wx:World} {c:Cn} {cs:Array Value} {d:Bool} {l:List Oper} {r:Option Nat} {v:Value} {x:Fr} {y:Fl}
section
theorem eP_ {base g:Nat} (h:w.ownsRow base 5 1 (S_ (some ⟨g,0,none⟩) n n) n (madeCells (Value.int .u8 0).cells (n*1)).toList) (hn:1<=n):LW U8R w (fun _=>False) g (List.replicate n 0):=by
 have a:LO U8R 5 w base (fun _=>False) (S_ (some ⟨g,0,none⟩) n n) (List.replicate n 0):=by
  refine ⟨(List.replicate n 0).map (fun b=>[.int .u8 (UInt8.toNat b:Int)]),?_,cB.of_map _⟩;rw [rL_];have e:(List.map (fun b=>[Value.int .u8 (UInt8.toNat b:Int)]) (List.replicate n 0)).flatten=(madeCells (Value.int .u8 0).cells (n*1)).toList:=by
   rw [rA];clear h hn
   induction n with
   | zero=>rfl
   | succ n ih=>simp [List.replicate_succ] at ih ⊢
  rw [e];exact h
 obtain ⟨d,cap,e,_,_,_,c⟩:=a.lw (by simp;omega);injection e with e1
 injection e1 with e1
 injection e1 with e1
 subst e1;exact c.weak (fun h=>h) (fun _ _ h=>h.1)
theorem bk_ {x:World} (h:w.grownBy x r) (hB:w.heap.size<=B) {o:Nat}:w.grownBy (x.setCell ⟨B,o,none⟩ v) r:=by
 have a:=v_ x ⟨B,o,none⟩ v;refine ⟨a.os.trans h.os,a.tape.trans h.tape,a.output.trans h.output,dO h.size a.size,fun k b c=>?_⟩;exact (a.block k (iS b h.size) (by simp;omega)).trans (h.block k b c)
def je_ (n:Nat) (W:World) (b:Nat) (w:World) (e:Ending) (w':World):Prop:=∃s:ByteArray,s.size=n/\e = .returned (.string s)/\Tp W b w'/\w.grownBy w' (some b)
theorem iT_ {k:Nat} (h:LW U8R w (fun _=>False) B L) (hl:L.length=n) (hk:k<n) {x:UInt8}:LW U8R (w.setCell ⟨B,k,none⟩ (.int .u8 (x.toNat:Int))) (fun _=>False) B (L.set k x):=by
 have c:=h.setOne (i:=k) (p:=0) (a:=L[k]'O_) (a':=x) (v:= .int .u8 (x.toNat:Int)) (cU _) O_ rfl (fun r b=>by
  have b:r=[.int .u8 _]:=b;subst b
  rfl)
 rw [Nat.mul_one,Nat.add_zero] at c;exact c
theorem hf_ {B cap n:Nat} (h:LW U8R w (fun _=>False) B L) (hl:L.length=n):(convert 77 9 (S_ (some ⟨B,0,none⟩) n cap)).run prog w = .ok (.string ⟨L.toArray⟩) w:=by
 have:=kW L B cap w (fun j b=>by
  obtain ⟨r,a,hc⟩:=h.at_ (cU b);have a:r=[.int .u8 _]:=a;subst a;have:=hc 0 _ rfl;rw [Nat.mul_one,Nat.add_zero] at this;exact this)
 rw [hl] at this;exact this
theorem f6_ (n:Nat) {b:Nat} (h1:1<=n) (h2:n<=1000) (hT:Tp W b w) :
  C_ 29 #[P_ b,I_ n] w (je_ n W b w):=by
 have K:=hT.lt;have m:=H_ hT;obtain ⟨O,H,s,t,u⟩:=info_parts nH;clear hT;go_enter func29,ntmps29
 go_upto_region 2 with (first
  | (refine wpList_make_full w rfl (.tmp 7) (.tmp 7) 77 rfl (w) 5 O (.int .u8 0) 1 underlying77 H s t .i64 .i64 n n n rfl rfl rfl rfl (by rw [u];omega) (by unfold maxLen;omega) (aQ _) ?_;intro w4 c a))
 obtain ⟨B,E⟩:=aZ w.heap.size;have d:=H_ (eP_ c h1);have o:=H_ (m.gb' a (fun k v=>by cases v));have l:=H_ (show w.grownBy w4 (some b) from ⟨a.os,a.tape,a.output,a.size,fun k v _=>a.block k v z_⟩);clear c a H s t u m;rw [<-E] at d ⊢;have r:w.heap.size<=B/\b<B:=O_
 clear E;go_wp2
 go_loopw [6,11] (fun s6 s11 wx=>∃(k:Nat) (L:List UInt8),s11 = I_ k/\k<=n/\L.length=n/\LW U8R wx (fun _=>False) B L/\Tp W b wx/\w.grownBy wx (some b)) (fun _ s11 _=>n - (intOf s11).toNat)
 case atStart=>exact ⟨0,_,rfl,O_,rL_,d.out,o.out,l.out⟩
 case round=>
  clear d o l;obtain ⟨k,L,rfl,v,F,I,hT,G⟩:=hrel;obtain ⟨d,m,D,j⟩:=sP I hT G F;clear I hT G F
  by_cases C:k<n
  ·go_wp2_with (go_at_call 9;refine (rC _ O_ O_ m.out).mono ?_;rintro e w1 ⟨x,rfl,h0,h1,y,g⟩;obtain ⟨q,rfl⟩:=sG h0;have f:=H_ (d.kept ⟨g.size,fun z N _=>N.elim⟩ (g.block B d.lt (by simp;omega)));have J:=(f.slot (i:=k) (p:=0) (by have:=j.out;omega) O_).2;obtain ⟨c0,A⟩:=(f.slot (i:=k) (p:=0) (by have:=j.out;omega) O_).1;rw [Nat.mul_one,Nat.add_zero] at J A)
   go_roundw
   case rel=>exact ⟨k+1,_,by go_num,O_,by rw [lL];exact j,iT_ f j C,y.set _ _ r.2,bk_ (bF D g) r.1⟩
   case measure=>exact bH
  ·obtain rfl:k=n:=O_
   have M:=hf_ (cap:=k) d j;go_wp2;go_ret;exact ⟨_,by simpa [ByteArray.size] using j.out,rfl,m.out,D.out⟩
end
section
theorem hH_ {b:Nat} (hg:w.grownBy w' (some b)) (hS:¬S b):r_ S w w':=
 ⟨hg.size,fun z hz hl=>hg.block z hl (fun e=>by injection e with e;exact hS (e ▸ hz))⟩
theorem bj_ {bt R:Nat} (h2:w.grownBy wx (some bt)) (h3:w.heap.size<=R):w.grownBy (wx.setRow R cs) (some bt):=by
 have a:=gE wx R cs;exact ⟨a.os.trans h2.os,a.tape.trans h2.tape,a.output.trans h2.output,dO h2.size a.size,fun k b c=>(a.block k (iS b h2.size) (by simp;omega)).trans (h2.block k b c)⟩
def Sx (S:Nat->Prop) (X R:Nat) (K:Option Nat) (z:Nat):Prop:=S z/\z≠X/\z≠R/\K≠some z
structure PC (I:Ck->Prop) (S:Nat->Prop) (W w Wk:World) (bt X R:Nat) (K:Option Nat) (a b c d e f g:Value) (C:Ck) (wx:World):Prop where
 inv:I C
 at_:x_ wx (Sx S X R K) a b c d e f g C
 box:wx.heap[X]?=some (.cells #[a,b,c,d,e,f,g] 30 (0,0))
 res:wx.heap[R]?=some (cG)
 tp:Tp W bt wx
 gb:w.grownBy wx (some bt)
 kk:∀z,K=some z->z<wx.heap.size/\z≠bt/\z≠X/\wx.heap[z]?=Wk.heap[z]?
 xw:w.heap.size<=X
 rw_:w.heap.size<=R
 bw:bt<w
 xr:X≠R
 nS:¬S bt
 fS:∀z,w.heap.size<=z->S z
def PCs (I:Ck->Prop) (S:Nat->Prop) (W w Wk:World) (bt X R:Nat) (K:Option Nat) (wx:World):Prop:=∃a b c d e f g C,PC I S W w Wk bt X R K a b c d e f g C wx
section
variable {I J:Ck->Prop} {S:Nat->Prop} {W w Wk wx wy:World} {bt X R:Nat} {K:Option Nat} {a b c d e f g a' b' c' d' e' f' g':Value} {C C':Ck}
theorem PC.nb (h:PC I S W w Wk bt X R K a b c d e f g C wx):X≠bt/\R≠bt:=⟨by have:=h.xw;have:=h.bw;omega,by have:=h.rw_;have:=h.bw;omega⟩
theorem PC.keep (h:PC I S W w Wk bt X R K a b c d e f g C wx) (hg:wx.grownBy wy (some bt)) (hT:Tp W bt wy):PC I S W w Wk bt X R K a b c d e f g C wy where
 inv:=h.inv
 at_:=h.at_.kept (hH_ hg (fun i=>h.nS i.1))
 box:=iO hg h.nb.1 h.box
 res:=iO hg h.nb.2 h.res
 tp:=hT
 gb:=bF h.gb hg
 kk:=fun z i=>by
  obtain ⟨j,k,l,m⟩:=h.kk z i;exact ⟨iS j hg.size,k,l,(hg.block z j (by simpa using k)).trans m⟩
 xw:=h.xw
 rw_:=h.rw_
 bw:=h.bw
 xr:=h.xr
 nS:=h.nS
 fS:=h.fS
theorem PC.step (h:PC I S W w Wk bt X R K a b c d e f g C wx) (hb:q_ wx wy):PC I S W w Wk bt X R K a b c d e f g C wy:=h.keep (bV hb _) (h.tp.step hb)
theorem PC.fresh (h:PC I S W w Wk bt X R K a b c d e f g C wx):∀z,wx.heap.size<=z->Sx S X R K z:=fun z hz=>
 ⟨h.fS z (by have:=h.gb.size;omega),by have:=p_ h.box;omega,by have:=p_ h.res;omega,fun hk=>by have:=(h.kk z hk).1;omega⟩
theorem PC.store (h:PC J S W w Wk bt X R K a b c d e f g C wx) (hI:I C') (hc:x_ wx (Sx S X R K) a' b' c' d' e' f' g' C'):PC I S W w Wk bt X R K a' b' c' d' e' f' g' C' (wx.setRow X #[a',b',c',d',e',f',g']) where
 inv:=hI
 at_:=hc.kept (r_.of_setRow wx X _ (fun i=>i.2.1 rfl))
 box:=setRow_heap _ _ _ _ _ _ h.box
 res:=(setRow_other _ _ _ _ (fun e=>h.xr e.symm)).trans h.res
 tp:=h.tp.gb (gE _ _ _) (by have:=h.xw;have:=h.bw;omega)
 gb:=bj_ h.gb h.xw
 kk:=fun z i=>by
  obtain ⟨k,l,j,m⟩:=h.kk z i;exact ⟨by simpa [World.setRow] using k,l,j,(setRow_other _ _ _ _ j).trans m⟩
 xw:=h.xw
 rw_:=h.rw_
 bw:=h.bw
 xr:=h.xr
 nS:=h.nS
 fS:=h.fS
theorem PC.start (h:x_ w S a b c d e f g C) (hI:I C) (hT:Tp W bt w) (hX:X=w.heap.size) (hn:¬S bt) (hS:∀z,w.heap.size<=z->S z) :
  PC I S W w w bt X (X+1) none a b c d e f g C ((w.alloc (.cells #[a,b,c,d,e,f,g] 30)).alloc (cG)) where
 inv:=hI
 at_:=(h.weak (fun z i h=>⟨h,O_,O_,fun e=>by cases e⟩)).step (b_ (b_ B_ _) _)
 box:=m_ (l_ w _ X hX.symm) _
 res:=l_ (w.alloc _) _ (X+1) (by simp [hX])
 tp:=(hT.alloc _).alloc _
 gb:=bV (b_ (b_ B_ _) _) _
 kk:=fun z i=>by cases i
 xw:=O_
 rw_:=O_
 bw:=hT.lt
 xr:=O_
 nS:=hn
 fS:=hS
theorem PC.own (h:PC I S W w Wk bt X R none a b c d e f g C wx) (hB:q_ wx wy) (hk:∀z,K=some z->wx.heap.size<=z/\z<wy.heap.size):PC I S W w wy bt X R K a b c d e f g C wy:=
 let h':=h.step hB
 {h' with at_:=(h.at_.weak (S':=Sx S X R K) (fun z i h=>⟨h.1,h.2.1,h.2.2.1,fun e=>by have:=(hk z e).1;omega⟩)).step hB,kk:=fun z i=>⟨(hk z i).2,by have:=(hk z i).1;have:=h.tp.lt;omega,by have:=(hk z i).1;have:=p_ h.box;omega,rfl⟩}
theorem PC.done (h:PC I S W w Wk bt X R K a b c d e f g C wx):x_ (wx.setRow R #[a,b,c,d,e,f,g]) S a b c d e f g C/\Tp W bt (wx.setRow R #[a,b,c,d,e,f,g])/\w.grownBy (wx.setRow R #[a,b,c,d,e,f,g]) (some bt):=
 ⟨(h.at_.kept (r_.of_setRow wx R _ (fun hz=>hz.2.2.1 rfl))).weak (fun z _ hz=>hz.1),h.tp.gb (gE _ _ _) (by have:=h.rw_;have:=h.bw;omega),bj_ h.gb h.rw_⟩
theorem PC.to (h:PC J S W w Wk bt X R K a b c d e f g C wx) (hI:I C):PC I S W w Wk bt X R K a b c d e f g C wx:=⟨hI,h.at_,h.box,h.res,h.tp,h.gb,h.kk,h.xw,h.rw_,h.bw,h.xr,h.nS,h.fS⟩
def CP (J I:Ck->Prop) (S:Nat->Prop) (W w Wk wx:World) (bt X R:Nat) (K:Option Nat) (a b c d e f g:Value) (C:Ck):Bool->World->Prop
 | false,x=>PC J S W w Wk bt X R K a b c d e f g C x/\wx.grownBy x (some bt)
 | true,x=>PCs I S W w Wk bt X R K x
theorem yS (m s:Nat) (pl:Nat->Bool) (ls:List (SK (Sx S X R K)))
  (hm:prog.follows .mixedOrders=true) (hB:uW l.toArray m s pl=true) (hs:A.tmps.size=m) (hs0:∀w,GK ls s undef w) (hP:PC J S W w Wk bt X R K a b c d e f g C wx)
  (h:cR prog l.toArray (CP J I S W w Wk wx bt X R K a b c d e f g C) (r_ (Sx S X R K)) (GK ls) s pl (fun a'=>∀w',PCs I S W w Wk bt X R K w'->(∀j,j<l.toArray.size->GK ls j (eS l.toArray a' j) w')->wpList prog l.toArray Q [] a' w') 0 l A):(Code.region id l.toArray true).wp prog Q A wx:=
 mR m s pl (CP J I S W w Wk wx bt X R K a b c d e f g C) (r_ (Sx S X R K)) (GK ls) hm hB hs ⟨hP.step (B_.drew),gP wx 1 _⟩ (fun x y hr=>GK.keep hr) hs0 h
end
def ju_ (I:Ck->Prop) (S:Nat->Prop) (W:World) (bt:Nat) (w:World) (en:Ending) (w':World):Prop:=∃C' a b c d e f g,I C'/\en = .returned (cI a b c d e f g)/\x_ w' S a b c d e f g C'/\Tp W bt w'/\w.grownBy w' (some bt)
def SK.nat {S:Nat->Prop} (n:Nat):SK S:=⟨fun v _=>∃k:Nat,v = I_ (k:Int)/\k<n,fun _ _ _ _ h=>h⟩
def SK.ir {S:Nat->Prop} (lo hi:Int):SK S:=⟨fun v _=>∃k:Int,v = I_ k/\lo<=k/\k<=hi,fun _ _ _ _ h=>h⟩
def SK.bl {S:Nat->Prop}:SK S:=⟨fun v _=>∃k:Bool,v = .bool k,fun _ _ _ _ h=>h⟩
def SK.s16 {S:Nat->Prop}:SK S:=⟨fun v _=>∃s:ByteArray,v = .string s/\s.size=16,fun _ _ _ _ h=>h⟩
def SK.ck1 (I:Ck->Prop) {S:Nat->Prop}:SK S:=⟨fun v w=>∃C a b c d e f g,v=cI a b c d e f g/\I C/\x_ w S a b c d e f g C,fun _ _ _ hk ⟨C,a,b,c,d,e,f,g,h1,h2,h3⟩=>⟨C,a,b,c,d,e,f,g,h1,h2,h3.kept hk⟩⟩
def SK.ck2 (I:Ck->Prop) {S:Nat->Prop}:SK S:=⟨fun v w=>∃C a b c d e f g er,v = .tuple #[cI a b c d e f g,I_ er]/\I C/\x_ w S a b c d e f g C,fun _ _ _ hk ⟨C,a,b,c,d,e,f,g,er,h1,h2,h3⟩=>⟨C,a,b,c,d,e,f,g,er,h1,h2,h3.kept hk⟩⟩
def SK.ck3 (I:Ck->Prop) {S:Nat->Prop}:SK S:=⟨fun v w=>∃C a b c d e f g u er,v = .tuple #[cI a b c d e f g,I_ u,I_ er]/\I C/\x_ w S a b c d e f g C,fun _ _ _ hk ⟨C,a,b,c,d,e,f,g,u,er,h1,h2,h3⟩=>⟨C,a,b,c,d,e,f,g,u,er,h1,h2,h3.kept hk⟩⟩
def SK.row {S:Nat->Prop} (p:Int->Prop) (n:Nat):SK S:=⟨fun v w=>∃(gg:Nat) (t:TypeId) (l:List Int),v = S_ (some ⟨gg,0,none⟩) n n/\l.length=n/\(∀y ∈ l,p y)/\S gg/\gg<w/\w.heap[gg]?=some (.cells (l.map (Value.int i64)).toArray t (0,0)),fun _ _ _ hk ⟨gg,t,l,h1,h2,h3,h4,h5,h6⟩=>⟨gg,t,l,h1,h2,h3,h4,iS h5 hk.1,(hk.2 gg h4 h5).trans h6⟩⟩
def SK.rat {S:Nat->Prop} (p:Int->Prop):SK S:=⟨fun v w=>∃(gg i:Nat) (y:Int),v = .pointer (some ⟨gg,i,none⟩)/\p y/\S gg/\gg<w/\w.cell? ⟨gg,i,none⟩=some (I_ y),fun _ _ _ hk ⟨gg,i,y,h1,h2,h4,h5,h6⟩=>⟨gg,i,y,h1,h2,h4,iS h5 hk.1,(c_ (hk.2 gg h4 h5)).trans h6⟩⟩
end
section
theorem sO (hI:cE F G Z C) (hj:j<F):∃y sz,C.files[j]?=some y/\y.size=((sz:Nat):Int)/\sz<=128:=by
 have hl:j<C.files.length:=by rw [hI.nf];exact hj
 obtain ⟨sz,h1,h2⟩:=(hI.file j _ (cU hl)).size;exact ⟨_,sz,cU hl,h1,h2⟩
end
section
variable {τ:Type} {S:Nat->Prop}
abbrev GH (τ:Type):=Option Nat × Option τ
def KG (S:Nat->Prop) (g:GH τ) (w:World) (g':GH τ) (w':World):Prop:=
 w.heap.size<=w'.heap.size/\(∀z,S z->g'.1≠some z->z<w.heap.size->w'.heap[z]?=w.heap[z]?)/\(g'.1=g.1\/g.1=none/\∀z,g'.1=some z->w.heap.size<=z)/\(g'.2=g.2\/g.2=none)
theorem KG.refl (g:GH τ) (w:World):KG S g w g w:=⟨aQ _,fun _ _ _ _=>rfl,.inl rfl,.inl rfl⟩
theorem KG.of_ks {g:GH τ} (h:r_ S w w'):KG S g w g w':=⟨h.1,fun z hz _ hl=>h.2 z hz hl,.inl rfl,.inl rfl⟩
theorem KG.of_below {g:GH τ} (h:q_ w w'):KG S g w g w':= .of_ks (.of_below h)
theorem KG.ans {t:τ} (h:q_ w w'):KG S (r,none) w (r,some t) w':=⟨h.size,fun z hz _ hl=>h.block z hl,.inl rfl,.inr rfl⟩
theorem KG.alloc {r:Option τ} (o:Obj):KG S (none,r) w (some w.heap.size,r) (w.alloc o):=⟨z_,fun z _ _ hl=>(aI (w) w |>.alloc (aQ _) o).block z hl,.inr ⟨rfl,fun z hz=>by injection hz with hz;omega⟩,.inl rfl⟩
theorem KG.store {r:Option τ} (cs:Array Value):KG S (some Z,r) w (some Z,r) (w.setRow Z cs):=⟨by simp [World.setRow],fun z _ hn _=>setRow_other _ _ _ _ (fun e=>hn (by rw [e])),.inl rfl,.inl rfl⟩
def Sg (S:Nat->Prop) (g:GH τ) (z:Nat):Prop:=S z/\g.1≠some z
theorem KG.s {g g':GH τ} (h:KG S g w g' w'):r_ (Sg S g') w w':=⟨h.1,fun z hz hl=>h.2.1 z hz.1 hz.2 hl⟩
theorem KG.up {g g':GH τ} (h:KG S g w g' w'):∀z,z<w.heap.size->Sg S g z->Sg S g' z:=fun z hl hz=>⟨hz.1,fun e=>by
 rcases h.2.2.1 with h1 | ⟨h1,h2⟩
 ·exact hz.2 (h1 ▸ e)
 ·have:=h2 z e;omega⟩
structure SG (S:Nat->Prop) (τ:Type) where
 p:GH τ->Value->World->Prop
 st:∀v g w g' w',KG S g w g' w'->p g v w->p g' v w'
def SG.any:SG S τ:=⟨fun _ _ _=>True,fun _ _ _ _ _ _ h=>h⟩
def SG.eq (x:Value):SG S τ:=⟨fun _ v _=>v=x,fun _ _ _ _ _ _ h=>h⟩
def SG.int:SG S τ:=⟨fun _ v _=>∃k:Int,v = I_ k,fun _ _ _ _ _ _ h=>h⟩
def SG.bl:SG S τ:=⟨fun _ v _=>∃k:Bool,v = .bool k,fun _ _ _ _ _ _ h=>h⟩
def SG.box:SG S τ:=⟨fun g v _=>∃z,v = P_ z/\g.1=some z,fun _ g _ g' _ h ⟨z,h1,h2⟩=>⟨z,h1,by
 rcases h.2.2.1 with h3 | ⟨h3,_⟩
 ·rw [h3];exact h2
 ·rw [h3] at h2;cases h2⟩⟩
structure RQ (τ:Type) where
 q:World->(Nat->Prop)->τ->Value->Prop
 st:∀w w' S t v,r_ S w w'->q w S t v->q w' S t v
 wk:∀w S S' t v,(∀b,b<w.heap.size->S b->S' b)->q w S t v->q w S' t v
def SG.res (R:RQ τ):SG S τ where
 p g v w:=∃t,g.2=some t/\R.q w (Sg S g) t v
 st v g w g' w' h:=fun ⟨t,h1,h2⟩=>by
  refine ⟨t,?_,R.st _ _ _ _ _ h.s (R.wk _ _ _ _ _ h.up h2)⟩
  rcases h.2.2.2 with h3 | h3
  ·rw [h3];exact h1
  ·rw [h3] at h1;cases h1
def RQ.flat (f:τ->Value):RQ τ:=⟨fun _ _ t v=>v=f t,fun _ _ _ _ _ _ h=>h,fun _ _ _ _ _ _ h=>h⟩
def GG (ls:List (SG S τ)) (g:GH τ) (j:Nat) (v:Value) (w:World):Prop:=(ls.getD j SG.any).p g v w
theorem GG.keep {ls:List (SG S τ)} {g g':GH τ} (h:KG S g w g' w') (j:Nat) (v:Value) (hg:GG ls g j v w):GG ls g' j v w':=(ls.getD j SG.any).st v g w g' w' h hg
structure CG (bx cl s:Nat) (B:World->Prop) (N:Nat) (o:Obj) (I:τ->Prop) (D:τ->World->Nat->Prop) (g:GH τ) (d:Nat->Bool) (x:World):Prop where
 b:B x
 nb:d bx=false->g.1=none
 nc:d cl=false->g.2=none
 bo:∀z,g.1=some z->N<=z/\z<x.heap.size/\(d s=false->x.heap[z]?=some o)
 an:∀t,g.2=some t->I t
 st:d s=true->∃z t,g=(some z,some t)/\D t x z
theorem nds {a p:Bool} (hp:a=true->p=false) (h:p=true):a=false:=by
 cases ha:a with
 | false=>rfl
 | true=>rw [hp ha] at h;cases h
theorem F_ {d:Nat->Bool} {i j:Nat} (h:(j == i)=false):Y_ d i j=d j:=by unfold Y_;rw [h,Bool.or_false]
theorem cF (d:Nat->Bool) (i:Nat):Y_ d i i=true:=by simp [Y_]
section
variable {bx cl s i:Nat} {B:World->Prop} {N:Nat} {o:Obj} {I:τ->Prop} {D:τ->World->Nat->Prop} {g:GH τ} {d:Nat->Bool} {x y:World}
theorem CG.pure (h:CG bx cl s B N o I D g d x) (i:Nat) (h1:(bx == i)=false) (h2:(cl == i)=false) (h3:(s == i)=false):CG bx cl s B N o I D g (Y_ d i) x:=
 ⟨h.b,fun e=>h.nb (by rwa [F_ h1] at e),fun e=>h.nc (by rwa [F_ h2] at e),fun z hz=>by rw [F_ h3];exact h.bo z hz,h.an,fun e=>h.st (by rwa [F_ h3] at e)⟩
theorem CG.grown (h:CG bx cl s B N o I D g d x) (i:Nat) (h1:(bx == i)=false) (h2:(cl == i)=false) (h3:(s == i)=false) (hd:d s=false) (hg:x.grownBy y r) (hr:∀k,r=some k->k<N) (hB:B y):CG bx cl s B N o I D g (Y_ d i) y:=
 ⟨hB,fun e=>h.nb (by rwa [F_ h1] at e),fun e=>h.nc (by rwa [F_ h2] at e),fun z c=>by
  obtain ⟨f,a,j⟩:=h.bo z c;exact ⟨f,iS a hg.size,fun _=>(hg.block z a (fun b=>by have:=hr z b.symm;omega)).trans (j hd)⟩,h.an,fun e=>by rw [F_ h3,hd] at e;cases e⟩
theorem CG.step (h:CG bx cl s B N o I D g d x) (i:Nat) (h1:(bx == i)=false) (h2:(cl == i)=false) (h3:(s == i)=false) (hd:d s=false) (hb:q_ x y) (hB:B y):CG bx cl s B N o I D g (Y_ d i) y:=
 h.grown i h1 h2 h3 hd (bV hb none) (fun k hk=>by cases hk) hB
theorem CG.boxed {r:Option τ} (h:CG bx cl s B N o I D (none,r) d x) (h2:(cl == bx)=false) (h3:(s == bx)=false) (hd:d s=false) (hN:N<=x.heap.size) (o':Obj) (ho:(x.alloc o').heap[x.heap.size]?=some o) (hB:B (x.alloc o')):CG bx cl s B N o I D (some x.heap.size,r) (Y_ d bx) (x.alloc o'):=
 ⟨hB,fun e=>(by rw [cF] at e;cases e),fun e=>h.nc (by rwa [F_ h2] at e),fun z hz=>by
  injection hz with hz
  subst hz;exact ⟨hN,z_,fun _=>ho⟩,h.an,fun e=>by rw [F_ h3,hd] at e;cases e⟩
theorem CG.called {t:τ} (h:CG bx cl s B N o I D (r,none) d x) (h1:(bx == cl)=false) (h3:(s == cl)=false) (hd:d s=false) (hb:q_ x y) (hB:B y) (hI:I t):CG bx cl s B N o I D (r,some t) (Y_ d cl) y:=
 ⟨hB,fun e=>h.nb (by rwa [F_ h1] at e),fun e=>(by rw [cF] at e;cases e),fun z c=>by
  obtain ⟨f,b,g⟩:=h.bo z c;exact ⟨f,iS b hb.size,fun _=>(hb.block z b).trans (g hd)⟩,fun i a=>by injection a with a;subst a;exact hI,fun e=>by rw [F_ h3,hd] at e;cases e⟩
theorem CG.stored {t:τ} (h:CG bx cl s B N o I D (some z,some t) d x) (hB:B (x.setRow z cs)) (hD:D t (x.setRow z cs) z):CG bx cl s B N o I D (some z,some t) (Y_ d s) (x.setRow z cs):=
 ⟨hB,fun e=>absurd (h.nb (by unfold Y_ at e;simp at e;exact e.1)) z_,fun e=>absurd (h.nc (by unfold Y_ at e;simp at e;exact e.1)) z_,fun f a=>by
  obtain ⟨b,c,_⟩:=h.bo f a;exact ⟨b,by simpa [World.setRow] using c,fun e=>(by rw [cF] at e;cases e)⟩,h.an,fun _=>⟨z,t,rfl,hD⟩⟩
end
theorem oH (m s:Nat) (pl:Nat->Bool) (C:GH τ->(Nat->Bool)->World->Prop) (ls:List (SG S τ))
  (hm:P.follows .mixedOrders=true) (hB:mL l.toArray m s pl=true) (hs:A.tmps.size=m) (hC:C (none,none) (fun _=>false) {W with drawn:=W.drawn+1}) (hs0:(List.range l.toArray.size).all (fun i=>(l.toArray[i]?).all (fun o=>o.dst.isSome)||i == s)=true) (hs1:∀g w,GG ls g s undef w)
  (h:dC P l.toArray C (GG ls) s pl (fun a'=>∀g d w',(∀j,j<l.toArray.size->d j=true)->C g d w'->(∀j,j<l.toArray.size->GG ls g j (eS l.toArray a' j) w')->wpList P l.toArray Q [] a' w') 0 l A):(Code.region id l.toArray true).wp P Q A W:=
 bU m s pl C (GG ls) (none,none) hm hB hs hC (fun i o a b g v w f=>by
  have c:i<l.toArray.size:=(Array.getElem?_eq_some_iff.1 a).1;have:=List.all_eq_true.1 hs0 i (List.mem_range.2 c);rw [a] at this;simp [b] at this;subst this;exact hs1 g w) h
end
section
def jn_ (l:List Int) (S:Nat->Prop) (w:World) (e:Ending) (w':World):Prop:=∃v,e = .returned v/\LO M_ 3 w' (w) S v l/\q_ w w'
theorem gJ_ (off n:Nat) (S:Nat->Prop) (w:World) (h1:1<=n) (h2:off+n<=128):C_ 88 #[I_ off,I_ n] w (jn_ (W_ off n) S w):=by
 have r:=fun w'=>mA (off:Int) (n:Int) w' O_ O_ O_ O_;have H:¬((n:Int)<1):=O_
 have y:((off:Int):Int).tdiv 16=((off / 16:Nat):Int):=by rw [tv_ O_];rfl
 have z:(off:Int) / 16=((off / 16:Nat):Int):=by rfl
 obtain ⟨a,q,C,D⟩:∃a:Nat,off / 16=a/\a*16<=off/\off<a*16+16:=⟨off / 16,rfl,O_,O_⟩;have B:=H_ (show W_ off n=zA a ((off+n+15) / 16 - a) by rw [<-q];rfl);rw [q] at y z;clear q;go_enter func88,ntmps88
 go_upto_region 5 with (go_at_call 93;(with_reducible refine CM (r _) ?_);rintro e w1 ⟨rfl,rfl⟩)
 clear y z
 go_loopw [5,6] (fun u i wx=>∃k:Nat,i = I_ ((a+k:Nat):Nat)/\k<=9/\(k=0\/(a+k)*16<off+n+16)/\LO M_ 3 wx (w) S u (zA a k)/\q_ w wx) (fun _ i _=>100 - (intOf i).toNat)
 case atStart=>exact ⟨0,rfl,O_,.inl rfl,LO.nil _ _ _ _ _,aI _ _⟩
 case round=>
  obtain ⟨k,rfl,G,v,x,o⟩:=hrel;have p:=H_ x;have m:=H_ o;clear x o
  by_cases l:(a+k)*16<off+n
  ·have g:=H_ (aC_ a k);obtain ⟨j,f⟩:=aZ (a+k);rw [<-f] at g l ⊢;have c:=H_ f;have E:j<=8:=O_
   have F:((j:Int)*16)<(off:Int)+(n:Int):=O_
   clear f
   go_wp2_with (at_builtin;(refine U_ cS rfl (.tmp 25) (.tmp 27) rfl S rfl (p.alloc _) (by have:=m.size;simp;omega) (by rw [sX];omega) #[I_ (j:Int)] rfl (l_ _ _ _ rfl) (j:Int) rfl ?_);intro v4 w4 d s t)
   go_roundw
   case rel=>exact ⟨k+1,by have:=c.out;go_num,by have:=c.out;omega,by have:=c.out;omega,by rw [g.out];exact d,(b_ m.out _).grown s (b_ m.out _).size (fun b o=>(p.own o).1)⟩
   case measure=>exact bH
  ·have A:=H_ (show W_ off n=zA a k by rw [B.out];congr 1;omega);obtain ⟨j,f⟩:=aZ (a+k);rw [<-f] at l ⊢;have F:¬((j:Int)*16)<(off:Int)+(n:Int):=O_
   have E:j<=20:=O_
   clear f;go_wp2;go_ret;exact ⟨_,rfl,by rw [A.out];exact p,m.out⟩
section
variable {I J:Ck->Prop} {S:Nat->Prop} {W w Wk wx wy:World} {bt X R N:Nat} {K:Option Nat} {a b c d e f g:Value} {C:Ck}
structure PB (I:Ck->Prop) (S:Nat->Prop) (W w Wk:World) (bt X R N:Nat) (K:Option Nat) (a b c d e f g:Value) (C:Ck) (wx:World):Prop where
 pc:PC I S W w Wk bt X R K a b c d e f g C wx
 old:x_ wx (fun z=>Sx S X R K z/\z<N) a b c d e f g C
 xn:X<N
 rn:R<N
 kn:∀z,K=some z->z<N
 wn:w.heap.size<=N
 nn:N<=wx.heap.size
theorem PC.pb (h:PC I S W w Wk bt X R K a b c d e f g C wx):PB I S W w Wk bt X R (wx) K a b c d e f g C wx:=
 ⟨h,h.at_.weak (fun z hz h=>⟨h,hz⟩),p_ h.box,p_ h.res,fun z hz=>(h.kk z hz).1,h.gb.size,aQ _⟩
theorem PB.step (h:PB I S W w Wk bt X R N K a b c d e f g C wx) (hb:q_ wx wy):PB I S W w Wk bt X R N K a b c d e f g C wy:=
 ⟨h.pc.step hb,h.old.step hb,h.xn,h.rn,h.kn,h.wn,dO h.nn hb.size⟩
theorem PB.aside (h:PB I S W w Wk bt X R N K a b c d e f g C wx) (hz:N<=z) (cs:Array Value):PB I S W w Wk bt X R N K a b c d e f g C (wx.setRow z cs):=by
 have k:=h.old.kept (r_.of_setRow wx z cs (fun q=>by omega));have h1:=h.xn;have h2:=h.rn;have h3:=h.wn;have i:=h.pc;refine ⟨⟨i.inv,k.weak (fun z _ hz=>hz.1),(setRow_other _ _ _ _ O_).trans i.box,(setRow_other _ _ _ _ O_).trans i.res,i.tp.gb (gE _ _ _) (by have:=i.bw;omega),bj_ i.gb O_,fun l j=>?_,i.xw,i.rw_,i.bw,i.xr,i.nS,i.fS⟩,k,h1,h2,h.kn,h3,by simpa [World.setRow] using h.nn⟩;obtain ⟨m,n,o,p⟩:=i.kk l j;have:=h.kn l j;exact ⟨by simpa [World.setRow] using m,n,o,(setRow_other _ _ _ _ O_).trans p⟩
end
theorem cs_ {W1:World} {u:Value} {L:List Int} (ho:LO M_ 3 wx (W1) (fun z=>W1.heap.size<=z) u L) (hl:1<=L.length) (ha:∀z ∈ L,0<=z/\z<8) (hn:L.length<=20) (hb:q_ W1 wx) :
  ∃(gl cl:Nat) (L:List Int),u = S_ (some ⟨gl,0,none⟩) L.length cl/\W1<=gl/\gl<wx/\(∀(k:Nat) (z:Int),L[k]?=some z->wx.cell? ⟨gl,k,none⟩=some (I_ z))/\(∀z ∈ L,0<=z/\z<8)/\L.length<=20/\q_ W1 wx:=by
 obtain ⟨gl,cl,rfl,_,_,h1,b⟩:=ho.lw hl;refine ⟨gl,cl,L,rfl,h1,b.lt,fun k z c=>?_,ha,hn,hb⟩;obtain ⟨r,a,hc⟩:=b.at_ c;have a:r=[I_ z]:=a;subst a;have:=hc 0 _ rfl;rw [Nat.mul_one,Nat.add_zero] at this;exact this
def RQ.ck3:RQ (Ck × Int × Int):=⟨fun w S t v=>∃a b c d e f g,v = .tuple #[cI a b c d e f g,I_ t.2.1,I_ t.2.2]/\x_ w S a b c d e f g t.1,fun _ _ _ _ _ hk ⟨a,b,c,d,e,f,g,h1,h2⟩=>⟨a,b,c,d,e,f,g,h1,h2.kept hk⟩,fun _ _ _ _ _ hS ⟨a,b,c,d,e,f,g,h1,h2⟩=>⟨a,b,c,d,e,f,g,h1,h2.weak hS⟩⟩
def RQ.ck {τ:Type} (f0:τ->Ck):RQ τ:=⟨fun w S t v=>∃a b c d e f g,v=cI a b c d e f g/\x_ w S a b c d e f g (f0 t),fun _ _ _ _ _ hk ⟨a,b,c,d,e,f,g,h1,h2⟩=>⟨a,b,c,d,e,f,g,h1,h2.kept hk⟩,fun _ _ _ _ _ hS ⟨a,b,c,d,e,f,g,h1,h2⟩=>⟨a,b,c,d,e,f,g,h1,h2.weak hS⟩⟩
theorem fX_ {a:Int} (ha:0<=a/\a<=3):0<=bits .andNot .i64 3 a/\bits .andNot .i64 3 a<=3:=by
 obtain rfl | rfl | rfl | rfl:a=0\/a=1\/a=2\/a=3:=O_
 all_goals decide
end
section
structure Pl where
 dev:Int
 slot:Int
def Pl.row (x:Pl):List Value:=[I_ x.dev,I_ x.slot]
def PlR:RR Pl 2:=RR.flat Pl.row (fun a=>⟨rfl,fun u hu=>by
 simp only[Pl.row,qJ,List.not_mem_nil,or_false] at hu
 rcases hu with rfl | rfl <;> rfl⟩)
structure tJ (L:List Pl):Prop where
 each:∀x ∈ L,0<=x.dev/\x.dev<4/\0<=x.slot/\x.slot<7
 pos:1<=L.length
 few:L.length<=8
 dup:∀(i k:Nat) (x y:Pl),k<i->L[i]?=some x->L[k]?=some y->y.dev≠x.dev\/y.slot≠x.slot
theorem PlA.cells {A:Option Addr} {cap:Nat} {L:List Pl} (h:LA PlR w S (S_ A n cap) L) {i:Nat} {x:Pl} (hi:L[i]?=some x):∃b o,A=some ⟨b,o,none⟩/\b<w.heap.size/\w.cell? ⟨b,o+i*2,none⟩=some (I_ x.dev)/\w.cell? ⟨b,o+i*2+1,none⟩=some (I_ x.slot):=by
 obtain ⟨b,o,cap',r,hv,c1,c2,hb,hS,hp,hc⟩:=h.at_ hi;injection hv with e1 _ _
 have hp:r=x.row:=hp;subst hp;exact ⟨b,o,e1,hb,hc 0 _ rfl,hc 1 _ rfl⟩
theorem aD_ {L:List Pl} (h:LA PlR w S v L) (ok:tJ L):C_ 81 #[v] w (cP true w):=by
 obtain ⟨A,cap,rfl,N,r⟩:=h.form;obtain ⟨j,l1,l2,l⟩:=ok;obtain ⟨H,F,E⟩:=eT h j l;have n1:(1:Int)<=(L.length:Int):=O_
 have n2:(L.length:Int)<=8:=O_
 have z:=fun w'=>g6_ w';unfold maxLen at r;clear h j l;go_enter func81,ntmps81;go_wp2
 go_loopw [3,4] (fun i _ wx=>∃k:Nat,i = I_ k/\k<=L.length/\q_ w wx) (fun i _ _=>L.length - (intOf i).toNat)
 case atStart=>exact ⟨0,rfl,O_,aI _ _⟩
 case round=>
  obtain ⟨k,rfl,Z,g⟩:=hrel;have a:=H_ g;clear g
  by_cases t:k<L.length
  ·obtain ⟨x,m⟩:∃x,L[k]?=some x:=⟨_,cU t⟩;obtain ⟨b,o,rfl,M,c0,c1⟩:=PlA.cells (H.step a.out) m;obtain ⟨Q,R,U,V⟩:=F.out x (fF m);have f:=H_ m;have P:(k:Int)<(L.length:Int):=O_
   have G:decide (x.dev<0)=false:=dF O_;have I:decide (4<=x.dev)=false:=dF O_;have J:decide (x.slot<0)=false:=dF O_;have K:decide (7<=x.slot)=false:=dF O_;clear m
   go_upto_region 4 with fail
   go_quiet ((go_at_call 146;exact Calls.quiet_of_eq (z _)));have d:=H_ (below_drewN a.out nq);clear a G I J K Q R U V c0 c1;go_wp2
   go_loopw [4] (fun i wx=>∃q:Nat,i = I_ q/\q<=k/\q_ w wx) (fun i _=>k - (intOf i).toNat)
   case atStart=>exact ⟨0,rfl,O_,d.out⟩
   case round=>
    obtain ⟨q,rfl,hq,g⟩:=hrel;have a:=H_ g;clear g d
    by_cases u:q<k
    ·obtain ⟨y,B⟩:∃y,L[q]?=some y:=⟨_,cU O_⟩;obtain ⟨W,o1,n,C,c0,c1⟩:=PlA.cells (H.step a.out) f.out;obtain ⟨X,o2,p,D,c2,Y⟩:=PlA.cells (H.step a.out) B;injection n with n
     injection n with e11 e12
     injection p with p
     injection p with e21 e22
     subst e11 e12 e21 e22;have c:=E k q x y u f B;have qk:(q:Int)<(k:Int):=O_
     have ql:(q:Int)<(L.length:Int):=O_
     clear B
     by_cases s:y.dev=x.dev
     ·have O:¬y.slot=x.slot:=by
       rcases c with h | h
       ·exact absurd s h
       ·exact h
      clear c
      go_upto_region 9 with fail
      go_quiet (fail);go_wp2;go_roundw
      case rel=>exact ⟨q+1,by go_num,O_,below_drewN a.out nq⟩
      case measure=>exact bH
     ·clear c
      go_upto_region 9 with fail
      go_quiet (fail);go_wp2;go_roundw
      case rel=>exact ⟨q+1,by go_num,O_,below_drewN a.out nq⟩
      case measure=>exact bH
    ·obtain rfl:k=q:=O_
     go_wp2;go_roundw
     case rel=>exact ⟨k+1,by go_num,O_,a.out⟩
     case measure=>exact bH
  ·obtain rfl:k=L.length:=O_
   go_wp2;go_ret
   exact ⟨rfl,a.out⟩
end
section
abbrev GP:=Option (Value × Bool)
def KPh (g:GP) (w:World) (g':GP) (w':World):Prop:=(g=none/\g'=none/\q_ w w')\/(g'≠none/\∀v p,g=some (v,p)->∃p',g'=some (v,p'))
structure PF where
 p:GP->Value->World->Prop
 st:∀v g w g' w',KPh g w g' w'->p g v w->p g' v w'
def PF.any:PF:=⟨fun _ _ _=>True,fun _ _ _ _ _ _ h=>h⟩
def PF.eq (x:Value):PF:=⟨fun _ v _=>v=x,fun _ _ _ _ _ _ h=>h⟩
def PF.p0 (q:SP):PF:=⟨fun g v w=>g=none->q.p v w,fun v g w g' w' h hp hg=>by
 rcases h with ⟨h1,_,h3⟩ | ⟨h1,_⟩
 ·exact q.st v w w' h3 (hp h1)
 ·exact absurd hg h1⟩
def PF.res:PF:=⟨fun g v _=>∃p,g=some (v,p),fun v g w g' w' h ⟨p,hp⟩=>by
 rcases h with ⟨h1,_,_⟩ | ⟨_,h2⟩
 ·rw [h1] at hp;cases hp
 ·exact h2 v p hp⟩
def GF (ls:List PF) (g:GP) (j:Nat) (v:Value) (w:World):Prop:=(ls.getD j PF.any).p g v w
theorem GF.keep {ls:List PF} {g g':GP} (h:KPh g w g' w') (j:Nat) (v:Value) (hg:GF ls g j v w):GF ls g' j v w':=(ls.getD j PF.any).st v g w g' w' h hg
structure yW (s t:Nat) (P0:World->Prop) (P1 P2:Value->World->Prop) (g:GP) (d:Nat->Bool) (x:World):Prop where
 n0:d s=false->g=none
 n1:d t=false->∀v,g≠some (v,true)
 c0:g=none->P0 x
 c1:∀v,g=some (v,false)->P1 v x
 c2:∀v,g=some (v,true)->P2 v x
 fin:d t=true->∃v,g=some (v,true)
section
variable {s t:Nat} {P0:World->Prop} {P1 P2:Value->World->Prop} {g:GP} {d:Nat->Bool} {x y:World}
theorem yW.start (h:P0 x):yW s t P0 P1 P2 none (fun _=>false) x:=⟨fun _=>rfl,fun _ v h=>(by cases h),fun _=>h,fun v h=>(by cases h),fun v h=>(by cases h),fun h=>(by cases h)⟩
theorem yW.pure (h:yW s t P0 P1 P2 g d x) (i:Nat) (h1:(s == i)=false) (h2:(t == i)=false):yW s t P0 P1 P2 g (Y_ d i) x:=
 ⟨fun e=>h.n0 (by rwa [F_ h1] at e),fun e=>h.n1 (by rwa [F_ h2] at e),h.c0,h.c1,h.c2,fun e=>h.fin (by rwa [F_ h2] at e)⟩
theorem yW.step (h:yW s t P0 P1 P2 none d x) (i:Nat) (h1:(s == i)=false) (h2:(t == i)=false) (hP:P0 y):yW s t P0 P1 P2 none (Y_ d i) y:=
 ⟨fun e=>rfl,fun e v h=>(by cases h),fun _=>hP,fun v h=>(by cases h),fun v h=>(by cases h),fun e=>(by
  obtain ⟨v,hv⟩:=h.fin (by rwa [F_ h2] at e)
  cases hv)⟩
theorem yW.app (h:yW s t P0 P1 P2 none d x) (h2:(t == s)=false) (hP:P1 v y):yW s t P0 P1 P2 (some (v,false)) (Y_ d s) y:=
 ⟨fun e=>(by rw [cF] at e;cases e),fun e v h=>(by injection h with h;injection h with _ h;cases h),fun e=>(by cases e),fun a e=>(by injection e with e;injection e with e _;subst e;exact hP),fun v h=>(by injection h with h;injection h with _ h;cases h),fun e=>(by
  obtain ⟨v,hv⟩:=h.fin (by rwa [F_ h2] at e)
  cases hv)⟩
theorem yW.sto (h:yW s t P0 P1 P2 (some (v,false)) d x) (h2:(s == t)=false) (hP:P2 v y):yW s t P0 P1 P2 (some (v,true)) (Y_ d t) y:=
 ⟨fun e=>absurd (h.n0 (by rwa [F_ h2] at e)) z_,fun e=>(by rw [cF] at e;cases e),fun e=>(by cases e),fun a e=>(by injection e with e;injection e with _ e;cases e),fun a e=>(by injection e with e;injection e with e _;subst e;exact hP),fun _=>⟨v,rfl⟩⟩
end
theorem yT (m s t:Nat) (pl:Nat->Bool) (P0:World->Prop) (P1 P2:Value->World->Prop) (ls:List PF)
  (hm:P.follows .mixedOrders=true) (hB:mL l.toArray m s pl=true) (hs:A.tmps.size=m) (hC:P0 {W with drawn:=W.drawn+1}) (hs0:(List.range l.toArray.size).all (fun i=>(l.toArray[i]?).all (fun o=>o.dst.isSome)||i == t)=true) (hs1:∀g w,GF ls g t undef w)
  (h:dC P l.toArray (yW s t P0 P1 P2) (GF ls) s pl (fun a'=>∀g d w',(∀j,j<l.toArray.size->d j=true)->yW s t P0 P1 P2 g d w'->(∀j,j<l.toArray.size->GF ls g j (eS l.toArray a' j) w')->wpList P l.toArray Q [] a' w') 0 l A):(Code.region id l.toArray true).wp P Q A W:=
 bU m s pl (yW s t P0 P1 P2) (GF ls) none hm hB hs (yW.start hC) (fun i o a b g v w f=>by
  have c:i<l.toArray.size:=(Array.getElem?_eq_some_iff.1 a).1;have:=List.all_eq_true.1 hs0 i (List.mem_range.2 c);rw [a] at this;simp [b] at this;subst this;exact hs1 g w) h
end
section
def gT (p:Pl):Fl:=⟨p.dev,p.slot,eC,0,0,0,0,0,0,0,0,0⟩
def vQ:Lr:=⟨[],[],[]⟩
def uN (Ls:List Pl) (sz:List Int) (gs:List Gr):Ck:=⟨Ls.map gT,List.replicate (eM (bC 1 sz)) eI,bC 1 sz,gs,List.replicate gs.length vQ,List.replicate gs.length 0,[]⟩
theorem c8_ {p:Pl}:jG.p w S (gT p) ((gT p).rowT 0 none 0):=
 ⟨0,none,0,fun i=> .inl rfl,X_.zero,aQ _,.nil _,rfl⟩
theorem iI:∀(l:List Int) (a:Int),(∀n ∈ l,1<=n)->(eM (bC a l):Int)=cQ l
 | [],_,_=>rfl
 | x :: l,a,h=>by
  have ih:=iI l (a+x) (fun n c=>h n (List.mem_cons_of_mem _ c));have d:=h x (List.mem_cons_self ..);have e:cQ (x :: l)=x+cQ l:=by unfold cQ;rw [List.foldl_cons,mX];omega
  have b:eM (bC a (x :: l))=x.toNat+eM (bC (a+x) l):=by
   show eM (bp_ a x :: bC (a+x) l)=_
   unfold eM;rw [List.map_cons,List.sum_cons]
   congr 1
   exact cA_ a x.toNat
  rw [e,b];omega
theorem c0_ (p:Int):D_ eC p=0:=by unfold D_;split <;> rfl
theorem cg_:∀(l:List Int) (a:Int) (z:Zn) (f:Int),(∀n ∈ l,1<=n)->z ∈ bC a l->f ∈ z.free->a<=f/\f<a+cQ l
 | [],_,z,f,_,h,_=>by cases h
 | x :: l,a,z,f,hn,h,hf=>by
  have hx:=hn x (List.mem_cons_self ..);have e:cQ (x :: l)=x+cQ l:=by unfold cQ;rw [List.foldl_cons,mX];omega
  have c:0<=cQ l:=by rw [<-iI l 0 (fun n b=>hn n (List.mem_cons_of_mem _ b))];omega
  rcases List.mem_cons.1 h with rfl | h
  ·have:=cB_ (show f ∈ xD a x.toNat from hf);omega
  ·have:=cg_ l (a+x) z f (fun n b=>hn n (List.mem_cons_of_mem _ b)) h hf;omega
theorem cc_ {Ls:List Pl} {sz:List Int} {gs:List Gr} (hF:Ls.length=F) (hG:gs.length=G) (hZ:sz.length=Z) (hf:1<=F/\F<=3/\1<=G/\G<=2/\1<=Z/\Z<=2) (hP:tJ Ls) (hz:tM sz) (hg:fY gs):cE F G Z (uN Ls sz gs) where
 few:=hf
 nf:=by simp [uN,hF]
 nr:=by
  have:=iI sz 1 hz.each;have h1:=hz.all;have h2:1<=cQ sz:=by
   have a:sz[0]?=some sz[0]:=cU hz.pos;have:=hz.each _ (fF a);have:=(hz.part 0 O_).2.2 _ a;have:=(hz.part 0 O_).1;omega
  simp only[uN,rL_];omega
 ng:=hG
 nl:=by simp [uN,hG]
 nk:=by simp [uN,hG]
 nz:=by simp [uN,kC,hZ]
 ten:=fun i x a=>by
  have a:(List.replicate _ eI)[i]?=some x:=a;obtain rfl:=(List.mem_replicate.1 (fF a)).2
  show (0:Int)<G
  omega
 file:=fun j y b=>by
  have b:(Ls.map gT)[j]?=some y:=b;rw [gP_] at b;obtain ⟨p,g,rfl⟩:=Option.map_eq_some_iff.1 b;obtain ⟨_,_,h3,m⟩:=hP.each p (fF g);exact ⟨⟨0,rfl,O_⟩,⟨p.slot.toNat,by show p.slot=_;omega,O_⟩,⟨by show (0:Int)<=0;omega,by show (0:Int)<=1000000;omega,Iff.rfl⟩,⟨⟨Int.le_refl 0,by show (0:Int)<=255;omega⟩,rfl,rfl,rfl,rfl⟩⟩
 frame:=fun i x a=>by
  have a:(List.replicate _ eI)[i]?=some x:=a;obtain rfl:=(List.mem_replicate.1 (fF a)).2;exact .inl rfl
 find:=fun j y p b h0=>by
  have b:(Ls.map gT)[j]?=some y:=b;rw [gP_] at b;obtain ⟨q,n,rfl⟩:=Option.map_eq_some_iff.1 b;have h0:0<D_ eC p:=h0;rw [c0_] at h0;omega
 free:=fun k z d f c=>by
  have d:(bC 1 sz)[k]?=some z:=d;have:=cg_ sz 1 z f hz.each (fF d) c;have h2:=iI sz 1 hz.each;refine ⟨(f - 1).toNat,eI,O_,?_,rfl⟩
  show (List.replicate _ eI)[_]?=_
  rw [List.getElem?_replicate,if_pos O_]
 zok:=hz.zones
 zsum:=by
  show nP (bC 1 sz)=((List.replicate _ eI).length:Int)+1
  rw [wR,rL_,iI sz 1 hz.each];omega
 gok:=hg
 lok:=fun t l hl=>by
  have hl:(List.replicate _ vQ)[t]?=some l:=hl;obtain rfl:=(List.mem_replicate.1 (fF hl)).2;exact ⟨fun x a=>(by cases a),List.nodup_nil,fun x a=>(by cases a),List.Pairwise.nil⟩
 pok:=⟨fun p g=>(by cases g),List.Pairwise.nil⟩
theorem wL (a:Value) (k n:Nat) (hk:0<k):(madeCells (Array.replicate k a) (n*k)).toList=(List.replicate n (List.replicate k a)).flatten:=by
 rw [List.flatten_replicate_replicate];apply List.ext_getElem?;intro i
 by_cases h:i<n*k
 ·have b:i % k<k:=Nat.mod_lt _ hk;simp [madeCells,h,List.getElem?_replicate,b]
 ·simp [madeCells,h,List.getElem?_replicate]
end
section
theorem wM {p:Int} (hi:gG p=true) (hv:0<(c p.toNat).1) {w:Bool} {q:Nat} (hq:q≠p.toNat):(aT c p d w) q=c q:=by
 have a:dH 1=true:=rfl;have b:dH 2=true:=rfl
 cases w
 ·exact jJ hi hv d hq
 ·cases d
  ·unfold aT;simp only[Bool.false_eq_true,if_false,if_true];unfold aV dJ;rw [if_pos (cJ hi a hv)];rw [if_pos (cJ hi b (by show 0<(upd c p.toNat _ p.toNat).1;unfold upd;rw [if_pos rfl];exact hv))];simp [upd,hq]
  ·unfold aT;simp only[if_true];unfold dJ;rw [if_pos (cJ hi a hv)];rw [if_pos (cJ hi b (by show 0<(upd c p.toNat _ p.toNat).1;unfold upd;rw [if_pos rfl];exact hv))];simp [upd,hq]
theorem gB_:∀(m:Fin 8) (d:Bool),0<=bits .or .i64 (if d then bits .or .i64 (m.val:Int) 1 else bits .andNot .i64 (m.val:Int) 1) 2/\bits .or .i64 (if d then bits .or .i64 (m.val:Int) 1 else bits .andNot .i64 (m.val:Int) 1) 2<=7:=by decide +kernel
theorem c5_ {p:Int} (hi:gG p=true) (hv:0<(c p.toNat).1) (hm:0<=(c p.toNat).2/\(c p.toNat).2<=7):0<=((aT c p d true) p.toNat).2/\((aT c p d true) p.toNat).2<=7:=by
 have a:dH 1=true:=rfl;have b:dH 2=true:=rfl;have hf:=gB_ ⟨(c p.toNat).2.toNat,O_⟩ d;rw [show (((⟨(c p.toNat).2.toNat,O_⟩:Fin 8).val:Nat):Int)=(c p.toNat).2 by simp;omega] at hf;have e:((aT c p d true) p.toNat).2=bits .or .i64 (if d then bits .or .i64 (c p.toNat).2 1 else bits .andNot .i64 (c p.toNat).2 1) 2:=by
  cases d
  ·unfold aT;simp only[Bool.false_eq_true,if_false,if_true];unfold aV dJ;rw [if_pos (cJ hi a hv)];rw [if_pos (cJ hi b (by show 0<(upd c p.toNat _ p.toNat).1;unfold upd;rw [if_pos rfl];exact hv))];simp [upd]
  ·unfold aT;simp only[if_true];unfold dJ;rw [if_pos (cJ hi a hv)];rw [if_pos (cJ hi b (by show 0<(upd c p.toNat _ p.toNat).1;unfold upd;rw [if_pos rfl];exact hv))];simp [upd]
 rw [e];exact hf
theorem c6_ {p:Int} (hi:gG p=true) (hv:0<(c p.toNat).1) (hm:0<=(c p.toNat).2/\(c p.toNat).2<=7) {d:Int}:mkO ((aT c p (d != 0) false) p.toNat).2 d:=by
 rw [uK hi hv];have hf:=eQ_ ⟨(c p.toNat).2.toNat,O_⟩ (d != 0);rw [show (((⟨(c p.toNat).2.toNat,O_⟩:Fin 8).val:Nat):Int)=(c p.toNat).2 by simp;omega] at hf;refine ⟨hf.2,hf.1.trans ?_⟩
 by_cases q:d=0
 ·subst q;rfl
 ·simp [q]
def Spl (D:List UInt8) (n:Nat) (s:ByteArray) (D':List UInt8):Prop:=∀q,D'.getD q 0=if n<=q/\q<n+s.size then s.data.toList.getD (q - n) 0 else D.getD q 0
theorem g5_ {y:Fl} (h:fE x):iA x y=3\/aC y x.page.toNat=false/\iA x y=x.pg.dirty:=by
 unfold iA aC
 cases q:(bits .and .i64 y.blocks (wrap64 (2 ^ x.page.toNat)) == 0)
 ·exact .inr ⟨rfl,if_neg bX⟩
 ·exact .inl (if_pos rfl)
theorem yQ {s:Int} (hs:1<=s/\s<=3) {b:Nat} (hb:b<16):(0<=(dR s).1/\1<=(dR s).2/\(dR s).1+(dR s).2<=2)/\(bt s (b / 8)=true↔(dR s).1*8<=(b:Int)/\(b:Int)<((dR s).1+(dR s).2)*8):=by
 obtain rfl | rfl | rfl:s=1\/s=2\/s=3:=O_
 ·refine ⟨bX,?_⟩
  show bt 1 (b / 8)=true↔(0:Int)*8<=b/\(b:Int)<(0+1)*8
  obtain q | q:b / 8=0\/b / 8=1:=O_
  ·rw [q];simp only[show bt 1 0=true by decide,true_iff];omega
  ·rw [q];simp only[show bt 1 1=false by decide];simp;omega
 ·refine ⟨bX,?_⟩
  show bt 2 (b / 8)=true↔(1:Int)*8<=b/\(b:Int)<(1+1)*8
  obtain q | q:b / 8=0\/b / 8=1:=O_
  ·rw [q];simp only[show bt 2 0=false by decide];simp;omega
  ·rw [q];simp only[show bt 2 1=true by decide,true_iff];omega
 ·refine ⟨bX,?_⟩
  show bt 3 (b / 8)=true↔(0:Int)*8<=b/\(b:Int)<(0+2)*8
  obtain q | q:b / 8=0\/b / 8=1:=O_
  ·rw [q];simp only[show bt 3 0=true by decide,true_iff];omega
  ·rw [q];simp only[show bt 3 1=true by decide,true_iff];omega
section
variable {D D':List UInt8} {e e':Nat->Int} {C C' C0:Ck}
theorem Ig.inv (h:Ig D C):cE 2 1 1 C:=by obtain ⟨e,h,_⟩:=h;exact h.inv
theorem Ig.back (h:Ig D C) (hu:dE C i x j y) {C1:Ck} {rq:Value} (hb:jR C i j x y C1 rq 0) :
  cE 2 1 1 C1/\∃(n c:Nat) (d:ByteArray) (x1:Fr) (y1:Fl),rq = .agg (bJ 0 x.tenant y.dev 2 (n:Int) (c:Int) d false false 0)/\1<=c/\n+c<=128/\d.size=c*8/\dE C1 i x1 j y1/\D_ y1.c x1.page=(i:Int)+1/\
  ∀(D':List UInt8) (C2:Ck) (err:Int),Spl D (n*8) d D'->nI C1 i j x1 y1 0 C2 err->err=0/\Ig D' C2:=by
 obtain ⟨e,o,hs⟩:=h;have m:=o.inv.putB hu (hb.q hu);obtain ⟨I,f2⟩:=o.fr _ _ _ _ hu;unfold jR at hb;rw [if_neg (by simp [I.wr])] at hb
 split at hb
 ·exact absurd hb.2.2 bX
 rename_i hd0
 obtain ⟨rfl,rfl,_⟩:=hb;have hp:=hu.ok.page;have E:j<2:=by have:=bK hu.fl;have:=o.inv.nf;omega
 have U:=(o.fl _ _ hu.fl).1.2.1;have A:=g5_ (y:=y) hu.ok;have l:1<=iA x y/\iA x y<=3:=by
  have:=hu.ok.pg.d
  rcases A with a | ⟨_,a⟩ <;> rw [a] <;> omega
 obtain ⟨f,S⟩:=aZ (iA x y);rw [<-S] at A l m ⊢;obtain ⟨⟨w1,w2,w3⟩,_⟩:=yQ l (b:=0) O_;obtain ⟨a,K⟩:∃a:Nat,(dR f).1=a:=⟨(dR f).1.toNat,O_⟩;obtain ⟨c,hc⟩:∃c:Nat,(dR f).2=c:=⟨(dR f).2.toNat,O_⟩;obtain ⟨p,Q⟩:∃p:Nat,x.page=(p:Int):=⟨x.page.toNat,O_⟩;have w:x.page.toNat=p:=O_
 obtain ⟨u,hv⟩:=eE (c:=y.c) (p:=x.page) (by rw [o.pgu hu];omega);have hl:x.pg.data.size=16:=hu.ok.pg.len;have t:(iL x f).size=c*8:=by
  show (x.pg.data.extract ((dR f).1.toNat*8) (((dR f).1.toNat+(dR f).2.toNat)*8)).size=_
  rw [bE_,K,hc,hl];simp only[Int.toNat_natCast];omega
 have F:fE ⟨x.file,x.page,bR x.pg f,x.tenant,x.holds,x.reading,f⟩:=⟨hu.ok.page,hu.ok.tenant,mT hu.ok.pg ⟨O_,l.2⟩,hu.ok.holds,hu.ok.reading,⟨by show 0<=f;omega,l.2⟩⟩;have r:dE (qR C i j x y f) i ⟨x.file,x.page,bR x.pg f,x.tenant,x.holds,x.reading,f⟩ j {y with c:=aT y.c x.page ((bR x.pg f).dirty != 0) (f != 0)}:=⟨w_ hu.fr,w_ hu.fl,hu.ix,F⟩
 have W:(f != 0)=true:=by simp;omega
 refine ⟨m,j*18+2+p*2+a,c,iL x f,_,_,?_,O_,O_,t,r,?_,fun D' C2 err V M=>?_⟩
 ·show rqP x y f 2 (iL x f)=_
  unfold rqP;rw [U,Q,K,hc];rw [show ((j:Int)*18+2+(p:Int)*2+(a:Int))=((j*18+2+p*2+a:Nat):Int) by omega]
 ·show D_ (aT y.c x.page _ _) x.page=_
  rw [dG u hv];exact o.pgu hu
 ·unfold nI at M;rw [if_neg (by show ¬f=0;omega),if_pos rfl] at M;obtain ⟨rfl,rfl⟩:=M;refine ⟨rfl,e,?_,(hs.of (nJ.set (y':={y with c:=aT y.c x.page ((bR x.pg f).dirty != 0) (f != 0)}) hu.fl rfl rfl)).of (nJ.set r.fl rfl rfl)⟩
  have G:fE ⟨x.file,x.page,bR x.pg f,x.tenant,x.holds,x.reading,0⟩:=⟨hu.ok.page,hu.ok.tenant,mT hu.ok.pg ⟨O_,l.2⟩,hu.ok.holds,hu.ok.reading,⟨by show (0:Int)<=0;omega,by show (0:Int)<=3;omega⟩⟩;have B:=(o.inv.file j y hu.fl).st.1;have v:∀k q b:Nat,k<2->q<8->b<16->dk D' k q b=if (k=j/\q=p)/\a*8<=b/\b<(a+c)*8 then (iL x f).data.toList.getD (b - a*8) 0 else dk D k q b:=fun k q b hk z hb=>by
   unfold dk;rw [V];have a0:a+c<=2:=O_
   by_cases g:(k=j/\q=p)/\a*8<=b/\b<(a+c)*8
   ·obtain ⟨⟨rfl,rfl⟩,J,g3⟩:=g;rw [if_pos (by rw [t];omega),if_pos ⟨⟨rfl,rfl⟩,J,g3⟩]
    congr 1
    omega
   ·rw [if_neg (fun J=>g ?_),if_neg g];rw [t] at J;have O:k=j:=by
     obtain rfl | rfl:k=0\/k=1:=O_
     all_goals (obtain rfl | rfl:j=0\/j=1:=by omega)
     all_goals omega
    subst O;omega
  have L:∀b:Nat,b<16->bt f (b / 8)=true->x.pg.data.data[b]?=some (dk D' j p b):=fun b hb s=>by
   have h1:=(yQ l hb).2.1 s;rw [v j p b E O_ hb,if_pos ⟨⟨rfl,rfl⟩,O_,O_⟩];have a3:x.pg.data.data.size=16:=hl;have Z:(iL x f).data.toList.getD (b - a*8) 0=x.pg.data.data.toList.getD b 0:=by
    show (x.pg.data.extract ((dR f).1.toNat*8) (((dR f).1.toNat+(dR f).2.toNat)*8)).data.toList.getD _ 0=_
    rw [K,hc];simp only[Int.toNat_natCast];rw [List.getD_eq_getElem?_getD,List.getD_eq_getElem?_getD,ByteArray.data_extract,Array.getElem?_toList,Array.getElem?_extract,if_pos O_,Array.getElem?_toList]
    congr 2
    omega
   rw [Z,List.getD_eq_getElem?_getD,Array.getElem?_toList,Array.getElem?_eq_getElem O_]
   rfl
  have P:∀b:Nat,b<16->bt f (b / 8)=false->dk D' j p b=dk D j p b:=fun b hb s=>by
   rw [v j p b E O_ hb,if_neg (fun g=>?_)];have:=(yQ l hb).2.2 O_;rw [s] at this
   cases this
  have X:aC (d0_ ⟨x.file,x.page,bR x.pg f,x.tenant,x.holds,x.reading,f⟩ {y with c:=aT y.c x.page ((bR x.pg f).dirty != 0) (f != 0)}) x.page.toNat=false:=by
   rw [b7_ (y:=y) B (p:=x.page.toNat) O_ O_ rfl];simp
  refine o.set (x':=⟨x.file,x.page,bR x.pg f,x.tenant,x.holds,x.reading,0⟩) (y2:=⟨y.dev,y.slot,aT (aT y.c x.page ((bR x.pg f).dirty != 0) (f != 0)) x.page ((bR x.pg f).dirty != 0) ((0:Int) != 0),y.size,bits .or .i64 y.blocks (wrap64 (2 ^ x.page.toNat)),y.ecnt,y.eerr,y.sseq,y.ssize,y.sblocks,y.which,y.seq⟩) hu ?_ ?_ ?_ ⟨rfl,rfl,rfl,rfl,?_⟩ rfl rfl (fun q z=>?_) ?_ ?_ (fun q R z=>?_) ⟨rfl,rfl,rfl,rfl,rfl⟩ (fun a4=>?_) (fun k q b a2 z hb a1=>?_)
  ·refine m.put (y':=d0_ ⟨x.file,x.page,bR x.pg f,x.tenant,x.holds,x.reading,f⟩ {y with c:=aT y.c x.page ((bR x.pg f).dirty != 0) (f != 0)}) r G rfl rfl rfl rfl ?_ _ m.pok
   have H:=m.file j _ r.fl;exact ⟨H.size,H.slot,H.err,⟨H.st.1.or (by show x.page.toNat<8;omega),H.st.2⟩⟩
  ·show (C.frames.set i _).set i _=_
   rw [List.set_set]
  ·show (C.files.set j _).set j _=_
   rw [List.set_set]
   rfl
  ·show C.ptes.map _=[]
   rw [o.pts]
   rfl
  ·dsimp only
   rw [wM u (by rw [kB u hv];exact hv) z,wM u hv z]
  ·dsimp only
   rw [W];exact c6_ u (by rw [kB u hv];exact hv) (c5_ u hv f2.1)
  ·have Y:∀c,aC ⟨y.dev,y.slot,c,y.size,bits .or .i64 y.blocks (wrap64 (2 ^ x.page.toNat)),y.ecnt,y.eerr,y.sseq,y.ssize,y.sblocks,y.which,y.seq⟩ x.page.toNat=false:=fun c=>X;rw [Y,w];rw [w] at I;exact I.back hu.ok ⟨O_,l.2⟩ hd0 (by rw [<-w];exact A) L P
  ·show aC ⟨y.dev,y.slot,_,y.size,bits .or .i64 y.blocks (wrap64 (2 ^ x.page.toNat)),y.ecnt,y.eerr,y.sseq,y.ssize,y.sblocks,y.which,y.seq⟩ q=_
   rw [b7_ (y:=y) B (p:=x.page.toNat) O_ R rfl];simp [z]
  ·have:=I.lo hd0;omega
  ·have N:k<2:=by have:=o.inv.nf;omega
   rw [v k q b N z hb,if_neg (fun g=>?_)];obtain ⟨⟨g1,J⟩,_⟩:=g;omega
theorem bJ_:tJ [⟨0,0⟩,⟨0,1⟩]:=by
 refine ⟨fun x a=>?_,bX,bX,fun i k x y d a c=>?_⟩
 ·simp only[qJ,List.not_mem_nil,or_false] at a
  rcases a with rfl | rfl <;> decide
 ·have b:=bK a;simp only[cL_,List.length_nil] at b;obtain ⟨rfl,rfl⟩:i=1/\k=0:=O_
  obtain rfl:=aP a;obtain rfl:=aP c;exact .inr bX
theorem zX:tM [8]:=⟨z_,fun n hn=>by obtain rfl:=List.mem_singleton.1 hn;omega,by unfold cQ;simp⟩
theorem eJ_:fY [⟨8,0,0⟩]:=⟨fun g hg=>by obtain rfl:=List.mem_singleton.1 hg;decide,bX,bX⟩
def imC:Ck:=uN [⟨0,0⟩,⟨0,1⟩] [8] [⟨8,0,0⟩]
theorem Ig.new (D:List UInt8):Ig D imC:=by
 have c:∀(i:Nat) (x:Fr),imC.frames[i]?=some x->x=eI/\i<8:=fun i x b=>by
  have b:(List.replicate (eM (bC 1 [8])) eI)[i]?=some x:=b;have hl:eM (bC 1 [8])=8:=by decide +kernel
  rw [hl,List.getElem?_replicate] at b
  split at b
  ·exact ⟨(aP b).symm,by assumption⟩
  ·cases b
 have d:∀(j:Nat) (y:Fl),imC.files[j]?=some y->y=gT ⟨0,j⟩/\j<2:=fun j y a=>by
  have a:[gT ⟨0,0⟩,gT ⟨0,1⟩][j]?=some y:=a
  match j,a with
  | 0,a=>exact ⟨(aP a).symm,O_⟩
  | 1,a=>exact ⟨(aP a).symm,O_⟩
  | j+2,a=>simp at a
 refine ⟨fun _=>0,⟨cc_ rfl rfl rfl O_ bJ_ zX eJ_,rfl,fun k l=>?_,fun i x j y f=>?_,fun j y a=>?_,fun i x b _=>(c i x b).1,fun i x b _=>?_,vQ,⟨8,0,0⟩,rfl,rfl,rfl,fun i=>?_⟩,fun j y a=>?_⟩
 ·exact List.mem_singleton.1 l
 ·have h1:=f.ix;rw [(c i x f.fr).1] at h1;have h1:(-1:Int)=(j:Int):=h1;omega
 ·obtain ⟨rfl,_⟩:=d j y a;refine ⟨⟨rfl,rfl,rfl,rfl,rfl⟩,fun p m _=>?_⟩;have:∀p:Fin 8,(bits .and .i64 0 (wrap64 (2 ^ p.val)) == 0)=true:=by decide +kernel
  exact this ⟨p,m⟩
 ·have g:=(c i x b).2;refine ⟨_,.head _,?_⟩;have:∀i:Fin 8,((i.val:Int)+1) ∈ (bp_ 1 8).free:=by decide +kernel
  exact this ⟨i,g⟩
 ·constructor
  ·intro h
   cases h
  ·rintro ⟨x,b,hf⟩;rw [(c i x b).1] at hf;exact absurd rfl hf
 ·obtain ⟨rfl,_⟩:=d j y a
  rfl
theorem Ig.look (h:Ig D C) (hu:dE C i x j y):x.writing=0/\(x.pg.dirty=0->aC y x.page.toNat=false->∀b:Nat,b<16->x.page*16+(b:Int)<y.size->bt x.pg.valid (b / 8)=true->x.pg.data.data[b]?=some (dk D j x.page.toNat b)):=by
 obtain ⟨e,d,l⟩:=h;obtain ⟨c,_⟩:=d.fr _ _ _ _ hu;refine ⟨c.wr,fun g k b f a hv=>c.img k b f (by rw [<-l j y hu.fl];exact a) hv ?_⟩;rw [g];obtain q | q:b / 8=0\/b / 8=1:=O_
 all_goals rw [q];decide
end
end
section
variable {Dk:List UInt8}
def InG (Dk:List UInt8) (j p:Nat) (C':Ck) (n err:Int):Prop:=Ig Dk C'/\(err=0->∃(i:Nat) (x:Fr) (y':Fl),n=(i:Int)+1/\dE C' i x j y'/\x.page=(p:Int))
theorem eC_ (j p:Nat) {a b c d e f g:Value} (h:x_ w S a b c d e f g C) (hI:Ig Dk C) (hj:j<2) (hp:p<8) (hS:∀z,w.heap.size<=z->S z) :
  C_ 72 #[cI a b c d e f g,I_ j,I_ p,I_ 0,I_ 0,.bool true] w (hu_ (InG Dk j p) S w):=by
 have hv:=hI.inv;obtain ⟨D,q,_⟩:=hI;obtain ⟨l,g0,G,H,_⟩:=q.ls;obtain ⟨y,m⟩:∃y,C.files[j]?=some y:=⟨_,cU (by have:=hv.nf;omega)⟩;obtain ⟨ck,F⟩:∃ck,C.clocks[0]?=some ck:=⟨_,cU (by have:=hv.nk;omega)⟩;have hl:C.lists[0]?=some l:=by rw [G];rfl
 have k:C.groups[0]?=some g0:=by rw [H];rfl
 have h1:=uH C j p 0 0 true y l g0 ck a b c d e f g S w h hv m hp hl k F (by have:=hv.nz;omega) hS;rw [show ((0:Nat):Int)=0 from rfl] at h1;refine h1.mono ?_;rintro L w' ⟨r,n,er,a',b',v,A,B,f',E,o,I,J,K⟩;refine ⟨r,n,er,a',b',v,A,B,f',E,⟨?_,fun h0=>?_⟩,I,J,K⟩
 ·exact Ig.ins ⟨D,q,by assumption⟩ m hp hl k o
 ·obtain ⟨i,x,y',s,_,t,u,_⟩:=(o.inv hv m hp O_ hl k).2 h0;exact ⟨i,x,y',s,t,u⟩
theorem vL (l:List UInt8) (g o c:Nat) (w:World) (hc:∀j (hj:j<l.length),w.cell? ⟨g,o+j,none⟩=some (.int .u8 (l[j].toNat:Int))) :
  (convert 77 9 (S_ (some ⟨g,o,none⟩) l.length c)).run prog w = .ok (.string ⟨l.toArray⟩) w:=by
 refine run_convert_bytes_back (P:=prog) w 77 9 5 ⟨g,o,none⟩ c l underlying77 underlying5 underlying9 ?_;intro j hj;rw [show (⟨g,o,none⟩:Addr).add j=⟨g,o+j,none⟩ by rw [Addr.add_mid]];exact hc j hj
def dsk (D:List UInt8) (at_:Nat):List UInt8:=(D.drop at_).take 16
theorem b0_ {at_:Nat} (h:at_+16<=D.length):(dsk D at_).length=16:=by unfold dsk;rw [List.length_take,List.length_drop];omega
theorem ik_ {p:Nat} (h:(j*18+2+p*2)*8+16<=D.length) {b:Nat} (hb:b<16):(⟨(dsk D ((j*18+2+p*2)*8)).toArray⟩:ByteArray).data.toList.getD b 0=dk D j p b:=by
 show (dsk D ((j*18+2+p*2)*8)).toArray.toList.getD b 0=_
 unfold dsk dk;rw [List.toList_toArray,List.getD_eq_getElem?_getD,List.getD_eq_getElem?_getD,tG_ hb,List.getElem?_drop]
def xG (D:List UInt8) (db:Nat) (w:World):Prop:=∀k (hk:k<D.length),w.cell? ⟨db,k,none⟩=some (.int .u8 (D[k].toNat:Int))
theorem xG.lt (h:xG D db w) (hl:0<D.length):db<w:=by
 have h0:=h 0 hl
 by_cases q:db<w
 ·exact q
 ·exfalso
  unfold World.cell? at h0;simp [Array.getElem?_eq_none (by omega:w<=db)] at h0
theorem xG.gb {bt:Nat} (h:xG D db w) (hg:w.grownBy w' (some bt)) (hn:db≠bt):xG D db w':=fun k hk=>
 (c_ (hg.block db (h.lt O_) (by simpa using hn))).trans (h k hk)
theorem cU_ {at_:Nat} (h:xG D db w) (hD:D.length=1024) (ha:at_+16<=1024) :
  (convert 77 9 (S_ (some ⟨db,at_,none⟩) 16 (1024 - at_))).run prog w = .ok (.string ⟨(dsk D at_).toArray⟩) w:=by
 have hl:=b0_ (show at_+16<=D.length by omega);have:=vL (dsk D at_) db at_ (1024 - at_) w (fun j c=>by
  have a:at_+j<D.length:=O_
  have b:(dsk D at_)[j]=D[at_+j]:=by simp [dsk]
  rw [h (at_+j) a,b])
 rw [hl] at this;exact this
end
end Go.Proofs.YtehfhnbpnaiogaaGreatDoor
