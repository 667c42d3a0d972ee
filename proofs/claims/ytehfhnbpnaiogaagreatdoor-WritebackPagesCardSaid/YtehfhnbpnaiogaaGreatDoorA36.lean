/-
  Lemmas and contracts for the laws of this seat, part 36; several texts joined by a program.
-/
import Derived.Test.YtehfhnbpnaiogaaGreatDoorA35
import Derived.Test.YtehfhnbpnaiogaaGreatDoorA00
import Derived.Outline
namespace Go.Proofs.YtehfhnbpnaiogaaGreatDoor
set_option linter.all false
set_option maxRecDepth 100000
set_option maxHeartbeats 16000000
open Go.RowKit Go.Proofs.Tryz IntKind
variable {S:Nat->Prop} {W w w':World} {a1 a2 a3 a4 a5 a6 a7:Value} {en:Ending} {fr:Nat × Nat} {j j' t:Nat} {n sz:Int} {ty:TypeId} {y y':Fl}
section
def oQ_ {C:Ck} (n:Int) {a b c d e f g:Value} (h:w_ w S a b c d e f g C) (hus:∀w',s_ w w'->C_ 43 #[ckV a b c d e f g,I_ n] w' (aO_ false w')) :
  C_ 18 #[ckV a b c d e f g,I_ n] w (fH_ (fun rq err=>rq=rq0/\err=2) w):=by obtain ⟨F,E,c1,t,I,c2,s,G,D,q,r,u,z,A,B,p,J,x,v,y,H,rfl,rfl,rfl,rfl,rfl,rfl,rfl⟩:=w_.caps h;clear h;have l:=H_ (show St w [(w.heap.size,.cells (z_ F E c1 t I c2 s G D q r u z A B p J x v y H) 30 (0,0)),(w.heap.size+1,oRZ),(w.heap.size+1+1,.cells #[I_ 0] 38 (0,0))] (((w.alloc (.cells (z_ F E c1 t I c2 s G D q r u z A B p J x v y H) 30)).alloc (oRZ)).alloc (.cells #[I_ 0] 38)) from ((St.nil w).push _ _ rfl).push _ (w+1) A_ |>.push _ (w+1+1) A_);go_enter_defers func18,ntmps18;go_upto_region 2 with fail;generalize ((w.alloc (.cells (z_ F E c1 t I c2 s G D q r u z A B p J x v y H) 30)).alloc (oRZ)).alloc (.cells #[I_ 0] 38)=V at l;have k:=l.bk _ _ M0_;obtain ⟨x0,K,L,N,M,Q,P⟩:=J_ k;go_upto_region 3 with (go_at_call 43;refine CM (hus _ l.below) ?_;rintro e w2 ⟨rfl,o⟩;have j:=H_ (l.step o));clear x0 K L N M Q P k o l hus;have m:=j.bk _ _ M1_;have i:=j.bk _ _ M2_;have U:(w2.setRow (w+1) RZ_).cell? ⟨w+1+1,0,none⟩=some (I_ 0):=(d_ (setRow_other _ (w+1) (w+1+1) _ O_)).trans (a_ i 0);have R:(w2.setRow (w+1) RZ_).frozen? ⟨w+1+1,0,none⟩=false:=(World.frozen?_of_block (a:=⟨w+1+1,0,none⟩) (setRow_other _ (w+1) (w+1+1) _ O_)).trans (t_ i 0);go_wp2_with (refine wR_ rfl 37 (.tmp 4) (.tmp 11) rfl rfl (w+1) RZ_ rfl rfl 37 _ m af_ rfl (aP_) ?_);refine leaves_cons (f:=41) (args:=#[P_ (w+1+1)]) A_ (by simp [go_sem]) ?_;refine (cR_).mono ?_;rintro e W O ⟨rfl,rfl,rfl⟩;refine mx_ rfl 2 rfl rfl ⟨_,m⟩ ⟨_,i⟩ rfl j.below ?_;exact ⟨rfl,rfl⟩
def jT_ {C:Ck} (n:Int) (q s b k:Int) (h:w_ w S a1 a2 a3 a4 a5 a6 a7 C) (ok:ec_ C) (hn:¬(0<=n/\n<(C.files.length:Int))) (hS:∀z,w.heap.size<=z->S z) :
  C_ 26 #[ckV a1 a2 a3 a4 a5 a6 a7,I_ n,dr_ q s b,I_ k] w (bu_ (fun C' err=>C'=C/\err=2) S w):=by have r:=fun w' (hb:s_ w w') (hlt:w.heap.size+1+1<w'.heap.size)=>iO_ (S:=S5e S w.heap.size) ((h.weak (fun z O hs=>⟨hs,O_,O_,O_⟩)).step hb) ok (fun z O=>⟨hS z O_,O_,O_,O_⟩);have d:=fun w' (hb:s_ w w')=>dm_ n (h.step hb);rw [show (decide (0<=n)&&decide (n<(C.files.length:Int)))=false by simp;omega] at d;obtain ⟨A1,m1,c1,K,W,c2,J,m3,Y,H,G,L,Q,R,U,F,m6,N,M,P,c7,rfl,rfl,rfl,rfl,rfl,rfl,rfl⟩:=w_.caps h;clear h ok hn;have i:=H_ (show St w [(w.heap.size,.cells (z_ A1 m1 c1 K W c2 J m3 Y H G L Q R U F m6 N M P c7) 30 (0,0)),(w.heap.size+1,.cells #[I_ q,I_ s,I_ b] 62 (0,0)),(w.heap.size+1+1,oCZ)] (((w.alloc (.cells (z_ A1 m1 c1 K W c2 J m3 Y H G L Q R U F m6 N M P c7) 30)).alloc (.cells #[I_ q,I_ s,I_ b] 62)).alloc (oCZ)) from ((St.nil w).push _ _ rfl).push _ (w+1) A_ |>.push _ (w+1+1) A_);unfold dr_;go_enter func26,ntmps26;go_upto_region 1 with fail;generalize ((w.alloc (.cells (z_ A1 m1 c1 K W c2 J m3 Y H G L Q R U F m6 N M P c7) 30)).alloc (.cells #[I_ q,I_ s,I_ b] 62)).alloc (oCZ)=V at i;have l:w.heap.size+1+1<V.heap.size:=l_ (i.bk _ _ M2_);have v:=i.bk _ _ M0_;obtain ⟨x0,x,y,B,A,E,D⟩:=J_ v;go_upto_region 2 with (go_at_call 42;refine CM (r _ i.below l) ?_;rintro e w1 ⟨X,gf,nf,cf,gr,nr,cr,c',d',e',f',g',rfl,g,j⟩);have a:=H_ (i.step j);have c:=H_ g;obtain ⟨B1,o⟩:=nm_ V.heap.size;rw [<-o] at c l;obtain ⟨E3,e3,k3,rfl⟩:=g.zones.cap;obtain ⟨E4,e4,k4,rfl⟩:=g.groups.cap;obtain ⟨E5,e5,k5,rfl⟩:=g.lists.cap;obtain ⟨E6,e6,k6,rfl⟩:=g.clocks.cap;obtain ⟨E7,e7,k7,rfl⟩:=g.ptes.cap;clear x0 x y B A E D v g j i o r;have m:=a.bk _ _ M0_;obtain ⟨x0,x,y,B,A,E,D⟩:=J_ m;go_upto_region 3 with (go_at_call 73;refine CM (d _ a.below) ?_;rintro e w2 ⟨rfl,f⟩;have t:=H_ (a.step f);have u:=H_ (c.step f));clear x0 x y B A E D m f a c d;have I:=u.box;obtain ⟨x0,x,y,B,A,E,D⟩:=J_ I;have p:=t.bk _ _ M2_;go_wp2_with (refine G_ rfl (.tmp 8) (.tmp 23) rfl rfl rfl rfl p rfl ?_);show bodyPost prog f26 _ _ _ _;refine bodyPost_ret (W_ rfl rfl rfl (setRow_heap _ _ _ _ _ _ p)) rfl ?_;exact ⟨_,_,_,_,_,_,_,_,_,⟨rfl,rfl⟩,rfl,(u.boxRow (Z:=w.heap.size+1+1) O_ (fun h=>h.2.2.2 rfl) (z_ (o_ gf) nf cf (o_ gr) nr cr E3 e3 k3 E4 e4 k4 E5 e5 k5 E6 e6 k6 E7 e7 k7)).at_.weak (fun z _ O=>O.1),f_ t.below O_ _⟩
def q5_ {C:Ck} (n:Int) (fs sc:ByteArray) (h:w_ w S a1 a2 a3 a4 a5 a6 a7 C) (ok:ec_ C) (hn:¬(0<=n/\n<(C.files.length:Int))) (hS:∀z,w.heap.size<=z->S z) :
  C_ 30 #[ckV a1 a2 a3 a4 a5 a6 a7,I_ n,.string fs,.string sc] w (bu_ (fun C' err=>C'=C/\err=2) S w):=by have o:=fun w' (hb:s_ w w') (hlt:w.heap.size+1<w'.heap.size)=>iO_ (S:=S2 S w.heap.size) ((h.weak (fun z B hs=>⟨hs,O_,O_⟩)).step hb) ok (fun z B=>⟨hS z O_,O_,O_⟩);have c:=fun w' (hb:s_ w w')=>dm_ n (h.step hb);rw [show (decide (0<=n)&&decide (n<(C.files.length:Int)))=false by simp;omega] at c;obtain ⟨U,R,c1,H,P,c2,G,W,Q,F,E,I,M,N,O,D,m6,K,J,L,Y,rfl,rfl,rfl,rfl,rfl,rfl,rfl⟩:=w_.caps h;clear h ok hn;have g:=H_ (show St w [(w.heap.size,.cells (z_ U R c1 H P c2 G W Q F E I M N O D m6 K J L Y) 30 (0,0)),(w.heap.size+1,oCZ)] ((w.alloc (.cells (z_ U R c1 H P c2 G W Q F E I M N O D m6 K J L Y) 30)).alloc (oCZ)) from ((St.nil w).push _ _ rfl).push _ (w+1) A_);go_enter func30,ntmps30;go_upto_region 1 with fail;generalize (w.alloc _).alloc _=V at g;have j:w.heap.size+1<V.heap.size:=l_ (g.bk _ _ M1_);have r:=g.bk _ _ M0_;obtain ⟨x0,s,t,v,u,y,x⟩:=J_ r;go_upto_region 2 with (go_at_call 42;refine CM (o _ g.below j) ?_;rintro e w1 ⟨X,gf,nf,cf,gr,nr,cr,c',d',e',f',g',rfl,f,i⟩);have a:=H_ (g.step i);have b:=H_ f;obtain ⟨B1,l⟩:=nm_ V.heap.size;rw [<-l] at b j;obtain ⟨E3,e3,k3,rfl⟩:=f.zones.cap;obtain ⟨E4,e4,k4,rfl⟩:=f.groups.cap;obtain ⟨E5,e5,k5,rfl⟩:=f.lists.cap;obtain ⟨E6,e6,k6,rfl⟩:=f.clocks.cap;obtain ⟨E7,e7,k7,rfl⟩:=f.ptes.cap;clear x0 s t v u y x r f i g l o;have k:=a.bk _ _ M0_;obtain ⟨x0,s,t,v,u,y,x⟩:=J_ k;go_upto_region 3 with (go_at_call 73;refine CM (c _ a.below) ?_;rintro e w2 ⟨rfl,d⟩;have p:=H_ (a.step d);have q:=H_ (b.step d));clear x0 s t v u y x k d a b c;have A:=q.box;obtain ⟨x0,s,t,v,u,y,x⟩:=J_ A;have m:=p.bk _ _ M1_;go_wp2_with (refine G_ rfl (.tmp 8) (.tmp 25) rfl rfl rfl rfl m rfl ?_);show bodyPost prog f30 _ _ _ _;refine bodyPost_ret (W_ rfl rfl rfl (setRow_heap _ _ _ _ _ _ m)) rfl ?_;exact ⟨_,_,_,_,_,_,_,_,_,⟨rfl,rfl⟩,rfl,(q.boxRow (Z:=w.heap.size+1) O_ (fun h=>h.2.2 rfl) (z_ (o_ gf) nf cf (o_ gr) nr cr E3 e3 k3 E4 e4 k4 E5 e5 k5 E6 e6 k6 E7 e7 k7)).at_.weak (fun z _ B=>B.1),f_ p.below O_ _⟩
def oq_ {C:Ck} (n sz:Int) {a b c d e f g:Value} (h:w_ w S a b c d e f g C) (ok:ec_ C) (hn:¬(0<=n/\n<(C.files.length:Int))\/sz<0\/128<sz) (hS:∀z,w.heap.size<=z->S z) :
  C_ 22 #[ckV a b c d e f g,I_ n,I_ sz] w (gr_ (fun C' rq ino err=>C'=C/\rq=rq0/\ino=dr_ 0 0 0/\err=2) S w):=by have R:=fun w' (hb:s_ w w') (hlt:w.heap.size+1+1+1+1<w'.heap.size)=>iO_ (S:=S6 S w.heap.size) ((h.weak (fun z hz hs=>⟨hs,O_,O_,O_,O_,O_⟩)).step hb) ok (fun z hz=>⟨hS z O_,O_,O_,O_,O_,O_⟩);have m:=fun w' (hb:s_ w w')=>dm_ n (h.step hb);obtain ⟨Q,l⟩:=nm_ ((decide (0<=n)&&decide (n<(C.files.length:Int))));rw [<-l] at m;have U:Q=false\/sz<0\/128<sz:=(by rcases hn with h | h;{left;rw [l];simp;omega};exact .inr h);obtain ⟨A1,m1,c1,A2,m2,c2,A3,m3,c3,A4,m4,c4,A5,m5,c5,A6,m6,c6,A7,m7,c7,rfl,rfl,rfl,rfl,rfl,rfl,rfl⟩:=w_.caps h;clear h ok hn l;have q:=H_ (show St w [(w.heap.size,.cells (z_ A1 m1 c1 A2 m2 c2 A3 m3 c3 A4 m4 c4 A5 m5 c5 A6 m6 c6 A7 m7 c7) 30 (0,0)),(w.heap.size+1,.cells #[I_ n] 3 (0,0)),(w.heap.size+1+1,oCZ),(w.heap.size+1+1+1,oRZ),(w.heap.size+1+1+1+1,.cells #[I_ 0,I_ 0,I_ 0] 62 (0,0))] (((((w.alloc (.cells (z_ A1 m1 c1 A2 m2 c2 A3 m3 c3 A4 m4 c4 A5 m5 c5 A6 m6 c6 A7 m7 c7) 30)).alloc (.cells #[I_ n] 3)).alloc (oCZ)).alloc (oRZ)).alloc (.cells #[I_ 0,I_ 0,I_ 0] 62)) from (((((St.nil w).push _ _ rfl).push _ (w+1) A_).push _ (w+1+1) A_).push _ (w+1+1+1) A_).push _ (w+1+1+1+1) A_);go_enter func22,ntmps22;go_upto_region 1 with fail;generalize ((((w.alloc (.cells (z_ A1 m1 c1 A2 m2 c2 A3 m3 c3 A4 m4 c4 A5 m5 c5 A6 m6 c6 A7 m7 c7) 30)).alloc (.cells #[I_ n] 3)).alloc (oCZ)).alloc (oRZ)).alloc (.cells #[I_ 0,I_ 0,I_ 0] 62)=V at q;have M:w.heap.size+1+1+1+1<V.heap.size:=l_ (q.bk _ _ M4_);have W:=q.bk _ _ M0_;obtain ⟨x0,Y,x2,x3,x4,x5,x6⟩:=J_ W;go_upto_region 2 with (go_at_call 42;refine CM (R _ q.below M) ?_;rintro e w1 ⟨X,gf,nf,r,gr,nr,s,c',d',e',f',g',rfl,p,L⟩);have i:=H_ (q.step L);have k:=H_ p;obtain ⟨B1,O⟩:=nm_ V.heap.size;rw [<-O] at k M;obtain ⟨t,u,D,rfl⟩:=p.zones.cap;obtain ⟨K,v,A,rfl⟩:=p.groups.cap;obtain ⟨I,E,H,rfl⟩:=p.lists.cap;obtain ⟨B,J,x,rfl⟩:=p.clocks.cap;obtain ⟨G,y,F,rfl⟩:=p.ptes.cap;clear x0 Y x2 x3 x4 x5 x6 W p L q O R;have N:=i.bk _ _ M0_;obtain ⟨x0,Y,x2,x3,x4,x5,x6⟩:=J_ N;have a2:=i.bk _ _ M1_;have fj:=cs1 a2;have a5:Q=false\/(Q=true/\sz<0)\/(Q=true/\¬sz<0/\128<sz):=(by cases Q with|false=>exact .inl rfl|true=>rcases U with h | h | h;{cases h};{exact .inr (.inl ⟨rfl,h⟩)};exact .inr (.inr ⟨rfl,O_,h⟩));clear U;rcases a5 with rfl | ⟨rfl,h0⟩ | ⟨rfl,h0,h1⟩;all_goals go_upto_region 3 with (go_at_call 73;refine CM (m _ i.below) ?_;rintro e w2 ⟨rfl,o⟩;have j:=H_ (i.step o);have P:=H_ (k.step o));clear x0 Y x2 x3 x4 x5 x6 N o i k m;have a1:=P.box;obtain ⟨x0,Y,x2,x3,x4,x5,x6⟩:=J_ a1;have HR:=j.bk _ _ M2_;have HQ:=j.bk _ _ M3_;have HN:=j.bk _ _ M4_;go_wp2_with (first|(refine G_ rfl (.tmp 6) (.tmp 32) rfl rfl rfl rfl HR rfl ?_)|(refine wR_ rfl 37 (.tmp 7) (.tmp 33) rfl rfl (w+1+1+1) RZ_ rfl rfl 37 _ ((setRow_other _ (w+1+1) (w+1+1+1) _ O_).trans HQ) af_ rfl (aP_) ?_)|(refine wR_ rfl 62 (.tmp 8) (.tmp 34) rfl rfl (w+1+1+1+1) #[I_ 0,I_ 0,I_ 0] rfl rfl 62 _ ((setRow_other _ (w+1+1+1) (w+1+1+1+1) _ O_).trans ((setRow_other _ (w+1+1) (w+1+1+1+1) _ O_).trans HN)) bw_ rfl (ce_) ?_));show bodyPost prog f22 _ _ _ _;have a3:((w2.setRow (w+1+1) (z_ (o_ gf) nf r (o_ gr) nr s t u D K v A I E H B J x G y F)).setRow (w+1+1+1) RZ_).heap[w.heap.size+1+1+1]?=some (oRZ):=setRow_heap _ _ _ _ _ _ ((setRow_other w2 (w+1+1) (w+1+1+1) (z_ (o_ gf) nf r (o_ gr) nr s t u D K v A I E H B J x G y F) O_).trans HQ);have a0:=(setRow_other (w2.setRow (w+1+1) (z_ (o_ gf) nf r (o_ gr) nr s t u D K v A I E H B J x G y F)) (w+1+1+1) (w+1+1+1+1) RZ_ O_).trans ((setRow_other w2 (w+1+1) (w+1+1+1+1) (z_ (o_ gf) nf r (o_ gr) nr s t u D K v A I E H B J x G y F) O_).trans HN);have a4:=(setRow_other (w2.setRow (w+1+1) (z_ (o_ gf) nf r (o_ gr) nr s t u D K v A I E H B J x G y F)) (w+1+1+1) (w+1+1) RZ_ O_).trans (setRow_heap _ _ _ _ _ _ HR);refine bodyPost_ret (jj_ rfl rfl rfl rfl rfl ((setRow_other _ (w+1+1+1+1) (w+1+1) _ O_).trans a4) ((setRow_other _ (w+1+1+1+1) (w+1+1+1) _ O_).trans a3) (setRow_heap _ _ _ _ _ _ a0) rfl rfl rfl) rfl ?_;exact ⟨C,_,_,_,_,_,_,_,_,_,_,⟨rfl,rfl,rfl,rfl⟩,rfl,(((P.boxRow (Z:=w.heap.size+1+1) O_ (fun h=>h.2.2.2.1 rfl) (z_ (o_ gf) nf r (o_ gr) nr s t u D K v A I E H B J x G y F)).boxRow (Z:=w.heap.size+1+1+1) O_ (fun h=>h.2.2.2.2.1 rfl) RZ_).boxRow (Z:=w.heap.size+1+1+1+1) O_ (fun h=>h.2.2.2.2.2 rfl) _).at_.weak (fun z _ hz=>hz.1),f_ (f_ (f_ j.below O_ _) O_ _) O_ _⟩
end
section
def dL_ {C:Ck} (n:Int) {a b c d e f g:Value} (h:w_ w S a b c d e f g C) :
  C_ 58 #[ckV a b c d e f g,I_ n] w (aO_ (decide (0<=n)&&decide (n<(C.files.length:Int))) w):=by obtain ⟨E,i,rfl,z,A⟩:=h.files.form;obtain ⟨r,H,c2,rfl⟩:=h.frames.cap;obtain ⟨q,F,D,p,o,s,x,y,B,m,I,u,t,v,G,rfl,rfl,rfl,rfl,rfl⟩:=w_.caps5 h;clear h z A;have l:=H_ (b_ (bR_ (w) w) (.cells (z_ E C.files.length i r H c2 q F D p o s x y B m I u t v G) 30));by_cases h0:0<=n;{have J:decide (0<=n)=true:=dT h0;by_cases h1:n<(C.files.length:Int);{have k:=H_ h0;have j:=H_ h1;go_enter func58,ntmps58;go_wp2;go_ret;have h0:=k.out;have h1:=j.out;exact ⟨by simp;omega,l.out⟩};have k:=H_ h0;have j:=H_ h1;go_enter func58,ntmps58;go_wp2;go_ret;have h0:=k.out;have h1:=j.out;exact ⟨by simp;omega,l.out⟩};go_enter func58,ntmps58;go_wp2;go_ret;exact ⟨by simp;omega,l.out⟩
end
section
section
variable {F G Z:Nat} {C:Ck}
def Inv.ofOk (h:Inv F G Z C):ec_ C where
 ok:=h.ok
 zn:=⟨h.zok.ne,by have:=h.nz;have:=h.few;omega⟩
 pt:=by have:=h.pok.len;omega
 free:=fun z b=>by
  obtain ⟨k,a⟩:=List.getElem?_of_mem b;have:=(h.zok.each k z a).flen (by have:=h.zok.nx k (Nat.le_of_lt (g_l a));omega);omega
 lru:=fun l c=>by
  obtain ⟨k,a⟩:=List.getElem?_of_mem c;have:=(h.lok k l a).lens;omega
def Inv.num (h:Inv F G Z C) (n:Int):(∃i j x y,n=((i:Nat):Int)+1/\FrU C i x j y/\0<X_ y.c x.page)\/((∀i j x y,n=((i:Nat):Int)+1->¬FrU C i x j y)/\(¬(1<=n/\n<=(C.frames.length:Int))\/∃i x,n=((i:Nat):Int)+1/\C.frames[i]?=some x/\x.file=-1)):=by by_cases l:1<=n/\n<=(C.frames.length:Int);{obtain ⟨i,f⟩:∃i:Nat,n=(i:Int)+1:=⟨(n - 1).toNat,O_⟩;obtain ⟨x,b⟩:∃x,C.frames[i]?=some x:=⟨_,gE_ O_⟩;by_cases hf:x.file=-1;{refine .inr ⟨fun g j d k e a=>?_,.inr ⟨i,x,f,b,hf⟩⟩;obtain rfl:g=i:=O_;obtain rfl:d=x:=oI_ (a.fr.symm.trans b);have:=a.ix;omega};obtain ⟨j,y,a,hv⟩:=h.used b hf;exact .inl ⟨i,j,x,y,f,a,O_⟩};refine .inr ⟨fun g j d k e a=>?_,.inl l⟩;have:=g_l a.fr;omega
def Inv.pnot (h:Inv F G Z C) {a b c d e f g:Value} (hc:w_ w S a b c d e f g C) (hn:¬(1<=n/\n<=(C.frames.length:Int))\/∃i x,n=((i:Nat):Int)+1/\C.frames[i]?=some x/\x.file=-1) (w':World) (hb:s_ w w'):C_ 43 #[ckV a b c d e f g,I_ n] w' (aO_ false w'):=by rcases hn with hn | ⟨i,x,rfl,hx,hf⟩;{exact nv_ n (hc.step hb) hn};have:=gn_ i x (hc.step hb) hx (by have:=h.nr;omega);rw [dF O_] at this;exact this
end
def FrU.one {C:Ck} {i i':Nat} {x x':Fr} (h:FrU C i x j y) (h':FrU C i' x' j' y') (e:((i:Nat):Int)+1=(i':Int)+1):i'=i/\x'=x/\j'=j/\y'=y:=by obtain rfl:i'=i:=O_;obtain rfl:x'=x:=oI_ (h'.fr.symm.trans h.fr);obtain rfl:j'=j:=(by have:=h.ix;have:=h'.ix;omega);exact ⟨rfl,rfl,rfl,oI_ (h'.fl.symm.trans h.fl)⟩
def iv_ (C:Ck) (n:Int) (C':Ck) (rq:Value) (err:Int):Prop:=
 (∃i j x y,n=((i:Nat):Int)+1/\FrU C i x j y/\de_ C i j x y C' rq err)\/((∀i j x y,n=((i:Nat):Int)+1->¬FrU C i x j y)/\C'=C/\rq=rq0/\err=2)
def kb_ (C:Ck) (n k:Int) (C':Ck) (err:Int):Prop:=
 (∃i j x y,n=((i:Nat):Int)+1/\FrU C i x j y/\eR_ C i j x y k C' err)\/((∀i j x y,n=((i:Nat):Int)+1->¬FrU C i x j y)/\C'=C/\err=2)
def jV_ (C:Ck) (n:Int) (rq:Value) (err:Int):Prop:=
 (∃i j x y,n=((i:Nat):Int)+1/\FrU C i x j y/\fD_ x y rq err)\/((∀i j x y,n=((i:Nat):Int)+1->¬FrU C i x j y)/\rq=rq0/\err=2)
def dP_.imp {P Q:Ck->Value->Int->Prop} (h:dP_ P S w en w') (hq:∀C rq e,P C rq e->Q C rq e):dP_ Q S w en w':=by obtain ⟨C',err,a,b,c,d,e,f,g,rq,h1,h2⟩:=h;exact ⟨C',err,a,b,c,d,e,f,g,rq,hq _ _ _ h1,h2⟩
def bu_.imp {P Q:Ck->Int->Prop} (h:bu_ P S w en w') (hq:∀C e,P C e->Q C e):bu_ Q S w en w':=by obtain ⟨C',err,a,b,c,d,e,f,g,h1,h2⟩:=h;exact ⟨C',err,a,b,c,d,e,f,g,hq _ _ h1,h2⟩
def fH_.imp {P Q:Value->Int->Prop} (h:fH_ P w en w') (hq:∀rq e,P rq e->Q rq e):fH_ Q w en w':=by obtain ⟨rq,err,h1,h2⟩:=h;exact ⟨rq,err,hq _ _ h1,h2⟩
section
variable {F G Z:Nat} (C:Ck) (n:Int) (a b c d e f g:Value) (S:Nat->Prop) (w:World) (h:w_ w S a b c d e f g C) (hI:Inv F G Z C) (hS:∀z,w.heap.size<=z->S z)
include h hI hS
def kN_ (hdb:fS_ w):C_ 10 #[ckV a b c d e f g,I_ n] w (dP_ (iv_ C n) S w):=by rcases hI.num n with ⟨i,j,x,y,rfl,hu,hv⟩ | ⟨hno,hn⟩;{obtain ⟨s,o,l⟩:=(hI.file j y hu.fl).slot;exact (o9_ s h hI.ofOk hu o l hI.pok hv hdb hS).mono fun _ _ k=>k.imp fun _ _ _ m=> .inl ⟨i,j,x,y,rfl,hu,m⟩};exact (qh_ n h hI.ofOk (hI.pnot h hn) hS).mono fun _ _ k=>k.imp fun _ _ _ m=> .inr ⟨hno,m⟩
def p8_ (k:Int):C_ 16 #[ckV a b c d e f g,I_ n,I_ k] w (bu_ (kb_ C n k) S w):=by rcases hI.num n with ⟨i,j,x,y,rfl,hu,hv⟩ | ⟨hno,hn⟩;{exact (sS_ k h hI.ofOk hu (hI.file j y hu.fl).err hv hS).mono fun _ _ l=>l.imp fun _ _ m=> .inl ⟨i,j,x,y,rfl,hu,m⟩};exact (tM_ n k h hI.ofOk (hI.pnot h hn) hS).mono fun _ _ l=>l.imp fun _ _ m=> .inr ⟨hno,m⟩
omit hS in
def kF_ (hdb:fS_ w):C_ 18 #[ckV a b c d e f g,I_ n] w (fH_ (jV_ C n) w):=by rcases hI.num n with ⟨i,j,x,y,rfl,hu,hv⟩ | ⟨hno,hn⟩;{obtain ⟨s,o,m⟩:=(hI.file j y hu.fl).slot;exact (o5_ h (by have:=hI.nr;omega) hu O_ hdb).mono fun _ _ k=>k.imp fun _ _ l=> .inl ⟨i,j,x,y,rfl,hu,l⟩};exact (oQ_ n h (hI.pnot h hn)).mono fun _ _ k=>k.imp fun _ _ l=> .inr ⟨hno,l⟩
end
def gk_ (C:Ck) (f:Int):List Int:=if 0<=f then (match C.files[f.toNat]? with | some y=>eE_ C (fun p=>X_ y.c (p:Int)) 8 | none=>[]) else []
def n1_ (C:Ck):eE_ C (fun _=>0) 8=[]:=by unfold eE_;rw [show (fun p:Nat=>c8_ C 0)=fun _=>false from funext fun _=>by simp [c8_]];simp
def lJ_ {C:Ck} {f:Int} (h:¬(0<=f/\f<(C.files.length:Int))):gk_ C f=[]:=by unfold gk_;split;{rw [eN_ O_]};rfl
def jM_ {C:Ck} (h:C.files[j]?=some y):gk_ C (j:Int)=eE_ C (fun p=>X_ y.c (p:Int)) 8:=by unfold gk_;rw [if_pos O_,show ((j:Int)).toNat=j by simp,h]
section
variable {F G Z:Nat} (C:Ck) (n:Int) (a b c d e f g:Value) (S:Nat->Prop) (w:World) (h:w_ w S a b c d e f g C) (hI:Inv F G Z C) (hS:∀z,w.heap.size<=z->S z)
include h hI hS
def jn_:C_ 12 #[ckV a b c d e f g,I_ n] w (eT_ (gk_ C n) S w):=by have m:C.frames.length<=100:=(by have:=hI.nr;omega);by_cases i:0<=n/\n<(C.files.length:Int);{obtain ⟨j,rfl⟩:=iN_ i.1;obtain ⟨y,l⟩:∃y,C.files[j]?=some y:=⟨_,gE_ O_⟩;rw [jM_ l];exact jz_ j h m (fun p w' k _=>rD_ j y p (h.step k) l) hS};rw [lJ_ i,<-n1_ C];exact jz_ n h m (fun p w' k _=>rd_ n p (h.step k) i) hS
end
end
section
structure Cv where
 a:Value
 b:Value
 c:Value
 d:Value
 e:Value
 f:Value
 g:Value
 C:Ck
def Cv.at_ (v:Cv) (W:World) (S:Nat->Prop):Prop:=w_ W S v.a v.b v.c v.d v.e v.f v.g v.C
abbrev oK (v:Cv):Obj:= .cells #[v.a,v.b,v.c,v.d,v.e,v.f,v.g] 30 (0,0)
def Cv.to {v:Cv} {C:Ck} (e:v.C=C) (h:v.at_ W S):w_ W S v.a v.b v.c v.d v.e v.f v.g C:=e ▸ h
def b7_ {ops:Array Oper} {rest:List Oper} {o:Oper} {a:Act} {Q:Exit->Act->World->Prop} {old:Array Value} (hgd:o.guard=none) (x y:Operand) (ho:o.op = .store 30 x y) (hd:o.dst=none) {g:Nat} (v:Cv)
  (hx:a.eval x = P_ g) (hy:a.eval y = .agg #[v.a,v.b,v.c,v.d,v.e,v.f,v.g]) (hg:w.heap[g]?=some (.cells old 30 (0,0))) (hold:old.size=7) (hv:v.at_ W S)
  (h:wpList prog ops Q rest a (w.setRow g #[v.a,v.b,v.c,v.d,v.e,v.f,v.g])):wpList prog ops Q (o :: rest) a w:=by obtain ⟨a1,j,c1,i,e1,k,l,C⟩:=v;have hc:w_ W S a1 j c1 i e1 k l C:=hv;obtain ⟨G,F,n1,t,I,n2,s,H,n3,p,q,D,A,B,E,m,J,r,u,z,n,rfl,rfl,rfl,rfl,rfl,rfl,rfl⟩:=w_.caps hc;exact wR_ hgd 30 x y ho hd g _ hx hy 30 old hg a8_ hold (cz_) h
def LQ (Q:Nat->Prop) (l:List (Nat × Obj)) (z:Nat):Prop:=Q z/\z ∉ l.map (·.1)
structure LZ (I:World->Prop) (N:Nat) (Q:Nat->Prop) (l:List (Nat × Obj)) (cs:List Cv) (W:World):Prop where
 iv:I W
 st:∀W W',I W->s_ W W'->I W'
 rw_:∀W W' g,I W->W.grownBy W' (some g)->N<=g->I W'
 nq:∀z,N<=z->Q z
 nw:N<=W.heap.size
 bk:∀g o,(g,o) ∈ l->W.heap[g]?=some o
 gt:∀g o,(g,o) ∈ l->N<=g
 nd:(l.map (·.1)).Nodup
 ck:∀c ∈ cs,c.at_ W (LQ Q l)
section
variable {I:World->Prop} {N:Nat} {Q:Nat->Prop} {W W':World} {l:List (Nat × Obj)} {cs:List Cv}
def LZ.step (h:LZ I N Q l cs W) (hb:s_ W W'):LZ I N Q l cs W':=
 ⟨h.st _ _ h.iv hb,h.st,h.rw_,h.nq,lT_ h.nw hb.size,fun g o hm=>k_ (h.bk g o hm) hb,h.gt,h.nd,fun c hc=>w_.step (h.ck c hc) hb⟩
def LZ.mem (h:LZ I N Q l cs W) {g:Nat} (hg:g ∈ l.map (·.1)):g<W:=by obtain ⟨⟨g',o⟩,hm,rfl⟩:=List.mem_map.1 hg;exact l_ (h.bk g' o hm)
def LZ.fresh (h:LZ I N Q l cs W) (z:Nat) (hz:W<=z):LQ Q l z:=⟨h.nq z (lT_ h.nw hz),fun hm=>by have:=h.mem hm;omega⟩
def LZ.push (h:LZ I N Q l cs W) (o:Obj) (n:Nat) (hn:W.heap.size=n):LZ I N Q (l ++ [(n,o)]) cs (W.alloc o) where
 iv:=h.st _ _ h.iv (b_ B_ o)
 st:=h.st
 rw_:=h.rw_
 nq:=h.nq
 nw:=lT_ h.nw (b_ B_ o).size
 bk g o' d:=by
  rcases List.mem_append.1 d with d | d
  ·exact n_ (h.bk g o' d) _
  ·simp only[mS_,Prod.mk.injEq] at d;obtain ⟨rfl,rfl⟩:=d;exact m_ _ _ _ hn
 gt g o' d:=by
  rcases List.mem_append.1 d with d | d
  ·exact h.gt g o' d
  ·simp only[mS_,Prod.mk.injEq] at d;obtain ⟨rfl,rfl⟩:=d;rw [<-hn];exact h.nw
 nd:=by
  rw [List.map_append];refine List.nodup_append.2 ⟨h.nd,List.nodup_cons.2 ⟨A_,List.nodup_nil⟩,fun a i b j e=>?_⟩;have:=h.mem i;simp only[List.map_cons,List.map_nil,mS_] at j;omega
 ck c hc:=by
  refine w_.step (w_.weak (h.ck c hc) (S':=LQ Q (l ++ [(n,o)])) (fun z k f=>⟨f.1,fun d=>?_⟩)) (b_ B_ o);rw [List.map_append] at d
  rcases List.mem_append.1 d with d | d
  ·exact f.2 d
  ·simp only[List.map_cons,List.map_nil,mS_] at d;omega
def LZ.put (h:LZ I N Q l cs W) (i:Nat) {g:Nat} {old cs':Array Value} (hi:l[i]?=some (g,.cells old ty fr)):LZ I N Q (l.set i (g,.cells cs' ty fr)) cs (W.setRow g cs'):=by have a:(l.set i (g,.cells cs' ty fr)).map (·.1)=l.map (·.1):=(by rw [List.map_set];refine List.ext_getElem? fun q=>?_;rw [List.getElem?_set];split;{rename_i e;subst e;rw [if_pos (by have:=g_l hi;simpa using this),gP_,hi];rfl};rfl);have f:=h.gt g _ (mG_ hi);refine ⟨h.rw_ _ _ _ h.iv (ci_ _ _ _) f,h.st,h.rw_,h.nq,by have:=h.nw;simpa [World.setRow] using this,fun g' o' j=>?_,fun g' o' j=>?_,by rw [a];exact h.nd,fun c hc=>?_⟩;{obtain ⟨q,b⟩:=List.getElem?_of_mem j;rw [List.getElem?_set] at b;split at b;{split at b;{injection b with b;injection b with h1 h2;subst h1 h2;exact setRow_heap _ _ _ _ _ _ (h.bk g _ (mG_ hi))};cases b};rename_i hne;have d:g'≠g:=fun e=>hne (by have h1:(l.map (·.1))[q]?=some g':=(by rw [gP_,b];rfl);have h2:(l.map (·.1))[i]?=some g:=(by rw [gP_,hi];rfl);subst e;exact (List.getElem?_inj (g_l h2) h.nd).1 (h2.trans h1.symm));exact (setRow_other _ _ _ _ d).trans (h.bk g' o' (mG_ b))};{have:g' ∈ (l.set i (g,.cells cs' ty fr)).map (·.1):=List.mem_map.2 ⟨_,j,rfl⟩;rw [a] at this;obtain ⟨⟨k,o2⟩,h1,rfl⟩:=List.mem_map.1 this;exact h.gt k o2 h1};have:LQ Q (l.set i (g,.cells cs' ty fr))=LQ Q l:=(by unfold LQ;rw [a]);rw [this];exact w_.kept (h.ck c hc) (r_.of_setRow _ _ _ (fun q=>q.2 (List.mem_map.2 ⟨_,mG_ hi,rfl⟩)))
def LZ.add (h:LZ I N Q l cs W) {v:Cv} (hv:v.at_ W (LQ Q l)):LZ I N Q l (v :: cs) W:=
 ⟨h.iv,h.st,h.rw_,h.nq,h.nw,h.bk,h.gt,h.nd,fun c hc=>by
  rcases List.mem_cons.1 hc with rfl | hc
  ·exact hv
  ·exact h.ck c hc⟩
def LZ.sub (h:LZ I N Q l cs W) {cs':List Cv} (hc:∀c ∈ cs',c ∈ cs):LZ I N Q l cs' W:=⟨h.iv,h.st,h.rw_,h.nq,h.nw,h.bk,h.gt,h.nd,fun c hm=>h.ck c (hc c hm)⟩
def LZ.putL {n:Nat} {old r:Array Value} (h:LZ I N Q (l ++ [(n,.cells old ty fr)]) cs W):LZ I N Q (l ++ [(n,.cells r ty fr)]) cs (W.setRow n r):=by have:=h.put (cs':=r) l.length (g:=n) (old:=old) (ty:=ty) (fr:=fr) A_;rwa [show (l ++ [(n,Obj.cells old ty fr)]).set l.length (n,.cells r ty fr)=l ++ [(n,.cells r ty fr)] by simp] at this
def LZ.last {n:Nat} {o:Obj} (h:LZ I N Q (l ++ [(n,o)]) cs W):W.heap[n]?=some o:=h.bk _ _ (List.mem_append_right _ M0_)
def LZ.box1 (h:LZ I N Q l cs W) (z1 r1:Array Value) (t1:TypeId):(W.alloc (.cells z1 t1)).heap[W.heap.size]?=some (.cells z1 t1 (0,0))/\LZ I N Q (l ++ [(W.heap.size,.cells r1 t1 (0,0))]) cs ((W.alloc (.cells z1 t1)).setRow (W) r1):=
 ⟨(h.push (.cells z1 t1) _ rfl).last,(h.push (.cells z1 t1) _ rfl).putL⟩
def LZ.box2 (h:LZ I N Q l cs W) (z1 r1 z2 r2:Array Value) (t1 t2:TypeId) :
  ((W.alloc (.cells z1 t1)).alloc (.cells z2 t2)).heap[W.heap.size]?=some (.cells z1 t1 (0,0))/\(((W.alloc (.cells z1 t1)).alloc (.cells z2 t2)).setRow (W) r1).heap[W.heap.size+1]?=some (.cells z2 t2 (0,0))/\
  LZ I N Q (l ++ [(W.heap.size,.cells r1 t1 (0,0)),(W.heap.size+1,.cells r2 t2 (0,0))]) cs ((((W.alloc (.cells z1 t1)).alloc (.cells z2 t2)).setRow (W) r1).setRow (W+1) r2):=by have h2:=(h.push (.cells z1 t1) _ rfl).push (.cells z2 t2) (W+1) A_;have h3:=h2.put (cs':=r1) l.length (g:=W.heap.size) (old:=z1) (ty:=t1) (fr:=(0,0)) A_;rw [show ((l ++ [(W.heap.size,Obj.cells z1 t1)]) ++ [(W.heap.size+1,Obj.cells z2 t2)]).set l.length (W.heap.size,.cells r1 t1 (0,0))=(l ++ [(W.heap.size,Obj.cells r1 t1)]) ++ [(W.heap.size+1,Obj.cells z2 t2)] by simp] at h3;have a:=h3.putL (r:=r2);rw [List.append_assoc] at a;exact ⟨h2.bk _ _ A_,h3.last,a⟩
def LZ.box3 (h:LZ I N Q l cs W) (z1 r1 z2 r2 z3 r3:Array Value) (t1 t2 t3:TypeId) :
  (((W.alloc (.cells z1 t1)).alloc (.cells z2 t2)).alloc (.cells z3 t3)).heap[W.heap.size]?=some (.cells z1 t1 (0,0))/\((((W.alloc (.cells z1 t1)).alloc (.cells z2 t2)).alloc (.cells z3 t3)).setRow (W) r1).heap[W.heap.size+1]?=some (.cells z2 t2 (0,0))/\
  (((((W.alloc (.cells z1 t1)).alloc (.cells z2 t2)).alloc (.cells z3 t3)).setRow (W) r1).setRow (W+1) r2).heap[W.heap.size+1+1]?=some (.cells z3 t3 (0,0))/\
  LZ I N Q (l ++ [(W.heap.size,.cells r1 t1 (0,0)),(W.heap.size+1,.cells r2 t2 (0,0)),(W.heap.size+1+1,.cells r3 t3 (0,0))]) cs ((((((W.alloc (.cells z1 t1)).alloc (.cells z2 t2)).alloc (.cells z3 t3)).setRow (W) r1).setRow (W+1) r2).setRow (W+1+1) r3):=by have h2:=((h.push (.cells z1 t1) _ rfl).push (.cells z2 t2) (W+1) A_).push (.cells z3 t3) (W+1+1) A_;have h3:=h2.put (cs':=r1) l.length (g:=W.heap.size) (old:=z1) (ty:=t1) (fr:=(0,0)) A_;rw [show (((l ++ [(W.heap.size,Obj.cells z1 t1)]) ++ [(W.heap.size+1,Obj.cells z2 t2)]) ++ [(W.heap.size+1+1,Obj.cells z3 t3)]).set l.length (W.heap.size,.cells r1 t1 (0,0))=l ++ [(W.heap.size,Obj.cells r1 t1),(W.heap.size+1,Obj.cells z2 t2),(W.heap.size+1+1,Obj.cells z3 t3)] by simp] at h3;have a:=h3.put (cs':=r2) (l.length+1) (g:=W.heap.size+1) (old:=z2) (ty:=t2) (fr:=(0,0)) A_;rw [show (l ++ [(W.heap.size,Obj.cells r1 t1),(W.heap.size+1,Obj.cells z2 t2),(W.heap.size+1+1,Obj.cells z3 t3)]).set (l.length+1) (W.heap.size+1,.cells r2 t2 (0,0))=(l ++ [(W.heap.size,Obj.cells r1 t1),(W.heap.size+1,Obj.cells r2 t2)]) ++ [(W.heap.size+1+1,Obj.cells z3 t3)] by simp] at a;have b:=a.putL (r:=r3);rw [List.append_assoc] at b;exact ⟨h2.bk _ _ A_,h3.bk _ _ A_,a.last,b⟩
end
abbrev LN (w:World):=LZ (fun W=>s_ w W) (w) (fun _=>True)
def LN.start (w:World):LN w [] [] w:=
 ⟨bR_ _ _,fun W f h b=>h_ h b,fun W f g h b i=>h.grown b h.size (fun k d=>by injection d with d;omega),fun _ _=>trivial,lR_ _,fun g o a=>(by cases a),fun g o a=>(by cases a),List.nodup_nil,fun c hc=>(by cases hc)⟩
end
section
def Tp.old {a:Option Addr} {len cap:Nat} {zs:List Int} (h:nE_ .i64 W a len cap zs) (hB:s_ W w):Tp W (w) (w.alloc (.cells #[S_ a len cap,I_ 0] 76)):=by refine ⟨⟨a,len,cap,0,heap_alloc_new _ _,Nat.zero_le _,?_,?_⟩,b_ hB _,hB.size⟩;{rcases h with ⟨_,rfl,_⟩ | ⟨x,_,h1,h2,_⟩;{exact Nat.zero_le _};exact lT_ h1 h2};intro i j;rcases h with ⟨_,rfl,_⟩ | ⟨x,rfl,h1,h2,h3,h4,h5⟩;{omega};obtain ⟨c,o,g⟩:=x;have hc:=h4 i O_;have f:=h4 0 O_;have d:g=none:=(by simpa [Addr.add] using World.cell?_spot f);subst d;rw [Addr.add_mid] at hc;have b:=World.block_lt_of_cell? W ⟨c,o+i,none⟩ hc;exact ⟨c,o,zs.getD i 0,rfl,lL_ b hB.size,((b_ hB _).cell b).trans hc⟩
abbrev LT (w:World) (t:Nat):=LZ (Tp w t) (t+1) (fun z=>z≠t)
def LT.mk {cs:List Cv} (hT:Tp w t W) (hc:∀c ∈ cs,c.at_ W (LQ (fun z=>z≠t) [])):LT w t [] cs W:=
 ⟨hT,fun W W' h hb=>h.step hb,fun W W' g h hb hg=>h.gb hb hg,fun z hz=>by omega,hT.lt,fun g o hm=>(by cases hm),fun g o hm=>(by cases hm),List.nodup_nil,hc⟩
def LT.read {W':World} {l:List (Nat × Obj)} {cs:List Cv} (h:LT w t l cs W) (hT:Tp w t W') (hg:W.grownBy W' (some t)):LT w t l cs W':=
 ⟨hT,h.st,h.rw_,h.nq,hT.lt,fun g o hm=>bZ_ hg (by have:=h.gt g o hm;omega) (h.bk g o hm),h.gt,h.nd,fun c hc=>w_.kept (h.ck c hc) (cu_ hg (fun q=>q.1 rfl))⟩
def qf_ {b R:Nat} {old:Array Value} (h:Tp W b w) (hR:w.heap[R]?=some (.cells old ty (0,0))) (ho:∀(k:Nat) (x:Int),old[k]?≠some (I_ x)) (hb:R≠b) (hW:W.heap.size<=R) {cs:Array Value}:Tp W b (w.setRow R cs):=by obtain ⟨⟨a,len,cap,k,h1,h2,h3,m⟩,l,f⟩:=h;have g:=ci_ w R cs;refine ⟨⟨a,len,cap,k,(g.block b (l_ h1) fun e=>hb (oI_ e).symm).trans h1,h2,h3,fun i n=>?_⟩,l.grown g l.size (fun k j=>by injection j with j;omega),f⟩;obtain ⟨c,o,x,p,hc,d⟩:=m i n;refine ⟨c,o,x,p,hc,g.cell d (fun e=>?_)⟩;have e:c=R:=oI_ e;subst e;rw [a_ hR] at d;exact ho _ _ d
def t8_ (w:World) (e:Ending) (w':World):Prop:=∃(t:Nat) (v:Cv),e = .returned (.tuple #[ckV v.a v.b v.c v.d v.e v.f v.g,P_ t])/\Inv 3 2 2 v.C/\LT w t [] [v] w'
def i9_ {a0:Option Addr} {len0 cap0:Nat} {z0:List Int} (w0:nE_ .i64 w a0 len0 cap0 z0):C_ 7 #[S_ a0 len0 cap0] w (t8_ w):=by have b:=H_ (n_ (i_ w (oCZ)) (.cells #[S_ a0 len0 cap0,I_ 0] 76));have g:=H_ (show Tp w (w+1) ((w.alloc (oCZ)).alloc (.cells #[S_ a0 len0 cap0,I_ 0] 76)) by have p:=Tp.old w0 (b_ B_ (oCZ));rw [show (w.alloc (oCZ)).heap.size=w.heap.size+1 by simp] at p;exact p);clear w0;go_enter func7,ntmps7;go_upto_region 2 with fail;generalize (w.alloc _).alloc _=V at b g;go_wp2_with (first|(go_at_call 39;(refine CM (rV_ (fun z=>z≠w.heap.size+1/\z≠w.heap.size) g (fun h=>h.1 rfl) (fun z n=>⟨by have:=g.lt;omega,by have:=l_ b.out;omega⟩)) ?_);rintro e w3 ⟨C,a1,M,c1,E,e1,N,O,o,rfl,a,d,f⟩;obtain ⟨y,L,n1,t,s,n2,A,G,n3,R,I,H,P,v,K,B,Q,D,F,J,u,rfl,rfl,rfl,rfl,rfl,rfl,rfl⟩:=w_.caps a;obtain ⟨m,j,r⟩:=h3_ a d o;have l:=H_ (bZ_ f O_ b.out);clear a d o f)|(refine G_ rfl (.tmp 2) (.tmp 9) rfl rfl rfl rfl l rfl ?_));show bodyPost prog f7 _ _ _ _;refine bodyPost_ret (W_ rfl rfl rfl (setRow_heap _ _ _ _ _ _ l)) rfl ?_;refine ⟨w+1,⟨_,_,_,_,_,_,_,C⟩,rfl,r.out,LT.mk (qf_ j.out l.out (fun k x q=>?_) O_ O_) (fun c hc=>?_)⟩;{have i:=(Array.getElem?_eq_some_iff.1 q).1;simp only[List.size_toArray,cL_,List.length_nil] at i;obtain rfl | rfl | rfl | rfl | rfl | rfl | rfl:k=0\/k=1\/k=2\/k=3\/k=4\/k=5\/k=6:=O_;all_goals cases q};obtain rfl:=List.mem_singleton.1 hc;exact (m.kept (r_.of_setRow _ _ _ (fun h=>h.2 rfl))).weak (fun z _ n=>⟨n.1,A_⟩)
end
section
abbrev rqR (a0 a1 a2 a3 a4 a5:Int) (d:ByteArray) (b c:Bool) (t:Int):Array Value:=R_ a0 a1 a2 a3 a4 a5 d b c t
end
section
def di_ (C:Ck) (j:Nat) (y:Fl) (k:Nat):Bool:=(y.size != 0||y.blocks != 0)||(C.frames.take k).any (fun x=>x.file == (j:Int))
end
section
structure Io (C:Ck):Prop where
 of:ec_ C
 few:C.files.length<=8
 file:∀(j:Nat) (y:Fl),C.files[j]?=some y->(0<=y.slot/\y.slot<7)/\(0<=y.which/\y.which<2)/\eP_ y.blocks/\0<=y.seq/\y.seq<=65535
def Inv.io {F G Z:Nat} {C:Ck} (h:Inv F G Z C):Io C where
 of:=h.ofOk
 few:=by have:=h.nf;have:=h.few;omega
 file:=fun j y hy=>by
  obtain ⟨s,hs,hs7⟩:=(h.file j y hy).slot;obtain ⟨h1,h2,h3,_⟩:=(h.file j y hy).st;exact ⟨O_,O_,h1,O_,O_⟩
def ec_.files {C:Ck} (h:ec_ C) {fs:List Fl} (hn:fs.length=C.files.length):ec_ {C with files:=fs}:=
 ⟨⟨by show 0<fs.length/\fs.length<=100;rw [hn];exact h.ok.files,h.ok.frames,h.ok.groups,h.ok.lists,h.ok.clocks⟩,h.zn,h.pt,h.free,h.lru⟩
def Io.set {C:Ck} (h:Io C) (hy:(0<=y'.slot/\y'.slot<7)/\(0<=y'.which/\y'.which<2)/\eP_ y'.blocks/\0<=y'.seq/\y'.seq<=65535):Io {C with files:=C.files.set j y'} where
 of:=h.of.files (sL_ ..)
 few:=by show (C.files.set j y').length<=8;rw [sL_];exact h.few
 file:=fun k u hu=>by
  rcases b4_ hu with ⟨rfl,rfl⟩ | ⟨_,hu⟩
  ·exact hy
  ·exact h.file k u hu
def hV_ (C:Ck) (n sz:Int) (C':Ck) (rq ino:Value) (err:Int):Prop:=
 (∃(j:Nat) (y:Fl),n=(j:Int)/\C.files[j]?=some y/\0<=sz/\sz<=128/\eW_ C j y sz C' rq ino err)\/((¬(0<=n/\n<(C.files.length:Int))\/sz<0\/128<sz)/\C'=C/\rq=rq0/\ino=dr_ 0 0 0/\err=2)
def km_ (C:Ck) (n q s b k:Int) (C':Ck) (err:Int):Prop:=
 (∃(j:Nat) (y:Fl),n=(j:Int)/\C.files[j]?=some y/\eb_ C j y q s b k C' err)\/(¬(0<=n/\n<(C.files.length:Int))/\C'=C/\err=2)
def iU_ (C:Ck) (n sz:Int):Bool:=if 0<=n then (match C.files[n.toNat]? with | some y=>mw_ y sz | none=>false) else false
def chQ (a b:ByteArray) (f:Int):Int:=if pk (cB_ a f) (cB_ b f) (eM_ a f) (eM_ b f)=true then eM_ b f else eM_ a f
def chS (a b:ByteArray) (f:Int):Int:=if pk (cB_ a f) (cB_ b f) (eM_ a f) (eM_ b f)=true then hB_ b f else hB_ a f
def chB (a b:ByteArray) (f:Int):Int:=if pk (cB_ a f) (cB_ b f) (eM_ a f) (eM_ b f)=true then j7_ b f else j7_ a f
def chW (a b:ByteArray) (f:Int):Int:=if pk (cB_ a f) (cB_ b f) (eM_ a f) (eM_ b f)=true then 1 else 0
def jJ_ (C:Ck) (n:Int) (a b:ByteArray) (C':Ck) (err:Int):Prop:=
 (∃(j:Nat) (y:Fl),n=(j:Int)/\C.files[j]?=some y/\fC_ C j y (di_ C j y C.frames.length) (chQ a b n) (chS a b n) (chB a b n) (chW a b n) C' err)\/(¬(0<=n/\n<(C.files.length:Int))/\C'=C/\err=2)
def ee_ {C:Ck} (e:n=(j:Int)) (e':n=(j':Int)) (h:C.files[j]?=some y) (h':C.files[j']?=some y'):j'=j/\y'=y:=by obtain rfl:j'=j:=O_;exact ⟨rfl,oI_ (h'.symm.trans h)⟩
def gr_.imp {P Q:Ck->Value->Value->Int->Prop} (h:gr_ P S w en w') (hq:∀C rq i e,P C rq i e->Q C rq i e):gr_ Q S w en w':=by obtain ⟨C',rq,ino,err,a,b,c,d,e,f,g,h1,h2⟩:=h;exact ⟨C',rq,ino,err,a,b,c,d,e,f,g,hq _ _ _ _ h1,h2⟩
section
variable (C:Ck) (n:Int) (a b c d e f g:Value) (S:Nat->Prop) (w:World) (h:w_ w S a b c d e f g C) (hI:Io C) (hS:∀z,w.heap.size<=z->S z)
include h hI hS
def jl_ (sz:Int):C_ 22 #[ckV a b c d e f g,I_ n,I_ sz] w (gr_ (hV_ C n sz) S w):=by by_cases p:¬(0<=n/\n<(C.files.length:Int))\/sz<0\/128<sz;{exact (oq_ n sz h hI.of p hS).mono fun _ _ i=>i.imp fun _ _ _ _ m=> .inr ⟨p,m⟩};obtain ⟨j,rfl⟩:=iN_ (show 0<=n by omega);obtain ⟨y,k⟩:∃y,C.files[j]?=some y:=⟨_,gE_ O_⟩;obtain ⟨h1,h2,h3,o⟩:=hI.file j y k;have l:vaB y.seq sz y.blocks=true:=(by unfold vaB;exact decide_eq_true ⟨o.1,o.2,O_,O_,h3.1,h3.2⟩);exact (n7_ j y sz h hI.of k l h1 h2 hS).mono fun _ _ i=>i.imp fun _ _ _ _ m=> .inl ⟨j,y,rfl,k,O_,O_,m⟩
def gm_ (q s t k:Int):C_ 26 #[ckV a b c d e f g,I_ n,dr_ q s t,I_ k] w (bu_ (km_ C n q s t k) S w):=by by_cases l:0<=n/\n<(C.files.length:Int);{obtain ⟨j,rfl⟩:=iN_ l.1;obtain ⟨y,m⟩:∃y,C.files[j]?=some y:=⟨_,gE_ O_⟩;obtain ⟨h1,h2,h3,r⟩:=hI.file j y m;have p:j<8:=(by have:=hI.few;omega);exact (jK_ j y q s t k h hI.of m h2 hS).mono fun _ _ i=>i.imp fun _ _ o=> .inl ⟨j,y,rfl,m,o⟩};exact (jT_ n q s t k h hI.of l hS).mono fun _ _ i=>i.imp fun _ _ o=> .inr ⟨l,o⟩
end
def k3_ {C:Ck} (h:¬(0<=n/\n<(C.files.length:Int))):iU_ C n sz=false:=by unfold iU_;split;{rw [eN_ O_]};rfl
def kg_ {C:Ck} (h:C.files[j]?=some y):iU_ C (j:Int) sz=mw_ y sz:=by unfold iU_;rw [if_pos O_,show ((j:Int)).toNat=j by simp,h]
section
variable (C:Ck) (n:Int) (a b c d e f g:Value) (S:Nat->Prop) (w:World) (h:w_ w S a b c d e f g C)
include h
def id_ (sz:Int):C_ 24 #[ckV a b c d e f g,I_ n,I_ sz] w (aO_ (iU_ C n sz) w):=by by_cases i:0<=n/\n<(C.files.length:Int);{obtain ⟨j,rfl⟩:=iN_ i.1;obtain ⟨y,k⟩:∃y,C.files[j]?=some y:=⟨_,gE_ O_⟩;rw [kg_ k];exact mj_ j y sz h k};rw [k3_ i];exact mr_ n sz h i
end
def qT_ (s:ByteArray) (f:Int):0<=hB_ s f/\hB_ s f<=255:=by unfold hB_;split;{unfold hY_;have:=(s.data.getD 2 0).toNat_lt;omega};omega
def oV_ (a b:ByteArray) (f:Int):0<=chS a b f/\chS a b f<=255:=by unfold chS;split;{exact qT_ b f};exact qT_ a f
def fM_ (C:Ck):Prop:=∀(j t:Nat) (y:Fl),C.files[j]?=some y->av_ t y.c->i1_ t y=di_ C j y C.frames.length
section
variable (C:Ck) (n:Int) (a b c d e f g:Value) (S:Nat->Prop) (w:World) (h:w_ w S a b c d e f g C) (hI:Io C) (hU:fM_ C) (hS:∀z,w.heap.size<=z->S z)
include h hI hU hS
def nI_ (s t:ByteArray) (hs:s.size<=maxLen) (ht:t.size<=maxLen):C_ 30 #[ckV a b c d e f g,I_ n,.string s,.string t] w (bu_ (jJ_ C n s t) S w):=by by_cases l:0<=n/\n<(C.files.length:Int);{obtain ⟨j,rfl⟩:=iN_ l.1;obtain ⟨y,k⟩:∃y,C.files[j]?=some y:=⟨_,gE_ O_⟩;obtain ⟨A,cap,e1,_⟩:=h.files.form;rw [e1] at h;obtain ⟨r,o1,p,u,x,_,_,_,o,_⟩:=FlA.cells h.files k;rw [<-e1] at h;have:=ri_ j y s t (chQ s t j) (chS s t j) (chB s t j) (chW s t j) h hI.of k o (fun w'=>(po_ s t j w' hs ht).mono fun v q i=>⟨_,i.1,i.2⟩) (oV_ s t j) hS;rw [hU j p y k o] at this;exact this.mono fun _ _ i=>i.imp fun _ _ m=> .inl ⟨j,y,rfl,k,m⟩};exact (q5_ n s t h hI.of l hS).mono fun _ _ i=>i.imp fun _ _ m=> .inr ⟨l,m⟩
end
end
end Go.Proofs.YtehfhnbpnaiogaaGreatDoor
