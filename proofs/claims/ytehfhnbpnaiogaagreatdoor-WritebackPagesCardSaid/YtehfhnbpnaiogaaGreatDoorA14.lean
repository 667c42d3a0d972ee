/-
  Lemmas and contracts for the laws of this seat, part 14; several texts joined by a program.
-/
import Derived.Test.YtehfhnbpnaiogaaGreatDoorA13
import Derived.Test.YtehfhnbpnaiogaaGreatDoorA00
import Derived.Lib.ConvBytes
namespace Go.Proofs.YtehfhnbpnaiogaaGreatDoor
set_option linter.all false
set_option maxRecDepth 100000
set_option maxHeartbeats 16000000
open Go.RowKit Go.Proofs.Tryz IntKind
variable {A:Option Addr} {S:Nat->Prop} {W w w' w0:World} {X base h i k n z:Nat} {a b d e f g:Value} {fn:Func} {fr:Nat × Nat} {m sec:Int} {o:Obj} {p:Tmp} {r tmps:Array Value} {α:Type}
section
def U8R:RR UInt8 1:=RR.flat (fun b=>[.int .u8 (b.toNat:Int)]) (fun a=>⟨rfl,fun u hu=>by simp at hu;subst hu;rfl⟩)
def kW_ (w:World) (s:ByteArray):LW U8R (Lib.bytesWorld w 5 s) (fun _=>False) (w) s.data.toList:=by have k:=Lib.bytesWorld_at_new w 5 s;have l:(Lib.bytesCells w 5 s).size>=s.data.toList.length:=(by simp [Lib.bytesCells]);refine ⟨fun h=>h,s.data.toList.map (fun b=>[.int .u8 (b.toNat:Int)]),⟨fun j c=>?_,by rw [Lib.bytesWorld_size];omega,bm_.shp (R:=U8R) (w:=w) (S:=fun _=>False) (bm_.of_map _),fun i r j u a c=>?_⟩,bm_.of_map _⟩;{have f:j<s.data.toList.length:=(by simpa using c);rw [Nat.zero_add];constructor;{have:=Lib.bytesWorld_cell w 5 s j (by simpa using f);rw [this];rfl};simp [World.frozen?,k];omega};rw [gP_] at a;cases hb:s.data.toList[i]? with|none=>rw [hb] at a;simp at a|some b=>rw [hb] at a;have a:[Value.int .u8 (b.toNat:Int)]=r:=(by simpa using a);subst a;match j with|0=>have g:Value.int .u8 (b.toNat:Int)=u:=(by simpa using c);subst g;have d:=g_l hb;rw [Nat.mul_one,Nat.add_zero,Lib.bytesWorld_cell w 5 s i (by simpa using d)];have:s.data.toList.getD i 0=b:=(by rw [List.getD_eq_getElem?_getD,hb];rfl);rw [this]|j+1=>simp at c
def hp_ (w:World) (e:TypeId) (s:ByteArray):s_ w (Lib.bytesWorld w e s):=by refine ⟨?_,?_,?_,by rw [Lib.bytesWorld_size];omega,fun k hk=>Lib.bytesWorld_at_old w e s k hk⟩ <;> rfl
def gB_ (v sec:Int) (i:Nat):Bool:=(bits .and .i64 sec ((2 ^ (i / 8):Nat):Int) != 0)&&(bits .and .i64 v ((2 ^ (i / 8):Nat):Int) == 0)
def c2_ (d t:ByteArray) (v sec:Int) (k:Nat):List UInt8:=(List.range 16).map (fun i=>if i<k/\gB_ v sec i=true then t.data.toList.getD i 0 else d.data.toList.getD i 0)
def bz_ (d t:ByteArray) (v sec:Int) (k:Nat):(c2_ d t v sec k).length=16:=by unfold c2_;simp
def ex_ {d t:ByteArray} {v:Int} (h:i<16):(c2_ d t v sec k)[i]?=some (if i<k/\gB_ v sec i=true then t.data.toList.getD i 0 else d.data.toList.getD i 0):=by unfold c2_;rw [gP_,List.getElem?_range h];rfl
def mf_ {d t:ByteArray} {v:Int} (hd:d.size=16):c2_ d t v sec 0=d.data.toList:=by apply List.ext_getElem?;intro i;have a:d.data.toList.length=16:=(by simpa using hd);by_cases h:i<16;{rw [ex_ h,if_neg O_,List.getD_eq_getElem?_getD,gE_ O_];rfl};rw [eN_ (by rw [bz_];omega),eN_ O_]
def i4_ {d t:ByteArray} {v:Int} (h:k<16) (hn:gB_ v sec k=true):(c2_ d t v sec k).set k (t.data.toList.getD k 0)=c2_ d t v sec (k+1):=by apply List.ext_getElem?;intro i;by_cases a:i<16;{by_cases b:i=k;{subst b;rw [gS_ (by rw [bz_];exact h),ex_ a,if_pos ⟨O_,hn⟩]};rw [gN_ (fun e=>b e.symm),ex_ a,ex_ a];congr 2;by_cases c:i<k;{simp [c,show i<k+1 by omega]};simp [c,show ¬i<k+1 by omega]};rw [eN_ (by rw [sL_,bz_];omega),eN_ (by rw [bz_];omega)]
def eO_ {d t:ByteArray} {v:Int} (hn:gB_ v sec k=false):c2_ d t v sec k=c2_ d t v sec (k+1):=by apply List.ext_getElem?;intro i;by_cases a:i<16;{rw [ex_ a,ex_ a];congr 2;by_cases c:i=k;{subst c;simp [hn]};by_cases b:i<k;{simp [b,show i<k+1 by omega]};simp [b,show ¬i<k+1 by omega]};rw [eN_ (by rw [bz_];omega),eN_ (by rw [bz_];omega)]
def fd_ (p:Pg) (sec:Int) (t:ByteArray):Pg:=⟨⟨(c2_ p.data t p.valid sec 16).toArray⟩,bits .or .i64 p.valid sec,p.dirty⟩
def tq_ (d:ByteArray) (v y sec:Int) (t:ByteArray) (w:World) (ok:dF_ ⟨d,v,y⟩) (hs:0<=sec/\sec<=3) (ht:t.size=16):C_ 150 #[pgV d v y,I_ sec,.string t] w (jv_ (fd_ ⟨d,v,y⟩ sec t) 0 w):=by have O:=fun w'=>fl_ d v y w' ok;have hd:d.size=16:=ok.len;have q:=H_ (n_ (i_ w (.cells #[.string d,I_ v,I_ y] 83)) (.cells #[.string ByteArray.empty,I_ 0,I_ 0] 83));have m:=H_ (m_ (w.alloc (.cells #[.string d,I_ v,I_ y] 83)) (.cells #[.string ByteArray.empty,I_ 0,I_ 0] 83) (w+1) A_);have o:=H_ (b_ (b_ (bR_ (w) w) (.cells #[.string d,I_ v,I_ y] 83)) (.cells #[.string ByteArray.empty,I_ 0,I_ 0] 83));have L:=H_ hd;have HT:=H_ ht;have d1:decide (sec<0)=false:=dF O_;have d2:decide (3<sec)=false:=dF O_;have d3:((t.size:Int) != 16)=false:=(by simp;omega);have I:=fun w=>Lib.run_convert_string_bytes (P:=prog) w 9 77 5 d underlying9 underlying77 underlying5;clear ok hd ht;go_enter func150,ntmps150;go_upto_region 6 with (go_at_call 123;refine CM (O _) ?_;rintro e w1 ⟨rfl,H⟩;let⟨u,D,z⟩:=aQ_ q m o H;clear H;let⟨x0,W,Y⟩:=cs3 u.out);have n:=H_ (show LW U8R (Lib.bytesWorld w1 5 d) (fun _=>False) (w1) (c2_ d t v sec 0) by rw [mf_ L.out];exact kW_ w1 d);have K:=hp_ w1 5 d;let⟨x,A,C⟩:=aQ_ u D z K;have hB:=z.size;have N:=l_ D;have a3:d.size<=16:=(by have:=L.out;omega);have a2:16<=d.size:=(by have:=L.out;omega);have a0:16<=t.size:=(by have:=HT.out;omega);clear K I x0 W Y u D z q m o;generalize Lib.bytesWorld w1 5 d=V at n x A C;generalize grownCap w1 d.size 0 5=X;let⟨B,J⟩:=nm_ w1.heap.size;rw [<-J] at n hB N ⊢;clear J;go_wp2;go_loopw [9] (fun i wx=>∃k:Nat,i = I_ k/\k<=16/\LW U8R wx (fun _=>False) B (c2_ d t v sec k)/\s_ w wx/\At_ wx (w) #[.string d,I_ v,I_ y] 83/\At_ wx (w+1) #[.string ByteArray.empty,I_ 0,I_ 0] 83) (fun i _=>16 - (intOf i).toNat);{exact ⟨0,rfl,O_,n.out,C.out,x.out,A.out⟩};clear n C x A;obtain ⟨k,rfl,hk,F,hb,M,Z⟩:=hrel;let⟨n,o,q,m⟩:=h4_ F hb M Z;let⟨x0,W,Y⟩:=cs3 M;clear hb M Z;by_cases c:k<16;{have a1:k<d.size:=O_;have S:k<t.size:=O_;have f0:=(F.slot (i:=k) (p:=0) (by rw [bz_];exact c) O_).2;let⟨c0,Q⟩:=(F.slot (i:=k) (p:=0) (by rw [bz_];exact c) O_).1;rw [Nat.mul_one,Nat.add_zero] at f0 Q;have l:=H_ (show t.data.toList.getD k 0=t[k] by rw [List.getD_eq_getElem?_getD,gE_ (by simpa using S)];rfl);clear F;obtain ⟨E,U,s⟩:∃E:Nat,(E=0\/E=1)/\k / 8=E:=⟨k / 8,O_,rfl⟩;have R:(k:Int) / 8=(E:Int):=O_;have G:=H_ (show gB_ v sec k=((bits .and .i64 sec ((2 ^ E:Nat):Int) != 0)&&(bits .and .i64 v ((2 ^ E:Nat):Int) == 0)) by unfold gB_;rw [s]);clear s;rcases U with rfl | rfl;{skip;have b:=H_ (show gB_ v sec k=((bits .and .i64 sec 1 != 0)&&(bits .and .i64 v 1 == 0)) from G);cases e1:(bits .and .i64 sec 1 != 0) with|false=>have g:=H_ (eO_ (d:=d) (t:=t) (show gB_ v sec k=false by rw [b.out,e1];rfl));go_wp2;go_roundw;{exact ⟨k+1,by go_num,O_,by rw [<-g.out];exact n,o,q,m⟩};exact MS_|true=>cases e2:(bits .and .i64 v 1 == 0) with|false=>have g:=H_ (eO_ (d:=d) (t:=t) (show gB_ v sec k=false by rw [b.out,e1,e2];rfl));go_wp2;go_roundw;{exact ⟨k+1,by go_num,O_,by rw [<-g.out];exact n,o,q,m⟩};exact MS_|true=>have g:=H_ (i4_ (d:=d) (t:=t) c (show gB_ v sec k=true by rw [b.out,e1,e2];rfl));go_wp2;go_roundw;{refine ⟨k+1,by go_num,O_,?_,an_ o.out _ _ (by show w.heap.size<=B;omega),aw_ q.out _ _ (by show w.heap.size≠B;omega),aw_ m.out _ _ (by show w.heap.size+1≠B;omega)⟩;have:=n.setOne (i:=k) (p:=0) (a:=(c2_ d t v sec k)[k]'(by rw [bz_];exact c)) (a':=t.data.toList.getD k 0) (v:= .int .u8 ((t.data.toList.getD k 0).toNat:Int)) (gE_ _) O_ rfl (fun r f=>by have f:r=[.int .u8 _]:=f;subst f;rfl);rw [g.out,Nat.mul_one,Nat.add_zero,l.out] at this;exact this};exact MS_};skip;have b:=H_ (show gB_ v sec k=((bits .and .i64 sec 2 != 0)&&(bits .and .i64 v 2 == 0)) from G);cases e1:(bits .and .i64 sec 2 != 0) with|false=>have g:=H_ (eO_ (d:=d) (t:=t) (show gB_ v sec k=false by rw [b.out,e1];rfl));go_wp2;go_roundw;{exact ⟨k+1,by go_num,O_,by rw [<-g.out];exact n,o,q,m⟩};exact MS_|true=>cases e2:(bits .and .i64 v 2 == 0) with|false=>have g:=H_ (eO_ (d:=d) (t:=t) (show gB_ v sec k=false by rw [b.out,e1,e2];rfl));go_wp2;go_roundw;{exact ⟨k+1,by go_num,O_,by rw [<-g.out];exact n,o,q,m⟩};exact MS_|true=>have g:=H_ (i4_ (d:=d) (t:=t) c (show gB_ v sec k=true by rw [b.out,e1,e2];rfl));go_wp2;go_roundw;{refine ⟨k+1,by go_num,O_,?_,an_ o.out _ _ (by show w.heap.size<=B;omega),aw_ q.out _ _ (by show w.heap.size≠B;omega),aw_ m.out _ _ (by show w.heap.size+1≠B;omega)⟩;have:=n.setOne (i:=k) (p:=0) (a:=(c2_ d t v sec k)[k]'(by rw [bz_];exact c)) (a':=t.data.toList.getD k 0) (v:= .int .u8 ((t.data.toList.getD k 0).toNat:Int)) (gE_ _) O_ rfl (fun r f=>by have f:r=[.int .u8 _]:=f;subst f;rfl);rw [g.out,Nat.mul_one,Nat.add_zero,l.out] at this;exact this};exact MS_};obtain rfl:k=16:=O_;have I:(convert 77 9 (S_ (some ⟨B,0,none⟩) d.size X)).run prog wr = .ok (.string ⟨(c2_ d t v sec 16).toArray⟩) wr:=(by have:=eL_ (c2_ d t v sec 16) B X wr (fun j hj=>by let⟨r,f,hc⟩:=F.at_ (gE_ hj);have f:r=[.int .u8 _]:=f;subst f;have:=hc 0 _ rfl;rw [Nat.mul_one,Nat.add_zero] at this;exact this);rw [bz_] at this;rw [L.out];exact this);clear F;go_wp2_with (refine wR_ rfl 83 (.tmp 6) (.tmp 64) rfl rfl (w+1) #[.string ⟨(c2_ d t v sec 16).toArray⟩,I_ (bits .or .i64 v sec),I_ y] rfl rfl 83 _ (m) bk_ rfl (b3_) ?_);show bodyPost prog f150 _ _ _ _;refine bodyPost_ret (fu_ rfl rfl rfl (setRow_heap _ _ _ _ _ _ m)) rfl ?_;exact ⟨rfl,f_ o.out O_ _⟩
end
section
abbrev erV (c e:Int):Value:= .agg #[I_ c,I_ e]
def ha_ (c e:Int):Prop:=0<=c/\c<=1000000/\(c=0↔e=0)
def eQ_:(prog.info? 60).map (·.size)=some 2:=by kernel_rfl
def oi_ {c e:Int} (w:World) (ok:ha_ c e):C_ 130 #[erV c e] w (aO_ true w):=by let⟨h1,h2,h3⟩:=ok;by_cases hc:c=0;{have a:=h3.1 hc;subst hc a;clear h3;go_enter func130,ntmps130;go_wp2;go_ret;exact ⟨rfl,b_ B_ _⟩};have a:¬e=0:=fun h=>hc (h3.2 h);have b:(c == 0)=false:=(by simp [hc]);have d:(e == 0)=false:=(by simp [a]);clear h3;go_enter func130,ntmps130;go_wp2;go_ret;exact ⟨rfl,b_ B_ _⟩
def bK_ (c e err:Int):Int × Int × Int:=if c=1000000 then (c,e,3) else (c+1,err,0)
def sE_ (r:Int × Int × Int) (w:World) (e:Ending) (w':World):Prop:=e = .returned (.tuple #[erV r.1 r.2.1,I_ r.2.2])/\s_ w w'
def hc_ {a b:Int}:(#[Value.int i64 a,I_ b]:Array Value).all (·.oneCell')=true:=by simp [Value.oneCell']
def hH_ {q:Tmp} (h:fn.results=#[.cell p 60,.tmp q]) {g:Nat} {t:TypeId} {u:Value}
  (hp:tmps.getD p undef = P_ g) (hq:tmps.getD q undef=u) (hg:w.heap[g]?=some (.cells #[a,b] t fr)):(results fn tmps).run prog w = .ok (.tuple #[.agg #[a,b],u]) w:=
 mE_ h tmps t fr u hp hq hg underlying60 rfl eQ_
def pJ_ {c e:Int}(err:Int) (w:World) (ok:ha_ c e) (herr:err≠0):C_ 70 #[erV c e,I_ err] w (sE_ (bK_ c e err) w):=by have g:=fun w'=>oi_ w' ok;have l:=H_ (n_ (i_ w (.cells #[I_ c,I_ e] 60)) (.cells #[I_ 0,I_ 0] 60));have k:=H_ (m_ (w.alloc (.cells #[I_ c,I_ e] 60)) (.cells #[I_ 0,I_ 0] 60) (w+1) A_);have j:=H_ (b_ (b_ (bR_ (w) w) (.cells #[I_ c,I_ e] 60)) (.cells #[I_ 0,I_ 0] 60));have r:(err == 0)=false:=(by simp [herr]);have q:=ok.1;have p:=ok.2.1;clear ok herr;by_cases hc:c=1000000;{have i:=H_ (show bK_ c e err=(c,e,3) by unfold bK_;rw [if_pos hc]);have o:(c == 1000000)=true:=(by simp [hc]);have m:=H_ hc;clear hc;go_enter func70,ntmps70;go_wp2_with (first|(go_at_call 130;refine CM (g _) ?_;rintro e w1 ⟨rfl,a⟩;let⟨f,b,d⟩:=aQ_ l k j a;clear a;let⟨x0,n⟩:=cs2 f.out)|(refine wR_ rfl 60 (.tmp 4) (.tmp 17) rfl rfl (w+1) #[I_ c,I_ e] rfl rfl 60 _ (b) eQ_ rfl (hc_) ?_));show bodyPost prog f70 _ _ _ _;refine bodyPost_ret (hH_ rfl rfl rfl (setRow_heap _ _ _ _ _ _ b)) rfl ?_;rw [i.out];exact ⟨rfl,f_ d.out O_ _⟩};have i:=H_ (show bK_ c e err=(c+1,err,0) by unfold bK_;rw [if_neg hc]);have o:(c == 1000000)=false:=(by simp [hc]);go_enter func70,ntmps70;go_wp2_with (first|(go_at_call 130;refine CM (g _) ?_;rintro e w1 ⟨rfl,a⟩;let⟨f,b,d⟩:=aQ_ l k j a;clear a;let⟨x0,n⟩:=cs2 f.out)|(refine wR_ rfl 60 (.tmp 4) (.tmp 22) rfl rfl (w+1) #[I_ (c+1),I_ err] rfl rfl 60 _ (b) eQ_ rfl (hc_) ?_));show bodyPost prog f70 _ _ _ _;refine bodyPost_ret (hH_ rfl rfl rfl (setRow_heap _ _ _ _ _ _ b)) rfl ?_;rw [i.out];exact ⟨rfl,f_ d.out O_ _⟩
def m0_ (w:World):C_ 146 #[I_ 128] w (eg_ (I_ 7) w):=by go_enter func146,ntmps146;go_wp2;go_ret;exact ⟨rfl,rfl⟩
end
section
structure Fr where
 file:Int
 page:Int
 pg:Pg
 tenant:Int
 holds:Int
 reading:Int
 writing:Int
def Fr.row (x:Fr):List Value:=[I_ x.file,I_ x.page,.string x.pg.data,I_ x.pg.valid,I_ x.pg.dirty,I_ x.tenant,I_ x.holds,I_ x.reading,I_ x.writing]
def FrR:RR Fr 9:=RR.flat Fr.row (fun a=>⟨rfl,fun u hu=>by
 simp only[Fr.row,mC_,List.not_mem_nil,or_false] at hu
 rcases hu with rfl | rfl | rfl | rfl | rfl | rfl | rfl | rfl | rfl <;> rfl⟩)
def r6_:(prog.info? 85).map (fun i=>(i.zero,i.size,i.bytes))=some (some (.agg (F9_ 0 0 ByteArray.empty 0 0 0 0 0 0)),9,80):=by kernel_rfl
def pr_:h1_ prog 24 85 9:=by let⟨i,h1,h2,h3,h4⟩:=info_parts r6_;exact ⟨i,_,80,underlying24,h1,h2,h3,h4,rfl,O_,O_⟩
structure Fl where
 dev:Int
 slot:Int
 c:Cn
 size:Int
 blocks:Int
 ecnt:Int
 eerr:Int
 sseq:Int
 ssize:Int
 sblocks:Int
 which:Int
 seq:Int
def Fl.rowT (f:Fl) (h:Nat) (A:Option Addr) (cap:Nat):List Value:=[I_ f.dev,I_ f.slot,I_ h,S_ A (j_ h f.c).kids.length cap,I_ (j_ h f.c).val,I_ (j_ h f.c).marks,I_ f.size,I_ f.blocks,I_ f.ecnt,I_ f.eerr,I_ f.sseq,I_ f.ssize,I_ f.sblocks,I_ f.which,I_ f.seq]
def FlP (w:World) (S:Nat->Prop) (f:Fl) (r:List Value):Prop:=∃(h:Nat) (A:Option Addr) (cap:Nat),aW_ f.c/\av_ h f.c/\(j_ h f.c).kids.length<=cap/\NK w S A (j_ h f.c).kids/\r=f.rowT h A cap
def FlR:RR Fl 15 where
 p:=FlP
 st w w' S a r hk h:=by obtain ⟨n,A,cap,h1,h2,h3,h4,h5⟩:=h;exact ⟨n,A,cap,h1,h2,h3,h4.kept hk.1 hk.2,h5⟩
 wk w S S' a r hS h:=by obtain ⟨n,A,cap,h1,h2,h3,h4,h5⟩:=h;exact ⟨n,A,cap,h1,h2,h3,h4.weak hS,h5⟩
 sh w S a r h:=by
  obtain ⟨n,A,cap,h1,h2,h3,h4,rfl⟩:=h;refine ⟨rfl,fun u hu=>?_⟩;simp only[Fl.rowT,mC_,List.not_mem_nil,or_false] at hu
  rcases hu with rfl | rfl | rfl | rfl | rfl | rfl | rfl | rfl | rfl | rfl | rfl | rfl | rfl | rfl | rfl <;> rfl
def rl_:(prog.info? 64).map (fun i=>(i.zero,i.size,i.bytes))=some (some (.agg #[I_ 0,I_ 0,I_ 0,S_ none 0 0,I_ 0,I_ 0,I_ 0,I_ 0,I_ 0,I_ 0,I_ 0,I_ 0,I_ 0,I_ 0,I_ 0]),15,136):=by kernel_rfl
def qA_:h1_ prog 23 64 15:=by let⟨i,h1,h2,h3,h4⟩:=info_parts rl_;exact ⟨i,_,136,underlying23,h1,h2,h3,h4,rfl,O_,O_⟩
def m9_:(prog.info? 119).map (fun i=>(i.zero,i.size,i.bytes))=some (some (.agg #[S_ none 0 0,S_ none 0 0,S_ none 0 0]),3,72):=by kernel_rfl
def sz_:h1_ prog 27 119 3:=by let⟨i,h1,h2,h3,h4⟩:=info_parts m9_;exact ⟨i,_,72,underlying27,h1,h2,h3,h4,rfl,O_,O_⟩
structure Ck where
 files:List Fl
 frames:List Fr
 zones:List Zn
 groups:List Gr
 lists:List Lr
 clocks:List Int
 ptes:List Pt
abbrev ckV (a b c d e f g:Value):Value:= .agg #[a,b,c,d,e,f,g]
structure w_ (w:World) (S:Nat->Prop) (a b c d e f g:Value) (C:Ck):Prop where
 files:LA FlR w S a C.files
 frames:LA FrR w S b C.frames
 zones:LA ZnR w S c C.zones
 groups:LA GrR w S d C.groups
 lists:LA LrR w S e C.lists
 clocks:LA Z_ w S f C.clocks
 ptes:LA PtR w S g C.ptes
def w_.kept {c:Value} {C:Ck} (h:w_ w S a b c d e f g C) (hk:r_ S w w'):w_ w' S a b c d e f g C:=
 ⟨h.files.kept hk,h.frames.kept hk,h.zones.kept hk,h.groups.kept hk,h.lists.kept hk,h.clocks.kept hk,h.ptes.kept hk⟩
def w_.step {c:Value} {C:Ck} (h:w_ w S a b c d e f g C) (hb:s_ w w'):w_ w' S a b c d e f g C:=h.kept (r_.of_below hb)
def w_.weak {S':Nat->Prop} {c:Value} {C:Ck} (h:w_ w S a b c d e f g C) (hS:∀z,z<w.heap.size->S z->S' z):w_ w S' a b c d e f g C:=
 ⟨h.files.weak hS,h.frames.weak hS,h.zones.weak hS,h.groups.weak hS,h.lists.weak hS,h.clocks.weak hS,h.ptes.weak hS⟩
def a8_:(prog.info? 30).map (·.size)=some 7:=by kernel_rfl
structure us_ (C:Ck):Prop where
 files:C.files.length<=100
 frames:C.frames.length<=100
 groups:C.groups.length<=100
 lists:C.lists.length<=100
 clocks:C.clocks.length<=100
structure vk_ (w:World) (B:Nat) (S:Nat->Prop) (a b d e f:Value) (C:Ck) (n1 n2 n3 n4:Nat):Prop where
 files:LO FlR 64 w B S a C.files
 frames:LO FrR 85 w n1 S b C.frames
 groups:LO GrR 72 w n2 S d C.groups
 lists:LO LrR 119 w n3 S e C.lists
 clocks:LO Z_ 3 w n4 S f C.clocks
 le1:B<=n1
 le2:n1<=n2
 le3:n2<=n3
 le4:n3<=n4
 lt1:∀z,a.ownBlock=some z->z<n1
 lt2:∀z,b.ownBlock=some z->z<n2
 lt3:∀z,d.ownBlock=some z->z<n3
 lt4:∀z,e.ownBlock=some z->z<n4
def uK_ (C:Ck) (S:Nat->Prop) (c g:Value) (w:World) (en:Ending) (w':World):Prop:=∃a b d e f n1 n2 n3 n4,en = .returned (ckV a b c d e f g)/\vk_ w' (w) S a b d e f C n1 n2 n3 n4/\s_ w w'
theorem LA.cap {R:RR α k} {v:Value} {L:List α} (h:LA R w S v L):∃A n cap,v = S_ A n cap:=by let⟨A,cap,e,_⟩:=h.form;exact ⟨A,_,cap,e⟩
theorem LO.cap {R:RR α k} {e:TypeId} {v:Value} {L:List α} (h:LO R e w base S v L):∃A n cap,v = S_ A n cap:=(h.la (S':=Any) (fun _ _ _=>trivial) (fun _ _=>trivial)).cap
end
section
abbrev oF (x:Fr):Obj:= .cells #[.int .i64 x.file,.int .i64 x.page,.string x.pg.data,.int .i64 x.pg.valid,.int .i64 x.pg.dirty,.int .i64 x.tenant,.int .i64 x.holds,.int .i64 x.reading,.int .i64 x.writing] 85 (0,0)
def w_.caps {S:Nat→Prop} {c:Value} {C:Ck} (h:w_ w S a b c d e f g C):∃A1 m1 c1 A2 m2 c2 A3 m3 c3 A4 m4 c4 A5 m5 c5 A6 m6 c6 A7 m7 c7,a = .slice A1 m1 c1∧b = .slice A2 m2 c2∧c = .slice A3 m3 c3∧d = .slice A4 m4 c4∧e = .slice A5 m5 c5∧f = .slice A6 m6 c6∧g = .slice A7 m7 c7:=by obtain ⟨A1,m1,c1,rfl⟩:=h.files.cap;obtain ⟨A2,m2,c2,rfl⟩:=h.frames.cap;obtain ⟨A3,m3,c3,rfl⟩:=h.zones.cap;obtain ⟨A4,m4,c4,rfl⟩:=h.groups.cap;obtain ⟨A5,m5,c5,rfl⟩:=h.lists.cap;obtain ⟨A6,m6,c6,rfl⟩:=h.clocks.cap;obtain ⟨A7,m7,c7,rfl⟩:=h.ptes.cap;exact ⟨_,_,_,_,_,_,_,_,_,_,_,_,_,_,_,_,_,_,_,_,_,rfl,rfl,rfl,rfl,rfl,rfl,rfl⟩
def w_.caps5 {S:Nat→Prop} {c:Value} {C:Ck} (h:w_ w S a b c d e f g C):∃A3 m3 c3 A4 m4 c4 A5 m5 c5 A6 m6 c6 A7 m7 c7,c = .slice A3 m3 c3∧d = .slice A4 m4 c4∧e = .slice A5 m5 c5∧f = .slice A6 m6 c6∧g = .slice A7 m7 c7:=by let⟨_,_,_,_,_,_,A3,m3,c3,A4,m4,c4,A5,m5,c5,A6,m6,c6,A7,m7,c7,_,_,h3,h4,h5,h6,h7⟩:=h.caps;exact ⟨_,_,_,_,_,_,_,_,_,_,_,_,_,_,_,h3,h4,h5,h6,h7⟩
abbrev ea_ (j:Int) (x:Fr):Array Value:=#[.int .i64 j,.int .i64 x.page,.string x.pg.data,.int .i64 x.pg.valid,.int .i64 x.pg.dirty,.int .i64 x.tenant,.int .i64 x.holds,.int .i64 x.reading,.int .i64 x.writing]
def zc {b o t ct:Nat} {x:Fl} (h:w'.heap[b]?=w.heap[b]?) (hc:∀(j:Nat) (u:Value),(x.rowT t A ct)[j]?=some u→w.cell? ⟨b,o+j,none⟩=some u):w'.cell? ⟨b,o,none⟩=some (.int .i64 x.dev)∧w'.cell? ⟨b,o+1,none⟩=some (.int .i64 x.slot)∧w'.cell? ⟨b,o+2,none⟩=some (.int .i64 t)∧w'.cell? ⟨b,o+3,none⟩=some (.slice A (j_ t x.c).kids.length ct)∧w'.cell? ⟨b,o+4,none⟩=some (.int .i64 (j_ t x.c).val)∧w'.cell? ⟨b,o+5,none⟩=some (.int .i64 (j_ t x.c).marks)∧w'.cell? ⟨b,o+6,none⟩=some (.int .i64 x.size)∧w'.cell? ⟨b,o+7,none⟩=some (.int .i64 x.blocks)∧w'.cell? ⟨b,o+8,none⟩=some (.int .i64 x.ecnt)∧w'.cell? ⟨b,o+9,none⟩=some (.int .i64 x.eerr)∧w'.cell? ⟨b,o+10,none⟩=some (.int .i64 x.sseq)∧w'.cell? ⟨b,o+11,none⟩=some (.int .i64 x.ssize)∧w'.cell? ⟨b,o+12,none⟩=some (.int .i64 x.sblocks)∧w'.cell? ⟨b,o+13,none⟩=some (.int .i64 x.which)∧w'.cell? ⟨b,o+14,none⟩=some (.int .i64 x.seq):=
 ⟨(d_ h).trans (hc 0 _ rfl),(d_ h).trans (hc 1 _ rfl),(d_ h).trans (hc 2 _ rfl),(d_ h).trans (hc 3 _ rfl),(d_ h).trans (hc 4 _ rfl),(d_ h).trans (hc 5 _ rfl),(d_ h).trans (hc 6 _ rfl),(d_ h).trans (hc 7 _ rfl),(d_ h).trans (hc 8 _ rfl),(d_ h).trans (hc 9 _ rfl),(d_ h).trans (hc 10 _ rfl),(d_ h).trans (hc 11 _ rfl),(d_ h).trans (hc 12 _ rfl),(d_ h).trans (hc 13 _ rfl),(d_ h).trans (hc 14 _ rfl)⟩
def scs {b:Nat} {v:Value} {cs:List Value} {t:TypeId} (h:w.setCell ⟨b,i,none⟩ v=W) (hb:Hid (w.heap[b]?=some (.cells cs.toArray t (0,0)))):Hid (W.heap[b]?=some (.cells (cs.set i v).toArray t (0,0))):=by subst h;have:=Y_ (i:=i) hb.out v;rw [List.setIfInBounds_toArray] at this;exact Lib.hid this
def scx {b:Nat} {v:Value} (h:w.setCell ⟨b,i,none⟩ v=W) (hz:Hid (w.heap[z]?=some o)) (hn:z≠b:=by omega):Hid (W.heap[z]?=some o):=by subst h;exact Lib.hid ((Below.heap_setCell w ⟨b,i,none⟩ v z hn).trans hz.out)
def scl {b:Nat} {v:Value} (h:w.setCell ⟨b,i,none⟩ v=W) (hb:Hid (Below w0.heap.size w0 w)) (hn:w0.heap.size≤b:=by omega):Hid (Below w0.heap.size w0 W):=by subst h;exact Lib.hid (Below.setCell hb.out hn v)
def srs {b:Nat} {old:Array Value} {t:TypeId} (h:w.setRow b r=W) (hb:Hid (w.heap[b]?=some (.cells old t (0,0)))):Hid (W.heap[b]?=some (.cells r t (0,0))):=by subst h;exact Lib.hid (setRow_heap _ _ _ _ _ _ hb.out)
def srx {b:Nat} (h:w.setRow b r=W) (hz:Hid (w.heap[z]?=some o)) (hn:z≠b:=by omega):Hid (W.heap[z]?=some o):=by subst h;exact Lib.hid ((setRow_other w b z r hn).trans hz.out)
def srl {b:Nat} (h:w.setRow b r=W) (hb:Hid (Below w0.heap.size w0 w)) (hn:w0.heap.size≤b:=by omega):Hid (Below w0.heap.size w0 W):=by subst h;exact Lib.hid (f_ hb.out hn r)
def smx {b:Nat} {r:List Value} (h:w.setCells b i r=W) (hz:Hid (w.heap[z]?=some o)) (hn:z≠b:=by omega):Hid (W.heap[z]?=some o):=by subst h;exact Lib.hid ((x_ b r i w z hn).trans hz.out)
def sml {b:Nat} {r:List Value} (h:w.setCells b i r=W) (hb:Hid (Below w0.heap.size w0 w)) (hn:w0.heap.size≤b:=by omega):Hid (Below w0.heap.size w0 W):=by subst h;exact Lib.hid (ax_ hb.out hn i r)
end
section
def LA.oldB {R:RR α k} {v:Value} {L:List α} (h:LA R w S v L) (hb:Below (w) w w'):LA R w' (fun z=>S z/\z<w.heap.size) v L:=h.old.step hb
def LO.keepX {R:RR α k} {e:TypeId} {v:Value} {L:List α} (h:LO R e w base (fun z=>S z/\z<X) v L) (hX:X<base) (p:Nat) (u:Value):LO R e (w.setCell ⟨X,p,none⟩ u) base (fun z=>S z/\z<X) v L:=
 h.kept (v_ w ⟨X,p,none⟩ u) (.inr ⟨X,rfl,fun h=>by have:=h.2;omega,fun hv=>by have:=(h.own hv).1;omega⟩)
def LO.keepR {R:RR α k} {e:TypeId} {Y:Nat} {v:Value} {L:List α} (h:LO R e w base (fun z=>S z/\z<X) v L) (hX:Y<base) (hY:X<=Y) (cs:Array Value):LO R e (w.setRow Y cs) base (fun z=>S z/\z<X) v L:=
 h.kept (ci_ w Y cs) (.inr ⟨Y,rfl,fun h=>by have:=h.2;omega,fun hv=>by have:=(h.own hv).1;omega⟩)
def cz_ {B C D E F G:Option Addr} {a b c d e f g a' b' c' d' e' f' g':Nat}:(#[Value.slice A a a',.slice B b b',.slice C c c',.slice D d d',.slice E e e',.slice F f f',.slice G g g']:Array Value).all (·.oneCell')=true:=by simp [Value.oneCell']
def d5_ (h:fn.results=#[.cell p 30]) {g:Nat} {t:TypeId} {x0 x1 x2 x3 x4 x5 x6:Value}
  (hp:tmps.getD p undef = P_ g) (hg:w.heap[g]?=some (.cells #[x0,x1,x2,x3,x4,x5,x6] t fr)):(results fn tmps).run prog w = .ok (ckV x0 x1 x2 x3 x4 x5 x6) w:=
 results_cell_row h tmps w g t _ fr _ hp hg underlying30 rfl a8_
def s4_ {C:Ck} {c:Value} (h:w_ w S a b c d e f g C) (hl:us_ C):Calls prog 21 #[ckV a b c d e f g] w (uK_ C (fun z=>S z/\z<w.heap.size) c g w):=by obtain ⟨A1,m1,c1,A2,m2,c2,A3,m3,c3,A4,m4,c4,A5,m5,c5,A6,m6,c6,A7,m7,c7,rfl,rfl,rfl,rfl,rfl,rfl,rfl⟩:=w_.caps h;have H:=H_ h;have HL:=H_ hl;have a0:=H_ (n_ (i_ w (.cells (z_ A1 m1 c1 A2 m2 c2 A3 m3 c3 A4 m4 c4 A5 m5 c5 A6 m6 c6 A7 m7 c7) 30)) (oCZ));have a6:=H_ (m_ (w.alloc (.cells (z_ A1 m1 c1 A2 m2 c2 A3 m3 c3 A4 m4 c4 A5 m5 c5 A6 m6 c6 A7 m7 c7) 30)) (oCZ) (w+1) A_);have J:=H_ (b_ (b_ (bR_ (w) w) (.cells (z_ A1 m1 c1 A2 m2 c2 A3 m3 c3 A4 m4 c4 A5 m5 c5 A6 m6 c6 A7 m7 c7) 30)) (oCZ));have z0:w.heap.size+1<((w.alloc (.cells (z_ A1 m1 c1 A2 m2 c2 A3 m3 c3 A4 m4 c4 A5 m5 c5 A6 m6 c6 A7 m7 c7) 30)).alloc (oCZ)).heap.size:=l_ a6;clear h hl;go_enter func21,ntmps21;go_upto_region 1 with fail;generalize (w.alloc _).alloc _=W0 at a0 a6 J z0;let⟨x0,W,R,X,V,Y,U⟩:=J_ a0.out;have f0:=t_ a0 0;go_wp2_with (first|(at_builtin;(refine bf_ FlR qA_ rfl _ (.tmp 4) rfl rfl (.slice A1 m1 c1) (fun z=>S z/\z<w.heap.size) C.files rfl (H.files.oldB J) (by have:=HL.files;omega) ?_);intro v1 w1 p Z;obtain ⟨E,D,e1,rfl⟩:=p.cap;have i:=bh_ Z a0.out A_;have k:=J.grown Z J.size (fun b hb=>by cases hb);have l:=Z.size;have aq:=H_ (show (w1.setCell ⟨w,0,none⟩ (.slice E D e1)).heap[w.heap.size]?=some (.cells (z_ E D e1 A2 m2 c2 A3 m3 c3 A4 m4 c4 A5 m5 c5 A6 m6 c6 A7 m7 c7) 30 (0,0)) from Y_ i _);have ak:=H_ (aw_ (bh_ Z a6.out A_) ⟨w,0,none⟩ (.slice E D e1) A_);have a9:=H_ (an_ k ⟨w,0,none⟩ (.slice E D e1) (lR_ _));have L:=H_ (p.keepX O_ 0 (.slice E D e1));have z1:w.heap.size+1<(w1.setCell ⟨w,0,none⟩ (.slice E D e1)).heap.size:=l_ ak;have ar:=H_ (show (W0).heap.size<=(w1.setCell ⟨w,0,none⟩ (.slice E D e1)).heap.size by have j:=l;simp only[World.setCell,Array.size_modify] at j ⊢;exact j);clear x0 W R X V Y U;let⟨x0,W,R,X,V,Y,U⟩:=J_ i;have f1:=t_ i 0;clear p)|(at_builtin;(refine bf_ FrR pr_ rfl _ (.tmp 8) rfl rfl (.slice A2 m2 c2) (fun z=>S z/\z<w.heap.size) C.frames rfl (H.frames.oldB a9) (by have:=HL.frames;omega) ?_);intro v2 w2 q O;obtain ⟨u,F,e2,rfl⟩:=q.cap;have i:=bh_ O aq.out A_;have k:=a9.grown O a9.size (fun b hb=>by cases hb);have l:=O.size;have au:=H_ (show (w2.setCell ⟨w,1,none⟩ (.slice u F e2)).heap[w.heap.size]?=some (.cells (z_ E D e1 u F e2 A3 m3 c3 A4 m4 c4 A5 m5 c5 A6 m6 c6 A7 m7 c7) 30 (0,0)) from Y_ i _);have ai:=H_ (aw_ (bh_ O ak.out A_) ⟨w,1,none⟩ (.slice u F e2) A_);have aa:=H_ (an_ k ⟨w,1,none⟩ (.slice u F e2) (lR_ _));have K:=H_ (q.keepX O_ 1 (.slice u F e2));have a5:=H_ ((L.kept O (.inl rfl)).keepX O_ 1 (.slice u F e2));have z2:w.heap.size+1<(w2.setCell ⟨w,1,none⟩ (.slice u F e2)).heap.size:=l_ ai;have am:=H_ (show (w1.setCell ⟨w,0,none⟩ (.slice E D e1)).heap.size<=(w2.setCell ⟨w,1,none⟩ (.slice u F e2)).heap.size by have j:=l;simp only[World.setCell,Array.size_modify] at j ⊢;exact j);clear x0 W R X V Y U;let⟨x0,W,R,X,V,Y,U⟩:=J_ i;have f2:=t_ i 1;clear q)|(at_builtin;(refine bf_ GrR nf_ rfl _ (.tmp 12) rfl rfl (.slice A4 m4 c4) (fun z=>S z/\z<w.heap.size) C.groups rfl (H.groups.oldB aa) (by have:=HL.groups;omega) ?_);intro v3 w3 o v;obtain ⟨x,A,B,rfl⟩:=o.cap;have i:=bh_ v au.out A_;have k:=aa.grown v aa.size (fun b hb=>by cases hb);have l:=v.size;have av:=H_ (show (w3.setCell ⟨w,3,none⟩ (.slice x A B)).heap[w.heap.size]?=some (.cells (z_ E D e1 u F e2 A3 m3 c3 x A B A5 m5 c5 A6 m6 c6 A7 m7 c7) 30 (0,0)) from Y_ i _);have al:=H_ (aw_ (bh_ v ai.out A_) ⟨w,3,none⟩ (.slice x A B) A_);have ac:=H_ (an_ k ⟨w,3,none⟩ (.slice x A B) (lR_ _));have I:=H_ (o.keepX O_ 3 (.slice x A B));have a3:=H_ ((a5.kept v (.inl rfl)).keepX O_ 3 (.slice x A B));have a1:=H_ ((K.kept v (.inl rfl)).keepX O_ 3 (.slice x A B));have z3:w.heap.size+1<(w3.setCell ⟨w,3,none⟩ (.slice x A B)).heap.size:=l_ al;have aw:=H_ (show (w2.setCell ⟨w,1,none⟩ (.slice u F e2)).heap.size<=(w3.setCell ⟨w,3,none⟩ (.slice x A B)).heap.size by have j:=l;simp only[World.setCell,Array.size_modify] at j ⊢;exact j);clear x0 W R X V Y U;let⟨x0,W,R,X,V,Y,U⟩:=J_ i;have f3:=t_ i 3;clear o)|(at_builtin;(refine bf_ LrR sz_ rfl _ (.tmp 16) rfl rfl (.slice A5 m5 c5) (fun z=>S z/\z<w.heap.size) C.lists rfl (H.lists.oldB ac) (by have:=HL.lists;omega) ?_);intro v4 w4 r s;obtain ⟨t,y,G,rfl⟩:=r.cap;have i:=bh_ s av.out A_;have k:=ac.grown s ac.size (fun b hb=>by cases hb);have l:=s.size;have an:=H_ (show (w4.setCell ⟨w,4,none⟩ (.slice t y G)).heap[w.heap.size]?=some (.cells (z_ E D e1 u F e2 A3 m3 c3 x A B t y G A6 m6 c6 A7 m7 c7) 30 (0,0)) from Y_ i _);have aj:=H_ (aw_ (bh_ s al.out A_) ⟨w,4,none⟩ (.slice t y G) A_);have a4:=H_ (an_ k ⟨w,4,none⟩ (.slice t y G) (lR_ _));have M:=H_ (r.keepX O_ 4 (.slice t y G));have ae:=H_ ((a3.kept s (.inl rfl)).keepX O_ 4 (.slice t y G));have ag:=H_ ((a1.kept s (.inl rfl)).keepX O_ 4 (.slice t y G));have a7:=H_ ((I.kept s (.inl rfl)).keepX O_ 4 (.slice t y G));have z4:w.heap.size+1<(w4.setCell ⟨w,4,none⟩ (.slice t y G)).heap.size:=l_ aj;have ao:=H_ (show (w3.setCell ⟨w,3,none⟩ (.slice x A B)).heap.size<=(w4.setCell ⟨w,4,none⟩ (.slice t y G)).heap.size by have j:=l;simp only[World.setCell,Array.size_modify] at j ⊢;exact j);clear x0 W R X V Y U;let⟨x0,W,R,X,V,Y,U⟩:=J_ i;have f4:=t_ i 4;clear r)|(at_builtin;(refine bf_ Z_ bp_ rfl _ (.tmp 20) rfl rfl (.slice A6 m6 c6) (fun z=>S z/\z<w.heap.size) C.clocks rfl (H.clocks.oldB a4) (by have:=HL.clocks;omega) ?_);intro v5 w5 n m;obtain ⟨Q,P,N,rfl⟩:=n.cap;have i:=bh_ m an.out A_;have k:=a4.grown m a4.size (fun b hb=>by cases hb);have l:=m.size;have ax:=H_ (show (w5.setCell ⟨w,5,none⟩ (.slice Q P N)).heap[w.heap.size]?=some (.cells (z_ E D e1 u F e2 A3 m3 c3 x A B t y G Q P N A7 m7 c7) 30 (0,0)) from Y_ i _);have ab:=H_ (aw_ (bh_ m aj.out A_) ⟨w,5,none⟩ (.slice Q P N) A_);have ap:=H_ (an_ k ⟨w,5,none⟩ (.slice Q P N) (lR_ _));have a2:=H_ (n.keepX O_ 5 (.slice Q P N));have ah:=H_ ((ae.kept m (.inl rfl)).keepX O_ 5 (.slice Q P N));have af:=H_ ((ag.kept m (.inl rfl)).keepX O_ 5 (.slice Q P N));have a8:=H_ ((a7.kept m (.inl rfl)).keepX O_ 5 (.slice Q P N));have ad:=H_ ((M.kept m (.inl rfl)).keepX O_ 5 (.slice Q P N));have z5:w.heap.size+1<(w5.setCell ⟨w,5,none⟩ (.slice Q P N)).heap.size:=l_ ab;have ay:=H_ (show (w4.setCell ⟨w,4,none⟩ (.slice t y G)).heap.size<=(w5.setCell ⟨w,5,none⟩ (.slice Q P N)).heap.size by have j:=l;simp only[World.setCell,Array.size_modify] at j ⊢;exact j);clear x0 W R X V Y U;let⟨x0,W,R,X,V,Y,U⟩:=J_ i;have f5:=t_ i 5;clear n)|(refine G_ rfl (.tmp 2) (.tmp 23) rfl rfl rfl rfl ab rfl ?_));show bodyPost prog f21 _ _ _ _;refine bodyPost_ret (d5_ rfl rfl (setRow_heap _ _ _ _ _ _ ab)) rfl ?_;have g1:=ar.out;have g2:=am.out;have g3:=aw.out;have g4:=ao.out;have g0:=J.size;refine ⟨_,_,_,_,_,(w1.setCell ⟨w,0,none⟩ (.slice E D e1)).heap.size,(w2.setCell ⟨w,1,none⟩ (.slice u F e2)).heap.size,(w3.setCell ⟨w,3,none⟩ (.slice x A B)).heap.size,(w4.setCell ⟨w,4,none⟩ (.slice t y G)).heap.size,rfl,?_,f_ ap.out O_ _⟩;exact ⟨(ah.keepR z0 O_ _).base_le g0,af.keepR z1 O_ _,a8.keepR z2 O_ _,ad.keepR z3 O_ _,a2.keepR z4 O_ _,O_,g2,g3,g4,fun z hz=>(L.own hz).2,fun z hz=>(K.own hz).2,fun z hz=>(I.own hz).2,fun z hz=>(M.own hz).2⟩
end
section
def cf_ {C:Ck} (i:Nat) {c:Value} (h:w_ w S a b c d e f g C) (hi:i<C.files.length):C_ 92 #[ckV a b c d e f g,I_ i] w (aO_ true w):=by obtain ⟨A,cap,rfl,_,_⟩:=h.files.form;have i0:(0:Int)<=(i:Int):=O_;have i1:(i:Int)<C.files.length:=O_;clear h;go_enter func92,ntmps92;go_wp2;go_ret;exact ⟨rfl,b_ B_ _⟩
def em_ (off n:Int) (w:World) (h1:0<=off) (h2:0<=n) (h3:off<=128) (h4:n<=128 - off):C_ 93 #[I_ off,I_ n] w (eg_ (.bool true) w):=by have d1:decide (n<=128 - off)=true:=dT h4;go_enter func93,ntmps93;go_wp2;go_ret;exact ⟨rfl,rfl⟩
def FrA.cells {cap:Nat} {L:List Fr} (h:LA FrR w S (S_ A n cap) L) {x:Fr} (hi:L[i]?=some x):∃b o,A=some ⟨b,o,none⟩/\b<w.heap.size/\
  w.cell? ⟨b,o+i*9,none⟩=some (I_ x.file)/\w.cell? ⟨b,o+i*9+1,none⟩=some (I_ x.page)/\w.cell? ⟨b,o+i*9+2,none⟩=some (.string x.pg.data)/\w.cell? ⟨b,o+i*9+3,none⟩=some (I_ x.pg.valid)/\w.cell? ⟨b,o+i*9+4,none⟩=some (I_ x.pg.dirty)/\
  w.cell? ⟨b,o+i*9+5,none⟩=some (I_ x.tenant)/\w.cell? ⟨b,o+i*9+6,none⟩=some (I_ x.holds)/\w.cell? ⟨b,o+i*9+7,none⟩=some (I_ x.reading)/\w.cell? ⟨b,o+i*9+8,none⟩=some (I_ x.writing):=by let⟨b,o,cap',r,hv,c1,c2,c,d,a,hc⟩:=h.at_ hi;injection hv with e1 _ _;have a:r=x.row:=a;subst a;exact ⟨b,o,e1,c,hc 0 _ rfl,hc 1 _ rfl,hc 2 _ rfl,hc 3 _ rfl,hc 4 _ rfl,hc 5 _ rfl,hc 6 _ rfl,hc 7 _ rfl,hc 8 _ rfl⟩
def FlA.cells {cap:Nat} {L:List Fl} (h:LA FlR w S (S_ A n cap) L) {x:Fl} (hi:L[i]?=some x):∃b o t B ct,A=some ⟨b,o,none⟩/\b<w.heap.size/\aW_ x.c/\av_ t x.c/\(j_ t x.c).kids.length<=ct/\NK w S B (j_ t x.c).kids/\
  ∀(j:Nat) (u:Value),(x.rowT t B ct)[j]?=some u->w.cell? ⟨b,o+i*15+j,none⟩=some u:=by let⟨b,o,cap',r,hv,c1,c2,hb,hS,hp,hc⟩:=h.at_ hi;injection hv with e1 _ _;obtain ⟨t,B,ct,h1,h2,h3,h4,rfl⟩:=hp;exact ⟨b,o,t,B,ct,e1,hb,h1,h2,h3,h4,hc⟩
def iu_ (x:Fr):Bool:=x.file != -1
def d9_ {C:Ck} (i:Nat) (x:Fr) {c:Value} (h:w_ w S a b c d e f g C) (hi:C.frames[i]?=some x) (hl:C.frames.length<=100):C_ 37 #[ckV a b c d e f g,I_ ((i:Int)+1)] w (aO_ (iu_ x) w):=by obtain ⟨A,cap,rfl,s,t⟩:=h.frames.form;obtain ⟨bb,o,rfl,l,c0,_⟩:=FrA.cells h.frames hi;have j:=g_l hi;have k:=H_ (show iu_ x=(x.file != -1) from rfl);have q:(1:Int)<=(i:Int)+1:=O_;have u:(i:Int)+1<=(C.frames.length:Int):=O_;have m:i<C.frames.length:=j;have n:(i:Int)<C.frames.length:=O_;have p:(i:Int)+1<=100:=O_;let⟨r,rest⟩:=nm_ x.file;rw [<-rest] at c0 k;clear h hi rest;go_enter func37,ntmps37;go_wp2;go_ret;exact ⟨by rw [k.out];rfl,b_ B_ _⟩
def rX_ {c:Cn} (ht:av_ h c) (i:Int):X_ c i=(lkP (aK_ 0 (4 ^ h) c) i).1:=by have a:4 ^ h<=256:=show 4 ^ h<=4 ^ 4 from Nat.pow_le_pow_right O_ ht.1;rw [lw_ ht.2.1];unfold X_ inB;by_cases h0:0<=i;{by_cases h1:i<=255;{simp [h0,h1]};have:c i.toNat=(0,0):=ht.2.1 _ O_;simp [h0,h1,this]};simp [h0]
def nu_ {c:Cn} (cap:Nat) (i:Int) (hl:aW_ c) (ht:av_ h c) (hcap:(j_ h c).kids.length<=cap) (hk:NK w S A (j_ h c).kids) :
  C_ 127 #[trV h A (j_ h c).kids.length cap (j_ h c).val (j_ h c).marks,I_ i] w (hE_ (X_ c i) w):=by have hE:sX_ (trV h A (j_ h c).kids.length cap (j_ h c).val (j_ h c).marks) (aK_ 0 (4 ^ h) c) w:=fun w' hb=>ga_ cap hl ht hcap (hk.step hb);rw [rX_ ht];exact s1_ _ _ _ _ _ _ _ w hE i
def fdV (v:Int):Value:=if v<=0 then .tuple #[I_ 0,.bool false] else .tuple #[I_ v,.bool true]
def bJ_ (v:Int) (w:World) (e:Ending) (w':World):Prop:=e = .returned (fdV v)/\s_ w w'
def ct_ {C:Ck} (i:Nat) (x:Fl) (p:Int) {c:Value} (h:w_ w S a b c d e f g C) (hi:C.files[i]?=some x):C_ 59 #[ckV a b c d e f g,I_ i,I_ p] w (bJ_ (X_ x.c p) w):=by have z:=g_l hi;have G:=fun w' (hb:s_ w w')=>cf_ i (h.step hb) z;obtain ⟨A,cap,rfl,q1,q2⟩:=h.files.form;obtain ⟨bb,o,t,B,V,rfl,D,L,I,K,J,hc⟩:=FlA.cells h.files hi;have n:=fun w' (hb:s_ w w')=>nu_ V p L I K (J.step hb);have F:w.cell? ⟨bb,o+i*15+2,none⟩=some (I_ t):=hc 2 _ rfl;have H:=hc 3 _ rfl;have y:w.cell? ⟨bb,o+i*15+4,none⟩=some (I_ (j_ t x.c).val):=hc 4 _ rfl;have s:w.cell? ⟨bb,o+i*15+5,none⟩=some (I_ (j_ t x.c).marks):=hc 5 _ rfl;have U:=H_ (fun X=>b_ (bR_ (w) w) X);have i0:(0:Int)<=(i:Int):=O_;have Z:(i:Int)<C.files.length:=O_;generalize (j_ t x.c).kids.length=kn at *;generalize (j_ t x.c).val=kv at *;generalize (j_ t x.c).marks=Y at *;let⟨r,q⟩:=nm_ (X_ x.c p);rw [<-q] at n ⊢;clear hc h hi q L I K J;have W:=H_ (i_ w (.cells #[S_ (some ⟨bb,o,none⟩) C.files.length cap,b,c,d,e,f,g] 30));go_enter func59,ntmps59;go_upto_region 3 with (go_at_call 92;refine CM (G _ cy_) ?_;rintro e w1 ⟨rfl,l⟩);have j:=H_ (h_ (U.out _) l);have u:=bkh W l;let⟨x0,M,N,P,O,R,Q⟩:=J_ u.out;clear M N P O R Q;have E:=kt4 (j.block _ D) F H y s;clear F H y s;let⟨F,H,y,s⟩:=E;clear l;by_cases hv:r<=0;{have v:=H_ (show fdV r = .tuple #[I_ 0,.bool false] from if_pos hv);go_wp2_with (go_at_call 127;refine CM (n _ j.out) ?_;rintro e w2 ⟨rfl,k⟩;have m:=blh j k;clear k);go_ret2;exact ⟨by rw [v.out];rfl,m⟩};have v:=H_ (show fdV r = .tuple #[I_ r,.bool true] from if_neg hv);go_wp2_with (go_at_call 127;refine CM (n _ j.out) ?_;rintro e w2 ⟨rfl,k⟩;have m:=blh j k;clear k);go_ret2;exact ⟨by rw [v.out];rfl,m⟩
def Fr.v (x:Fr):Value:= .agg (ea_ x.file x)
def nw_ (x:Fr):Bool:=decide (x.holds=0)&&(decide (x.reading=0)&&decide (x.writing=0))
def qj_ (x:Fr) (w:World):C_ 155 #[x.v] w (aO_ (nw_ x) w):=by have b:=H_ (fun X=>b_ (bR_ (w) w) X);let⟨i,j,⟨d,v,y⟩,t,c,f,a⟩:=x;have g:=H_ (show nw_ ⟨i,j,⟨d,v,y⟩,t,c,f,a⟩=(decide (c=0)&&(decide (f=0)&&decide (a=0))) from rfl);dsimp only[Fr.v];go_enter func155,ntmps155;by_cases h1:c=0;{by_cases h2:f=0;{by_cases h3:a=0;all_goals go_wp2;go_ret;exact ⟨by rw [g.out];simp [h1,h2,h3],b.out _⟩};go_wp2;go_ret;exact ⟨by rw [g.out];simp [h1,h2],b.out _⟩};go_wp2;go_ret;exact ⟨by rw [g.out];simp [h1],b.out _⟩
end
section
def a5_ (pg off n:Int):Int × Int:=(max off (pg*16) - pg*16,min (off+n) ((pg+1)*16) - max off (pg*16))
def ks_ (pg off n:Int) (w:World) (h1:0<=pg/\pg<=100) (h2:0<=off/\off<=1000) (h3:0<=n/\n<=1000):C_ 151 #[I_ pg,I_ off,I_ n] w (eg_ (.tuple #[I_ (a5_ pg off n).1,I_ (a5_ pg off n).2]) w):=by let⟨a1,a2⟩:=h1;let⟨c,b⟩:=h2;let⟨c1,c2⟩:=h3;have a:=H_ (show a5_ pg off n=(max off (pg*16) - pg*16,min (off+n) ((pg+1)*16) - max off (pg*16)) from rfl);go_enter func151,ntmps151;by_cases h:off<pg*16;{by_cases h':off+n<=(pg+1)*16;{go_wp2;go_ret2;refine ⟨?_,rfl⟩;rw [a.out,Int.max_eq_right O_,Int.min_eq_left O_,Int.sub_self];rfl};go_wp2;go_ret2;refine ⟨?_,rfl⟩;rw [a.out,Int.max_eq_right O_,Int.min_eq_right O_,Int.sub_self];rfl};by_cases h':off+n<=(pg+1)*16;{go_wp2;go_ret2;refine ⟨?_,rfl⟩;rw [a.out,Int.max_eq_left O_,Int.min_eq_left O_];rfl};go_wp2;go_ret2;refine ⟨?_,rfl⟩;rw [a.out,Int.max_eq_left O_,Int.min_eq_right O_];rfl
def pgL (a k:Nat):List Int:=(List.range k).map fun (j:Nat)=>(((a+j:Nat):Nat):Int)
def lh_ (a k:Nat):pgL a (k+1)=pgL a k ++ [(((a+k:Nat):Nat):Int)]:=by simp [pgL,List.range_succ]
def hN_ (a k:Nat):(pgL a k).length=k:=by simp [pgL]
def aq_ (off n:Nat):List Int:=pgL (off / 16) ((off+n+15) / 16 - off / 16)
def hI_ (off n:Nat) (S:Nat->Prop) (w:World) (h1:1<=n) (h2:off+n<=128) (hS:∀b,w.heap.size<=b->S b):C_ 88 #[I_ off,I_ n] w (eT_ (aq_ off n) S w):=by have p:=fun w'=>em_ (off:Int) (n:Int) w' O_ O_ O_ O_;have G:¬((n:Int)<1):=O_;have x:((off:Int):Int).tdiv 16=((off / 16:Nat):Int):=(by rw [tv_ O_];rfl);have t:(off:Int) / 16=((off / 16:Nat):Int):=(by rfl);obtain ⟨a,q,F,C⟩:∃a:Nat,off / 16=a/\a*16<=off/\off<a*16+16:=⟨off / 16,rfl,O_,O_⟩;have D:=H_ (show aq_ off n=pgL a ((off+n+15) / 16 - a) by rw [<-q];rfl);rw [q] at x t;clear q;go_enter func88,ntmps88;go_upto_region 5 with (go_at_call 93;refine CM (p _) ?_;rintro e w1 ⟨rfl,rfl⟩);clear x t;go_loopw [5,6] (fun u i wx=>∃k:Nat,i = I_ ((a+k:Nat):Nat)/\k<=9/\(k=0\/(a+k)*16<off+n+16)/\LO Z_ 3 wx (w) S u (pgL a k)/\s_ w wx) (fun _ i _=>100 - (intOf i).toNat);{exact ⟨0,rfl,O_,.inl rfl,LO.nil _ _ _ _ _,bR_ _ _⟩};obtain ⟨k,rfl,H,z,y,m⟩:=hrel;have r:=H_ y;have o:=H_ m;clear y m;by_cases l:(a+k)*16<off+n;{have g:=H_ (lh_ a k);let⟨j,f⟩:=nm_ (a+k);rw [<-f] at g l ⊢;have c:=H_ f;have A:j<=8:=O_;have B:((j:Int)*16)<(off:Int)+n:=O_;clear f;go_wp2_with (at_builtin;(refine Q_ bp_ rfl (.tmp 25) (.tmp 27) rfl S rfl (r.alloc _) (by have:=o.size;simp;omega) (by rw [hN_];omega) #[I_ j] rfl (m_ _ _ _ rfl) (j:Int) rfl ?_);intro v4 w4 d s v);go_roundw;{exact ⟨k+1,by have:=c.out;go_num,by have:=c.out;omega,by have:=c.out;omega,by rw [g.out];exact d,(b_ o.out _).grown s (b_ o.out _).size (fun b m=>(r.own m).1)⟩};exact MS_};have E:=H_ (show aq_ off n=pgL a k by rw [D.out];congr 1;omega);let⟨j,f⟩:=nm_ (a+k);rw [<-f] at l ⊢;have B:¬((j:Int)*16)<(off:Int)+n:=O_;have A:j<=20:=O_;clear f;go_wp2;go_ret;exact ⟨_,rfl,by rw [E.out];exact r.la (fun _ _ h=>h) hS,o.out⟩
end
section
def Fl.v (f:Fl) (h:Nat) (A:Option Addr) (cap:Nat):Value:= .agg (f.rowT h A cap).toArray
def d1_ (f:Fl) (p:Nat):Bool:=bits .and .i64 f.blocks (wrap64 (2 ^ p)) == 0
def nn_ (f:Fl) (h:Nat) (A:Option Addr) (cap:Nat) (p:Nat) (hp:p<8) (w:World):C_ 137 #[f.v h A cap,I_ p] w (aO_ (d1_ f p) w):=by have a:=H_ (fun X=>b_ (bR_ (w) w) X);have b:=H_ (show d1_ f p=(bits .and .i64 f.blocks (wrap64 (2 ^ p)) == 0) from rfl);simp only[Fl.v,Fl.rowT,List.toArray];generalize f.blocks=bk at *;go_enter func137,ntmps137;go_upto_region 1 with fail;go_region;go_wp2;go_ret;exact ⟨by rw [b.out];rfl,(a.out _).drew⟩
end
section
def t2_ {k:Int} (hk:ca_ k=true):mk7 k:=by
 have:k=1\/k=2\/k=4:=by simpa [ca_] using hk
 rcases this with rfl | rfl | rfl <;> exact ⟨DE_,DE_⟩
def pK_ {a k:Int} (ha:mk7 a) (hk:mk7 k):mk7 (fE_ a k):=by
 obtain ⟨x,rfl⟩:=fz_ ha;obtain ⟨y,rfl⟩:=fz_ hk;have:∀x y:Fin 8,0<=fE_ (x.val:Int) (y.val:Int)/\fE_ (x.val:Int) (y.val:Int)<=7:=by decide
 exact this x y
def e5_ {c:Cn} (hl:aW_ c) (i m:Int):aW_ (cl_ c i m).1:=by unfold cl_;by_cases h:(frR c i m).2=0;{rw [if_pos h];let⟨h1,h2,h3,_⟩:=m6_ h;have a:=m4_ (gW_ (hl i.toNat)) (t2_ h2);exact hl.upd (x:=((c i.toNat).1,orI (c i.toNat).2 m)) (.inr ⟨fun e=>by have e:(c i.toNat).1=0:=e;omega,a.1,a.2,.inl h3⟩) _};rw [if_neg h];exact dE_
def d4_ {c:Cn} (hl:aW_ c) (i m:Int):aW_ (a7_ c i m).1:=by unfold a7_;by_cases h:(frR c i m).2=0;{rw [if_pos h];let⟨h1,h2,h3,_⟩:=m6_ h;have a:=pK_ (gW_ (hl i.toNat)) (t2_ h2);exact hl.upd (x:=((c i.toNat).1,fE_ (c i.toNat).2 m)) (.inr ⟨fun e=>by have e:(c i.toNat).1=0:=e;omega,a.1,a.2,.inl h3⟩) _};rw [if_neg h];exact dE_
def f9_ {c:Cn} (hl:aW_ c) {i v:Int}:aW_ (aU_ c i v).1:=by unfold aU_;cases inB i with|true=>refine hl.upd ?_ _;by_cases hv:v=0;{exact .inl (by rw [hv])};exact .inr ⟨hv,Int.le_refl _,by show (0:Int)<=7;decide,.inr rfl⟩|false=>exact dE_
def eU_ (c:Cn) (pg:Int) (dirty writing:Bool):Cn:=
 let a:=if dirty then (cl_ c pg 1).1 else (a7_ c pg 1).1
 if writing then (cl_ a pg 2).1 else (a7_ a pg 2).1
def jr_ {a b:Int} (h:0<a) (e:a=b):0<b:=e ▸ h
def jG_ {c:Cn} {i:Int} (hi:inB i=true) (hm:ca_ m=true) (hv:0<(c i.toNat).1):(frR c i m).2=0:=by unfold frR;rw [if_pos hi,if_pos hm,if_neg O_]
def c7_ {c:Cn} {i:Int} (hi:inB i=true) (hm:ca_ m=true) (hv:0<(c i.toNat).1) (j:Nat):((cl_ c i m).1 j).1=(c j).1:=by unfold cl_;rw [if_pos (jG_ hi hm hv)];show (upd c i.toNat _ j).1=_;unfold upd;split;{rename_i h;rw [h]};rfl
def cb_ {c:Cn} {i:Int} (hi:inB i=true) (hm:ca_ m=true) (hv:0<(c i.toNat).1) (j:Nat):((a7_ c i m).1 j).1=(c j).1:=by unfold a7_;rw [if_pos (jG_ hi hm hv)];show (upd c i.toNat _ j).1=_;unfold upd;split;{rename_i h;rw [h]};rfl
def ow_ {c:Cn} {pg:Int} (hi:inB pg=true) (hv:0<(c pg.toNat).1) (d w:Bool) (j:Nat):((eU_ c pg d w) j).1=(c j).1:=by have a:ca_ 1=true:=rfl;have b:ca_ 2=true:=rfl;cases d <;> cases w;{exact (cb_ hi b (jr_ hv (cb_ hi a hv _).symm) j).trans (cb_ hi a hv j)};{exact (c7_ hi b (jr_ hv (cb_ hi a hv _).symm) j).trans (cb_ hi a hv j)};{exact (cb_ hi b (jr_ hv (c7_ hi a hv _).symm) j).trans (c7_ hi a hv j)};exact (c7_ hi b (jr_ hv (c7_ hi a hv _).symm) j).trans (c7_ hi a hv j)
def c6_ {c:Cn} {pg:Int} (hi:inB pg=true) (hv:0<(c pg.toNat).1) (d w:Bool) (p:Int):X_ (eU_ c pg d w) p=X_ c p:=by unfold X_;rw [ow_ hi hv]
end
end Go.Proofs.YtehfhnbpnaiogaaGreatDoor
