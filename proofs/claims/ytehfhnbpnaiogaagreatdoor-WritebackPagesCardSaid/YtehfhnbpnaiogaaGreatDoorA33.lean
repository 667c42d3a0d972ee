/-
  Lemmas and contracts for the laws of this seat, part 33; several texts joined by a program.
-/
import Derived.Test.YtehfhnbpnaiogaaGreatDoorA32
import Derived.Test.YtehfhnbpnaiogaaGreatDoorA00
import Derived.ChangeKeysEq
import Derived.Deep.AppendLies
import Derived.Deep.CutBlock
import Derived.Laws.BitsAllLaws
import Derived.Laws.Cover3
import Derived.Laws.IdiomStrings
import Derived.Laws.StructEq
import Derived.Outline
import Derived.OwnWalk
namespace Go.Proofs.YtehfhnbpnaiogaaGreatDoor
set_option linter.all false
set_option maxRecDepth 100000
set_option maxHeartbeats 16000000
open Go.RowKit Go.Proofs.Tryz IntKind
variable {C:Ck} {S:Nat->Prop} {a c d e f g:Value} {b q s:Int} {en:Ending} {n z:Nat} {o:Obj} {t:TypeId} {w w':World}
section
def vaB (q s b:Int):Bool:=decide (0<=q/\q<=65535/\0<=s/\s<=128/\0<=b/\b<=255)
def p1_ (h:vaB q s b=true):0<=q/\q<=65535/\0<=s/\s<=128/\0<=b/\b<=255:=by simpa [vaB] using h
def dI_:C_ 139 #[.agg #[I_ q,I_ s,I_ b]] w (aO_ (vaB q s b) w):=by go_enter func139,ntmps139;go_wp2;(all_goals go_ret);all_goals exact ⟨D_ (by rw [Bool.eq_iff_iff];simp [vaB];try omega),B_.alloc (lR_ _) _⟩
def hQ_ {f:Int}:C_ 141 #[I_ f] w fun e w'=>e = .returned (.bool (decide (0<=f/\f<8)))/\w=w':=by go_enter func141,ntmps141;go_wp2;(all_goals go_ret);all_goals exact ⟨D_ (by simp;try omega),rfl⟩
def by8 (n:Int):UInt8:=UInt8.ofNat n.toNat
def du_ {n:Int} (h0:0<=n) (h1:n<256):((by8 n).toNat:Int)=n:=by unfold by8;rw [UInt8.toNat_ofNat',Nat.mod_eq_of_lt O_];omega
def nbI (c f:Int):Int:=(255 - bits BinOp.xor IntKind.u8 c f) % 256
def nbU (c:UInt8) (f:Int):UInt8:=by8 (nbI c.toNat f)
def iy_ (c:UInt8) (f:Int):nbI c.toNat f=((nbU c f).toNat:Int):=(du_ (by unfold nbI;omega) (by unfold nbI;omega)).symm
abbrev hv (a b c d:UInt8):Value:= .agg #[.int .u8 a.toNat,.int .u8 b.toNat,.int .u8 c.toNat,.int .u8 d.toNat]
def sA_ (v:Value) (w:World) (e:Ending) (w':World):Prop:=e = .returned v/\s_ w w'
def rs_ (h:vaB q s b=true):C_ 142 #[.agg #[I_ q,I_ s,I_ b]] w (sA_ (hv (by8 (q / 256)) (by8 (q % 256)) (by8 s) (by8 b)) w):=by obtain ⟨h1,h2,h3,d,c,a⟩:=p1_ h;go_enter func142,ntmps142;go_wp2;refine bodyPost_ret (v:= .agg #[.int .u8 (q / 256),.int .u8 (q % 256),.int .u8 s,.int .u8 b]) (by simp [results,results142,go_sem]) rfl ⟨?_,(B_.alloc (lR_ _) _).alloc A_ _⟩;unfold hv;rw [du_ O_ O_,du_ O_ O_,du_ O_ O_,du_ O_ O_]
def kO_ {c0 c1 c2 c3:UInt8} {f:Int} (h1:0<=f) (h2:f<8):C_ 143 #[hv c0 c1 c2 c3,I_ f] w (sA_ (hv (nbU c0 f) (nbU c1 f) (nbU c2 f) (nbU c3 f)) w):=by
 have a:∀w,(Instr.index 198 (.agg #[.int .u8 c0.toNat,.int .u8 c1.toNat,.int .u8 c2.toNat,.int .u8 c3.toNat]) (I_ 0)).run prog w = .ok (.int .u8 c0.toNat) w:=fun _=>by kernel_rfl
 have d:∀w,(Instr.index 198 (.agg #[.int .u8 c0.toNat,.int .u8 c1.toNat,.int .u8 c2.toNat,.int .u8 c3.toNat]) (I_ 1)).run prog w = .ok (.int .u8 c1.toNat) w:=fun _=>by kernel_rfl
 have b:∀w,(Instr.index 198 (.agg #[.int .u8 c0.toNat,.int .u8 c1.toNat,.int .u8 c2.toNat,.int .u8 c3.toNat]) (I_ 2)).run prog w = .ok (.int .u8 c2.toNat) w:=fun _=>by kernel_rfl
 have c:∀w,(Instr.index 198 (.agg #[.int .u8 c0.toNat,.int .u8 c1.toNat,.int .u8 c2.toNat,.int .u8 c3.toNat]) (I_ 3)).run prog w = .ok (.int .u8 c3.toNat) w:=fun _=>by kernel_rfl
 unfold hv;go_enter func143,ntmps143;go_wp2;refine wp_loop_rounds 5 ?_;rw [rounds_succ];go_wp2;rw [rounds_succ];go_wp2;rw [rounds_succ];go_wp2;rw [rounds_succ];go_wp2;rw [rounds_succ];go_wp2;refine bodyPost_ret (v:= .agg #[.int .u8 (nbI c0.toNat f),.int .u8 (nbI c1.toNat f),.int .u8 (nbI c2.toNat f),.int .u8 (nbI c3.toNat f)]) (by simp [results,results143,go_sem,nbI]) rfl ⟨?_,(B_.alloc (lR_ _) _).alloc A_ _⟩;rw [iy_,iy_,iy_,iy_]
end
section
def sec (a b c d e f g h:UInt8):ByteArray:=⟨#[a,b,c,d,e,f,g,h]⟩
def kp_ (a b c d:UInt8) (f:Int):ByteArray:=sec a b c d (nbU a f) (nbU b f) (nbU c f) (nbU d f)
def cF_ (q s b f:Int):ByteArray:=if vaB q s b=true/\0<=f/\f<8 then kp_ (by8 (q / 256)) (by8 (q % 256)) (by8 s) (by8 b) f else ⟨#[]⟩
def c9_ (q s b f:Int):Int:=if vaB q s b=true then if 0<=f/\f<8 then 0 else 2 else 1
def sv_ (s:ByteArray) (n:Int) (w:World) (e:Ending) (w':World):Prop:=e = .returned (.tuple #[.string s,I_ n])/\s_ w w'
def gb_ {a b:ByteArray} {c d:Int} (h:a=b) (h':c=d):Ending.returned (.tuple #[.string a,I_ c]) = .returned (.tuple #[.string b,I_ d]):=by rw [h,h']
def hc4 (a b c d:UInt8):Array Value:=#[.int .u8 a.toNat,.int .u8 b.toNat,.int .u8 c.toNat,.int .u8 d.toNat]
def sw_ {a b c d:UInt8} {B:Nat} (h:w.heap[B]?=some (.cells (hc4 a b c d) t (0,0))) :
  (convert 77 9 (S_ (some ⟨B,0,none⟩) 4 4)).run prog w = .ok (.string ⟨#[a,b,c,d]⟩) w:=by refine run_convert_bytes_back (P:=prog) w 77 9 5 ⟨B,0,none⟩ 4 [a,b,c,d] underlying77 underlying5 underlying9 ?_;intro j f;have e:(⟨B,0,none⟩:Addr).add j=⟨B,j,none⟩:=(by unfold Addr.add;split;{rename_i h;subst h;rfl};simp);rw [e,a_ h];rcases (by simpa using f:j<4) with hj4;rcases (by omega:j=0\/j=1\/j=2\/j=3) with rfl | rfl | rfl | rfl <;> rfl
def lp_ (q s0 b f:Int) (w:World):C_ 78 #[.agg #[I_ q,I_ s0,I_ b],I_ f] w (sv_ (cF_ q s0 b f) (c9_ q s0 b f) w):=by by_cases a:vaB q s0 b=true;{by_cases hf:0<=f/\f<8;{have p:decide (0<=f/\f<8)=true:=(by simpa using hf);go_enter func78,ntmps78;go_upto_region 6 with (first|(go_at_call 139;(with_reducible refine CM (dI_) ?_);rintro e w1 ⟨rfl,j⟩;obtain ⟨hc,u,s1,s2,s3,s4,s5,s6,s7⟩:=oJ_ j)|(go_at_call 141;(with_reducible refine CM (hQ_) ?_);rintro e w2 ⟨rfl,rfl⟩)|(go_at_call 142;(with_reducible refine CM (rs_ a) ?_);rintro e w3 ⟨rfl,i⟩;unfold hv;obtain ⟨v,k,s31,s32,s33,s34,s35,s36,s37⟩:=oJ_ i));go_cut [6,7] (fun s t wx=>∃B C,s = P_ B/\t = P_ C/\At_ wx B (hc4 (by8 (q / 256)) (by8 (q % 256)) (by8 s0) (by8 b)) 198/\At_ wx C (hc4 (nbU (by8 (q / 256)) f) (nbU (by8 (q % 256)) f) (nbU (by8 s0) f) (nbU (by8 b) f)) 198/\s_ w wx);{go_wp2_with (go_at_call 143;(with_reducible refine CM (kO_ hf.1 hf.2) ?_);rintro e w4 ⟨rfl,g⟩;unfold hv;obtain ⟨hc4,o,s41,s42,s43,s44,s45,s46,s47⟩:=oJ_ g);go_meet;exact ⟨_,_,rfl,rfl,(Below.heap_alloc _ _ _ (s41 _ A_)).trans ((g.block _ A_).trans (heap_alloc_new _ _)),heap_alloc_new _ _,b_ (h_ (b_ (h_ (h_ (B_.alloc (lR_ _) _) j) i) _) g) _⟩};obtain ⟨B,C,rfl,rfl,l,m,r⟩:=hcut;have x:=fun n=>sw_ (w:=World.drewN _ n) l;have y:=fun n=>sw_ (w:=World.drewN _ n) m;have c:Hid (cF_ q s0 b f=kp_ (by8 (q / 256)) (by8 (q % 256)) (by8 s0) (by8 b) f/\c9_ q s0 b f=0):=(by show _/\_;simp [cF_,c9_,a,hf]);clear l m;go_wp2_with fail;go_quiet (fail);go_wp2;go_ret2;exact ⟨gb_ c.out.1.symm c.out.2.symm,below_drewN r _⟩};have p:decide (0<=f/\f<8)=false:=(by simpa using hf);have c:Hid (cF_ q s0 b f=⟨#[]⟩/\c9_ q s0 b f=2):=(by show _/\_;simp [cF_,c9_,a,hf]);clear hf;go_enter func78,ntmps78;go_wp2_with (first|(go_at_call 139;(with_reducible refine CM (dI_) ?_);rintro e w1 ⟨rfl,d⟩)|(go_at_call 141;(with_reducible refine CM (hQ_) ?_);rintro e w2 ⟨rfl,rfl⟩));go_ret2;exact ⟨gb_ c.out.1.symm c.out.2.symm,h_ (B_.alloc (lR_ _) _) d⟩};simp only[Bool.not_eq_true] at a;have c:Hid (cF_ q s0 b f=⟨#[]⟩/\c9_ q s0 b f=1):=(by show _/\_;simp [cF_,c9_,a]);go_enter func78,ntmps78;go_wp2_with (go_at_call 139;(with_reducible refine CM (dI_) ?_);rintro e w1 ⟨rfl,d⟩);go_ret2;exact ⟨gb_ c.out.1.symm c.out.2.symm,h_ (B_.alloc (lR_ _) _) d⟩
end
section
def vs (l:List UInt8):List Value:=l.map fun b=> .int .u8 b.toNat
end
section
def o7_ {P:Program} (h:(P.info? t).map (·.size)=some n):∃j,P.info? t=some j/\j.size=n:=by cases hj:P.info? t with|none=>rw [hj] at h;cases h|some j=>rw [hj] at h;exact ⟨j,rfl,by simpa using h⟩
def nz_ (xs:Array Value) (i:Nat) (n:Int) (w:World) (h:xs[i]?=some (.int .u8 n)):(part 5 xs i).run prog w = .ok (.int .u8 n) w:=by simp [part,isAgg,run_underlying underlying5,go_sem,h]
def hP_ (d:Nat) {xs ys:Array Value} {is:List Nat} (w:World) (i:Nat) (x y:Int) (hx:xs[i]?=some (.int .u8 x)) (hy:ys[i]?=some (.int .u8 y)) :
  (Op.eqItems (d+1) 5 1 xs ys (i :: is)).run prog w=if x == y then (Op.eqItems (d+1) 5 1 xs ys is).run prog w else .ok false w:=by have h1:=nz_ xs i x w hx;have h2:=nz_ ys i y w hy;have h3:=run_equalIn_int w d 5 .u8 .u8 x y underlying5;simp only[Op.eqItems,Nat.mul_one,Sem.run_ite,Sem.run_bind,h1,h2,h3,Result.andThen_ok];by_cases h:x=y;{subst h;simp};simp [h,Sem.run_pure]
def qB_ (a b c d e g h i:UInt8) (w:World) :
  (binOp .neq 198 (hv a b c d) (hv e g h i)).run prog w = .ok (.bool (!(a == e&&b == g&&c == h&&d == i))) w:=by obtain ⟨k,j,f⟩:=o7_ (P:=prog) (t:=5) (n:=1) p_;have hc:prog.cellsOf 5=1:=(by kernel_rfl);rw [run_neq_struct,show (10000:Nat)=9999+1 from rfl,run_equalIn_array w 9999 _ _ underlying198 j,hc];rw [show List.range 4=[0,1,2,3] from rfl,show (9999:Nat)=9998+1 from rfl];rw [hP_ 9998 w 0 a.toNat e.toNat rfl rfl,hP_ 9998 w 1 b.toNat g.toNat rfl rfl,hP_ 9998 w 2 c.toNat h.toNat rfl rfl,hP_ 9998 w 3 d.toNat i.toNat rfl rfl];have q:∀x y:UInt8,((x.toNat:Int) == (y.toNat:Int))=(x == y):=fun x y=>(by rw [Bool.eq_iff_iff];simp only[beq_iff_eq];constructor;{intro h;exact UInt8.toNat_inj.1 O_};rintro rfl;rfl);rw [q,q,q,q];cases a == e <;> cases b == g <;> cases c == h <;> cases d == i <;> simp [Op.eqItems,Sem.run_pure]
def hy_ {a b:Nat} (ha:a<9223372036854775808) (hb:b<9223372036854775808) :
  bits .or .i64 (a:Int) (b:Int)=((a ||| b:Nat):Int):=by have c:a ||| b<2 ^ 63:=Nat.or_lt_two_pow O_ O_;have h1:(BitVec.ofInt 64 (a:Int)).toNat=a:=(by rw [BitVec.ofInt_natCast,BitVec.toNat_ofNat];exact Nat.mod_eq_of_lt O_);have h2:(BitVec.ofInt 64 (b:Int)).toNat=b:=(by rw [BitVec.ofInt_natCast,BitVec.toNat_ofNat];exact Nat.mod_eq_of_lt O_);show i64.wrap ((BitVec.ofInt 64 (a:Int) ||| BitVec.ofInt 64 (b:Int)).toNat:Int)=_;rw [BitVec.toNat_or,h1,h2];exact IntWalk.i64_in _ O_
def pC_ (a b:UInt8):bits .or .i64 ((a.toNat:Int)*256) (b.toNat:Int)=a.toNat*256+b.toNat:=by have ha:=a.toNat_lt;have hb:=b.toNat_lt;have e:((a.toNat:Int)*256)=((a.toNat*256:Nat):Int):=O_;rw [e,hy_ O_ O_,nat_join 8 _ _ O_ O_];omega
def cQ_ (a:UInt8):(a.toNat:Int)<=255:=by have:=a.toNat_lt;omega
def ej_ {i:Nat}:w.drew.heap[i]?=w.heap[i]?:=rfl
def aE_ (h:w.heap.size=n):(w.alloc o).heap[n]?=some o:=by subst h;exact heap_alloc_new w o
def a6_ (h:n<w):(w.alloc o).heap[n]?=w.heap[n]?:=Below.heap_alloc w o n h
def ok8 (a b c d e g h i:UInt8) (f:Int):Bool:=(nbU a f == e&&nbU b f == g&&nbU c f == h&&nbU d f == i)&&decide ((c.toNat:Int)<=128)
def l0_ (ok:Bool) (q s b:Int) (w:World) (e:Ending) (w':World):Prop:=e = .returned (.tuple #[.agg (if ok=true then #[I_ q,I_ s,I_ b] else #[I_ 0,I_ 0,I_ 0]),.bool ok])/\s_ w w'
end
section
def hY_ (s:ByteArray) (k:Nat):Int:=(s.data.getD k 0).toNat
def cB_ (s:ByteArray) (f:Int):Bool:=
 match s.data.toList with
 | [a,b,c,d,e,g,h,i]=>decide (0<=f/\f<8)&&ok8 a b c d e g h i f
 | _=>false
def eM_ (s:ByteArray) (f:Int):Int:=if cB_ s f=true then hY_ s 0*256+hY_ s 1 else 0
def hB_ (s:ByteArray) (f:Int):Int:=if cB_ s f=true then hY_ s 2 else 0
def j7_ (s:ByteArray) (f:Int):Int:=if cB_ s f=true then hY_ s 3 else 0
def kM_ (ok:Bool) (q s b:Int) (w:World) (e:Ending) (w':World):Prop:=e = .returned (.tuple #[.agg #[I_ q,I_ s,I_ b],.bool ok])/\s_ w w'
abbrev p0_ (s:ByteArray) (f:Int) (w:World):Ending->World->Prop:=kM_ (cB_ s f) (eM_ s f) (hB_ s f) (j7_ s f) w
def nB_ (s:ByteArray) (h:s.size=8):∃a b c d e g h i,s=sec a b c d e g h i:=by obtain ⟨⟨l⟩⟩:=s;match l,h with|[a,b,c,d,e,g,h,i],_=>exact ⟨a,b,c,d,e,g,h,i,rfl⟩
def ou_ (s:ByteArray) (f:Int) (h:¬(s.size=8/\0<=f/\f<8)):cB_ s f=false:=by obtain ⟨⟨l⟩⟩:=s;unfold cB_;split;{rename_i a b c d e g h' i heq;have hl:l=[a,b,c,d,e,g,h',i]:=heq;subst hl;have:¬(0<=f/\f<8):=fun hf=>h ⟨rfl,hf⟩;simp [this]};rfl
def ny_ (a b c d e g h i:UInt8) (f:Int) (h1:0<=f) (h2:f<8) (H:l0_ (ok8 a b c d e g h i f) (((a.toNat:Nat):Int)*256+b.toNat) c.toNat d.toNat w en w'):p0_ (sec a b c d e g h i) f w en w':=by have e1:cB_ (sec a b c d e g h i) f=ok8 a b c d e g h i f:=(by show (decide (0<=f/\f<8)&&ok8 a b c d e g h i f)=_;simp [h1,h2]);obtain ⟨j,k⟩:=H;refine ⟨?_,k⟩;rw [j];unfold eM_ hB_ j7_;rw [e1];cases ok8 a b c d e g h i f <;> rfl
def lz_ (s:ByteArray) (f:Int) (h:¬(s.size=8/\0<=f/\f<8)) (H:kM_ false 0 0 0 w en w'):p0_ s f w en w':=by have e1:=ou_ s f h;unfold p0_ eM_ hB_ j7_;rw [e1];exact H
def mu_ (s:ByteArray) (f:Int) (w:World) (h:¬(s.size=8/\0<=f/\f<8)) (hm:s.size<=maxLen):C_ 148 #[.string s,I_ f] w (kM_ false 0 0 0 w):=by unfold maxLen at hm;by_cases j:s.size=8;{have l:decide (0<=f/\f<8)=false:=(by simp;omega);have H:=H_ h;clear h;obtain ⟨a,b,c,d,e,g,h,i,rfl⟩:=nB_ s j;clear j H;unfold sec;go_enter func148,ntmps148;go_wp2_with (go_at_call 141;(with_reducible refine CM (hQ_) ?_);rintro e w2 ⟨rfl,rfl⟩);exact bodyPost_ret (v:= .tuple #[.agg #[I_ 0,I_ 0,I_ 0],.bool false]) (by simp [results,results148,go_sem]) rfl ⟨rfl,B_.alloc (lR_ _) _⟩};have k:¬(s.size:Int)=8:=O_;go_enter func148,ntmps148;go_wp2_with fail;exact bodyPost_ret (v:= .tuple #[.agg #[I_ 0,I_ 0,I_ 0],.bool false]) (by simp [results,results148,go_sem]) rfl ⟨rfl,B_.alloc (lR_ _) _⟩
def nxE (q s b:Int):Int:=if vaB q s b=true then if q=65535 then 3 else 0 else 1
def ss_ (q s b n:Int) (w:World) (e:Ending) (w':World):Prop:=e = .returned (.tuple #[.agg #[I_ q,I_ s,I_ b],I_ n])/\s_ w w'
abbrev mq_ (q s b:Int) (w:World):Ending->World->Prop:=ss_ (if nxE q s b=0 then q+1 else 0) (if nxE q s b=0 then s else 0) (if nxE q s b=0 then b else 0) (nxE q s b) w
def m7_ (q s b:Int) (w:World):C_ 74 #[.agg #[I_ q,I_ s,I_ b]] w (mq_ q s b w):=by by_cases d:vaB q s b=true;{obtain ⟨h1,h2,h3,x,u,y⟩:=p1_ d;by_cases t:q=65535;{subst t;have n:Hid (nxE 65535 s b=3):=(by show _=_;simp [nxE,d]);go_enter func74,ntmps74;go_wp2_with (go_at_call 139;(with_reducible refine CM (dI_) ?_);rintro e w1 ⟨rfl,k⟩;have c:=(k.block (w) (by simp;omega)).trans ((a6_ A_).trans (aE_ rfl));have a:=(k.block (w+1) A_).trans (aE_ A_);have f:=a_ c 0;have i:=a_ c 1;have m:=a_ c 2;have n0:=t_ c 0;have j:=a_ a 0;have l:=a_ a 1;have g:=a_ a 2;have o:=t_ a 0;have p:=t_ a 1;have r:=t_ a 2;simp only[zl] at f i m j l g);exact bodyPost_ret (v:= .tuple #[.agg #[I_ 0,I_ 0,I_ 0],I_ 3]) (by simp [results,results74,go_sem,f,i,m,j,l,g]) rfl ⟨by rw [n.out];rfl,by (repeat (with_reducible first | assumption | exact bR_ _ _ | refine b_ ?_ _ | apply Below.drew | refine below_drewN ?_ _ | (apply aI_;assumption) | (refine bS_ ?_ (lR_ _) _) | (refine bS_ ?_ (by first | omega | (simp;done) | (go_simp;done)) _)))⟩};have n:Hid (nxE q s b=0):=(by show _=_;simp [nxE,d,t]);go_enter func74,ntmps74;go_wp2_with (go_at_call 139;(with_reducible refine CM (dI_) ?_);rintro e w1 ⟨rfl,k⟩;have c:=(k.block (w) (by simp;omega)).trans ((a6_ A_).trans (aE_ rfl));have a:=(k.block (w+1) A_).trans (aE_ A_);have f:=a_ c 0;have i:=a_ c 1;have m:=a_ c 2;have n0:=t_ c 0;have j:=a_ a 0;have l:=a_ a 1;have g:=a_ a 2;have o:=t_ a 0;have p:=t_ a 1;have r:=t_ a 2;simp only[zl] at f i m j l g);exact bodyPost_ret (v:= .tuple #[.agg #[I_ (q+1),I_ s,I_ b],I_ 0]) (by simp [results,results74,go_sem,f,i,m,j,l,g]) rfl ⟨by rw [n.out];rfl,by (repeat (with_reducible first | assumption | exact bR_ _ _ | refine b_ ?_ _ | apply Below.drew | refine below_drewN ?_ _ | (apply aI_;assumption) | (refine bS_ ?_ (lR_ _) _) | (refine bS_ ?_ (by first | omega | (simp;done) | (go_simp;done)) _)))⟩};simp only[Bool.not_eq_true] at d;have n:Hid (nxE q s b=1):=(by show _=_;simp [nxE,d]);go_enter func74,ntmps74;go_wp2_with (go_at_call 139;(with_reducible refine CM (dI_) ?_);rintro e w1 ⟨rfl,k⟩;have c:=(k.block (w) (by simp;omega)).trans ((a6_ A_).trans (aE_ rfl));have a:=(k.block (w+1) A_).trans (aE_ A_);have f:=a_ c 0;have i:=a_ c 1;have m:=a_ c 2;have n0:=t_ c 0;have j:=a_ a 0;have l:=a_ a 1;have g:=a_ a 2;have o:=t_ a 0;have p:=t_ a 1;have r:=t_ a 2;simp only[zl] at f i m j l g);exact bodyPost_ret (v:= .tuple #[.agg #[I_ 0,I_ 0,I_ 0],I_ 1]) (by simp [results,results74,go_sem,f,i,m,j,l,g]) rfl ⟨by rw [n.out];rfl,by (repeat (with_reducible first | assumption | exact bR_ _ _ | refine b_ ?_ _ | apply Below.drew | refine below_drewN ?_ _ | (apply aI_;assumption) | (refine bS_ ?_ (lR_ _) _) | (refine bS_ ?_ (by first | omega | (simp;done) | (go_simp;done)) _)))⟩
end
section
structure CBx (V:World) (b s n:Nat) (ty:TypeId) (cs:Array Value) (γ:Option Nat) (d:Nat->Bool) (w:World):Prop where
 bl:s_ V w
 no:d b=false->γ=none
 so:d b=true->γ≠none
 at_:∀z,γ=some z->V.heap.size<=z/\∃c0,w.heap[z]?=some (.cells c0 ty (0,0))/\c0.size=n/\(d s=true->c0=cs)
section
variable {V w w':World} {b s n i:Nat} {ty:TypeId} {cs:Array Value} {γ:Option Nat} {d:Nat->Bool}
def CBx.start (V:World) (b s n:Nat) (ty:TypeId) (cs:Array Value):CBx V b s n ty cs none (fun _=>false) V:=⟨bR_ _ _,fun _=>rfl,(fun h=>by cases h),(fun z h=>by cases h)⟩
def CBx.drew (h:CBx V b s n ty cs γ d w):CBx V b s n ty cs γ d {w with drawn:=w.drawn+1}:=⟨h.bl.drew,h.no,h.so,h.at_⟩
def CBx.more (h:CBx V b s n ty cs γ d w) (hb:i≠b) (hs:i≠s) (hw:s_ w w'):CBx V b s n ty cs γ (ac_ d i) w':=by
 have a:ac_ d i b=d b:=by unfold ac_;rw [beq_eq_false_iff_ne.2 (Ne.symm hb),Bool.or_false]
 have j:ac_ d i s=d s:=by unfold ac_;rw [beq_eq_false_iff_ne.2 (Ne.symm hs),Bool.or_false]
 refine ⟨h_ h.bl hw,by rw [a];exact h.no,by rw [a];exact h.so,fun z c=>?_⟩;obtain ⟨l,c0,k,g,f⟩:=h.at_ z c;exact ⟨l,c0,k_ k hw,g,by rw [j];exact f⟩
def CBx.box (h:CBx V b s n ty cs γ d w) (hd:d b=false) (hs:d s=false) (hbs:s≠b) (c0:Array Value) (hc:c0.size=n):CBx V b s n ty cs (some w.heap.size) (ac_ d b) (w.alloc (.cells c0 ty)):=by have c:ac_ d b s=d s:=(by unfold ac_;rw [beq_eq_false_iff_ne.2 hbs,Bool.or_false]);have f:ac_ d b b=true:=(by unfold ac_;simp);refine ⟨b_ h.bl _,(by rw [f];intro h;cases h),fun _=>by simp,fun z a=>?_⟩;cases a;exact ⟨h.bl.size,c0,m_ w (.cells c0 ty) _ rfl,hc,by rw [c,hs];intro h;cases h⟩
def CBx.fill (h:CBx V b s n ty cs (some z) d w) (hbs:s≠b) (hc:cs.size=n):CBx V b s n ty cs (some z) (ac_ d s) (w.setRow z cs):=by have g:ac_ d s b=d b:=(by unfold ac_;rw [beq_eq_false_iff_ne.2 (Ne.symm hbs),Bool.or_false]);obtain ⟨a,c0,f,j,i⟩:=h.at_ z rfl;refine ⟨f_ h.bl a _,fun _=>?_,fun _=>by simp,fun k c=>?_⟩;{rename_i hh;rw [g] at hh;exact h.no hh};cases c;exact ⟨a,_,setRow_heap _ _ _ _ _ _ f,hc,fun _=>rfl⟩
end
structure STx (V:World) (S:Nat->Prop) (l:List (Nat × Nat × TypeId × Array Value)) (n:Nat) (W:World) (d:Nat->Bool) (w:World):Prop where
 kp:r_ S V w
 bl:Below n W w
 rows:∀k z t cs,(k,z,t,cs) ∈ l->∃c0,w.heap[z]?=some (.cells c0 t (0,0))/\c0.size=cs.size/\(d k=true->c0=cs)
section
variable {V W w:World} {S:Nat->Prop} {l:List (Nat × Nat × TypeId × Array Value)} {n i:Nat} {d:Nat->Bool}
def STx.start (hb:Below n W V) (h:∀k z t cs,(k,z,t,cs) ∈ l->∃c0,V.heap[z]?=some (.cells c0 t (0,0))/\c0.size=cs.size):STx V S l n W (fun _=>false) V:=
 ⟨r_.refl V,hb,fun k z t cs hm=>(by obtain ⟨c0,h1,h2⟩:=h k z t cs hm;exact ⟨c0,h1,h2,fun h=>by cases h⟩)⟩
def STx.drew (h:STx V S l n W d w):STx V S l n W d {w with drawn:=w.drawn+1}:=⟨h.kp,h.bl.drew,h.rows⟩
def STx.more (h:STx V S l n W d w) (hi:(l.all fun x=>decide (x.1≠i))=true):STx V S l n W (ac_ d i) w:=by refine ⟨h.kp,h.bl,fun k z t cs a=>?_⟩;obtain ⟨c0,g,f,b⟩:=h.rows k z t cs a;have c:k≠i:=(by simpa using List.all_eq_true.1 hi _ a);refine ⟨c0,g,f,fun e=>b ?_⟩;unfold ac_ at e;rwa [beq_eq_false_iff_ne.2 c,Bool.or_false] at e
def STx.fill (h:STx V S l n W d w) {k:Nat} {cs:Array Value} (hm:(k,z,t,cs) ∈ l) (hn:n<=z) (hS:¬S z) (hu:∀x ∈ l,x=(k,z,t,cs)\/(x.1≠k/\x.2.1≠z)):STx V S l n W (ac_ d k) (w.setRow z cs):=by refine ⟨h.kp.trans (r_.of_setRow _ _ _ (fun c=>hS c)),f_ h.bl hn _,fun m i j cs' a=>?_⟩;obtain ⟨c0,b,g,f⟩:=h.rows _ _ _ _ a;rcases hu _ a with e | ⟨e1,e2⟩;{cases e;exact ⟨_,setRow_heap _ _ _ _ _ _ b,rfl,fun _=>rfl⟩};refine ⟨c0,(setRow_other w z i cs e2).trans b,g,fun e=>f ?_⟩;unfold ac_ at e;rwa [beq_eq_false_iff_ne.2 e1,Bool.or_false] at e
end
def mw_ (y:Fl) (size:Int):Bool:=!(y.sseq == y.seq&&(y.ssize == size&&y.sblocks == y.blocks))
def mj_ (j:Nat) (y:Fl) (sz:Int) {b:Value} (h:w_ w S a b c d e f g C) (hj:C.files[j]?=some y) :
  C_ 24 #[ckV a b c d e f g,I_ j,I_ sz] w (aO_ (mw_ y sz) w):=by have P:=g_l hj;have k:=fun w' (hb:s_ w w')=>dm_ j (h.step hb);rw [show (decide (0<=(j:Int))&&decide ((j:Int)<(C.files.length:Int)))=true by simp;omega] at k;obtain ⟨A1,m,rfl,q1,q2⟩:=h.files.form;obtain ⟨z,M,c2,rfl⟩:=h.frames.cap;obtain ⟨x,K,I,v,u,A,F,G,H,s,N,D,B,E,L,rfl,rfl,rfl,rfl,rfl⟩:=w_.caps5 h;obtain ⟨J,of,kt,KB,kc,rfl,r,k1,Q,Y,W,q⟩:=FlA.cells h.files hj;have j2:(j:Int)<C.files.length:=O_;have j0:(0:Int)<=(j:Int):=O_;have HX:=H_ (i_ w (.cells (z_ (some ⟨J,of,none⟩) C.files.length m z M c2 x K I v u A F G H s N D B E L) 30));have t:=H_ (b_ (bR_ (w) w) (.cells (z_ (some ⟨J,of,none⟩) C.files.length m z M c2 x K I v u A F G H s N D B E L) 30));have HC:=H_ (show mw_ y sz=!(y.sseq == y.seq&&(y.ssize == sz&&y.sblocks == y.blocks)) from rfl);clear h hj k1 Q Y W q1 q2;go_enter func24,ntmps24;go_upto_region 3 with (go_at_call 73;(with_reducible refine CM (k _ t.out) ?_);rintro e w1 ⟨rfl,i⟩);have l:=blh t i;have o:=bkh HX i;have x0:=cs1 o;obtain ⟨Z,z1,U,z3,R,z5,z6,z7,z8,X,za,zb,zc,zd,O⟩:=zc (l.block _ r) q;clear k i;go_upto_region 4 with fail;generalize hW9:w1.alloc _=V;have n:=nah hW9;have p:=lah hW9 l;clear hW9;have t0:=a_ n 7;have t1:=a_ n 10;have t2:=a_ n 11;have t3:=a_ n 12;have t4:=a_ n 14;simp only[zl] at t0 t1 t2 t3 t4;clear Z z1 U z3 R z5 z6 z7 z8 X za zb zc zd O x0;go_wp2;all_goals go_ret;refine ⟨?_,p⟩;rw [HC.out];first|(rw [show (!(y.sseq == y.seq&&(y.ssize == sz&&y.sblocks == y.blocks)))=true by simp;omega];rfl)|(rw [show (!(y.sseq == y.seq&&(y.ssize == sz&&y.sblocks == y.blocks)))=false by simp;omega];rfl)
def mr_ (n sz:Int) {b:Value} (h:w_ w S a b c d e f g C) (hn:¬(0<=n/\n<(C.files.length:Int))) :
  C_ 24 #[ckV a b c d e f g,I_ n,I_ sz] w (aO_ false w):=by have i:=fun w' (hb:s_ w w')=>dm_ n (h.step hb);rw [show (decide (0<=n)&&decide (n<(C.files.length:Int)))=false by simp;omega] at i;obtain ⟨B,A,c1,q,F,c2,p,D,z,o,m,r,v,x,y,l,G,t,s,u,E,rfl,rfl,rfl,rfl,rfl,rfl,rfl⟩:=w_.caps h;have k:=H_ (fun X=>b_ (bR_ (w) w) X);clear h hn;go_enter func24,ntmps24;go_wp2_with (go_at_call 73;(with_reducible refine CM (i _ (k.out _)) ?_);rintro e w1 ⟨rfl,j⟩);go_ret;exact ⟨rfl,h_ (k _) j⟩
def l8_ (q s b f:Int) {Bd Bi:Nat} (h0:At_ w Bd #[I_ q,I_ s,I_ b] 62) (h1:At_ w Bi #[I_ f] 3) :
  C_ 77 #[P_ Bd,P_ Bi] w (dB_ (.string (cF_ q s b f)) w):=by have i:=a_ h0 0;have g:=a_ h0 1;have d:=a_ h0 2;have j:=a_ h1 0;simp only[zl] at i g d j;have c:=fun w'=>lp_ q s b f w';clear h0 h1;go_enter func77,ntmps77;go_wp2_with (go_at_call 78;(with_reducible refine CM (c _) ?_);rintro e w1 ⟨rfl,a⟩);go_ret;exact ⟨rfl,a⟩
end
end Go.Proofs.YtehfhnbpnaiogaaGreatDoor
