/-
  Lemmas and contracts for the laws of this seat, part 20; several texts joined by a program.
-/
import Derived.Test.YtehfhnbpnaiogaaGreatDoorD19
import Derived.Test.YtehfhnbpnaiogaaGreatDoorD00
import Derived.BigRegion
import Derived.ChangeKeysEq
import Derived.Deep.AppendLies
import Derived.Deep.CutBlock
import Derived.Laws.BitsAllLaws
import Derived.Laws.Cover3
import Derived.Laws.IdiomStrings
import Derived.Laws.StructEq
import Derived.Outline
import Derived.OwnWalk
namespace Go.Proofs.YtehfhnbpnaiogaaGreatDoor
set_option linter.unusedVariables false
set_option linter.unusedSimpArgs false
set_option maxRecDepth 100000
set_option maxHeartbeats 16000000
open Go.RowKit Go.Proofs.Tryz IntKind
variable {C:Ck} {L:List Fl} {P:Bool->Bool->World->Prop} {S:Nat->Prop} {c e f:Value} {cs:Array Value} {d:Nat->Bool} {en:Ending} {g j n z:Nat} {l:List (Nat × Obj)} {o:Obj} {q s:Int} {w w' wx:World} {y:Fl}
section
def vaB (q s b:Int):Bool:=decide (0<=q/\q<=65535/\0<=s/\s<=128/\0<=b/\b<=255)
theorem h0_ {b:Int} (h:vaB q s b=true):0<=q/\q<=65535/\0<=s/\s<=128/\0<=b/\b<=255:=by simpa [vaB] using h
theorem iT {b:Int}:C_ 139 #[.agg #[I_ q,I_ s,I_ b]] w (cG (vaB q s b) w):=by
 go_enter func139,ntmps139;go_wp2
 all_goals go_ret
 all_goals exact ⟨F_ (by rw [Bool.eq_iff_iff];simp [vaB];try omega),B_.alloc (bE _) _⟩
theorem sQ {f:Int}:C_ 141 #[I_ f] w fun e w'=>e = .returned (.bool (decide (0<=f/\f<8)))/\w=w':=by
 go_enter func141,ntmps141;go_wp2
 all_goals go_ret
 all_goals exact ⟨F_ (by simp;try omega),rfl⟩
def tI (n:Int):UInt8:=UInt8.ofNat n.toNat
theorem pH {n:Int} (h0:0<=n) (h1:n<256):((tI n).toNat:Int)=n:=by
 unfold tI;rw [UInt8.toNat_ofNat',Nat.mod_eq_of_lt O_];omega
def nbI (c f:Int):Int:=(255 - bits BinOp.xor IntKind.u8 c f) % 256
def pO (c:UInt8) (f:Int):UInt8:=tI (nbI c.toNat f)
theorem xN (c:UInt8) (f:Int):nbI c.toNat f=((pO c f).toNat:Int):=(pH (by unfold nbI;omega) (by unfold nbI;omega)).symm
abbrev hv (a b c d:UInt8):Value:= .agg #[.int .u8 a.toNat,.int .u8 b.toNat,.int .u8 c.toNat,.int .u8 d.toNat]
def gG_ (v:Value) (w:World) (e:Ending) (w':World):Prop:=e = .returned v/\s_ w w'
theorem fX_ {b:Int} (h:vaB q s b=true):C_ 142 #[.agg #[I_ q,I_ s,I_ b]] w (gG_ (hv (tI (q / 256)) (tI (q % 256)) (tI s) (tI b)) w):=by
 obtain ⟨h1,h2,h3,a,c,d⟩:=h0_ h;go_enter func142,ntmps142;go_wp2;refine bodyPost_ret (v:= .agg #[.int .u8 (q / 256),.int .u8 (q % 256),.int .u8 s,.int .u8 b]) (by simp [results,results142,go_sem]) rfl ⟨?_,(B_.alloc (bE _) _).alloc A_ _⟩;unfold hv;rw [pH O_ O_,pH O_ O_,pH O_ O_,pH O_ O_]
theorem an_ {c0 c1 c2 c3:UInt8} {f:Int} (h1:0<=f) (h2:f<8):C_ 143 #[hv c0 c1 c2 c3,I_ f] w (gG_ (hv (pO c0 f) (pO c1 f) (pO c2 f) (pO c3 f)) w):=by
 have a:∀w,(Instr.index 198 (.agg #[.int .u8 c0.toNat,.int .u8 c1.toNat,.int .u8 c2.toNat,.int .u8 c3.toNat]) (I_ 0)).run prog w = .ok (.int .u8 c0.toNat) w:=fun _=>by kernel_rfl
 have b:∀w,(Instr.index 198 (.agg #[.int .u8 c0.toNat,.int .u8 c1.toNat,.int .u8 c2.toNat,.int .u8 c3.toNat]) (I_ 1)).run prog w = .ok (.int .u8 c1.toNat) w:=fun _=>by kernel_rfl
 have c:∀w,(Instr.index 198 (.agg #[.int .u8 c0.toNat,.int .u8 c1.toNat,.int .u8 c2.toNat,.int .u8 c3.toNat]) (I_ 2)).run prog w = .ok (.int .u8 c2.toNat) w:=fun _=>by kernel_rfl
 have d:∀w,(Instr.index 198 (.agg #[.int .u8 c0.toNat,.int .u8 c1.toNat,.int .u8 c2.toNat,.int .u8 c3.toNat]) (I_ 3)).run prog w = .ok (.int .u8 c3.toNat) w:=fun _=>by kernel_rfl
 unfold hv;go_enter func143,ntmps143;go_wp2;refine wp_loop_rounds 5 ?_;rw [rounds_succ];go_wp2;rw [rounds_succ];go_wp2;rw [rounds_succ];go_wp2;rw [rounds_succ];go_wp2;rw [rounds_succ];go_wp2;refine bodyPost_ret (v:= .agg #[.int .u8 (nbI c0.toNat f),.int .u8 (nbI c1.toNat f),.int .u8 (nbI c2.toNat f),.int .u8 (nbI c3.toNat f)]) (by simp [results,results143,go_sem,nbI]) rfl ⟨?_,(B_.alloc (bE _) _).alloc A_ _⟩;rw [xN,xN,xN,xN]
end
section
def eB (a b c d e f g h:UInt8):ByteArray:=⟨#[a,b,c,d,e,f,g,h]⟩
def jh_ (a b c d:UInt8) (f:Int):ByteArray:=eB a b c d (pO a f) (pO b f) (pO c f) (pO d f)
def nM (q s b f:Int):ByteArray:=if vaB q s b=true/\0<=f/\f<8 then jh_ (tI (q / 256)) (tI (q % 256)) (tI s) (tI b) f else ⟨#[]⟩
def uX (q s b f:Int):Int:=if vaB q s b=true then if 0<=f/\f<8 then 0 else 2 else 1
def iH_ (s:ByteArray) (n:Int) (w:World) (e:Ending) (w':World):Prop:=e = .returned (.tuple #[.string s,I_ n])/\s_ w w'
theorem bc_ {a b:ByteArray} {c d:Int} (h:a=b) (h':c=d):Ending.returned (.tuple #[.string a,I_ c]) = .returned (.tuple #[.string b,I_ d]):=by rw [h,h']
def eJ (a b c d:UInt8):Array Value:=#[.int .u8 a.toNat,.int .u8 b.toNat,.int .u8 c.toNat,.int .u8 d.toNat]
theorem gY_ (a b c d:UInt8) (B:Nat) (w:World) (t:TypeId) (h:w.heap[B]?=some (.cells (eJ a b c d) t (0,0))) :
  (convert 77 9 (S_ (some ⟨B,0,none⟩) 4 4)).run prog w = .ok (.string ⟨#[a,b,c,d]⟩) w:=by
 refine run_convert_bytes_back (P:=prog) w 77 9 5 ⟨B,0,none⟩ 4 [a,b,c,d] underlying77 underlying5 underlying9 ?_;intro j f;have e:(⟨B,0,none⟩:Addr).add j=⟨B,j,none⟩:=by
  unfold Addr.add
  split
  ·rename_i h;subst h;rfl
  ·simp
 rw [e,b_ h]
 rcases (by simpa using f:j<4) with hj4
 rcases (by omega:j=0\/j=1\/j=2\/j=3) with rfl | rfl | rfl | rfl <;> rfl
theorem zE (q s0 b f:Int) (w:World):C_ 78 #[.agg #[I_ q,I_ s0,I_ b],I_ f] w (iH_ (nM q s0 b f) (uX q s0 b f) w):=by
 by_cases a:vaB q s0 b=true
 ·by_cases hf:0<=f/\f<8
  ·have u:decide (0<=f/\f<8)=true:=by simpa using hf
   go_enter func78,ntmps78
   go_upto_region 6 with (first
     | (go_at_call 139;(with_reducible refine CM (iT) ?_);rintro e w1 ⟨rfl,l⟩;obtain ⟨hc,v,s1,s2,s3,s4,s5,s6,s7⟩:=hz_ l)
     | (go_at_call 141;(with_reducible refine CM (sQ) ?_);rintro e w2 ⟨rfl,rfl⟩)
     | (go_at_call 142;(with_reducible refine CM (fX_ a) ?_);rintro e w3 ⟨rfl,i⟩;unfold hv;obtain ⟨r,m,s31,s32,s33,s34,s35,s36,s37⟩:=hz_ i))
   go_cut [6,7] (fun s t wx=>∃B C,s = P_ B/\t = P_ C/\bA wx B (eJ (tI (q / 256)) (tI (q % 256)) (tI s0) (tI b)) 198/\bA wx C (eJ (pO (tI (q / 256)) f) (pO (tI (q % 256)) f) (pO (tI s0) f) (pO (tI b) f)) 198/\s_ w wx)
   case first=>
    go_wp2_with (go_at_call 143;(with_reducible refine CM (an_ hf.1 hf.2) ?_);rintro e w4 ⟨rfl,g⟩;unfold hv;obtain ⟨eJ,o,s41,s42,s43,s44,s45,s46,s47⟩:=hz_ g)
    go_meet
    case rel=>exact ⟨_,_,rfl,rfl,(Below.heap_alloc _ _ _ (s41 _ A_)).trans ((g.block _ A_).trans (heap_alloc_new _ _)),heap_alloc_new _ _,a_ (e_ (a_ (e_ (e_ (B_.alloc (bE _) _) l) i) _) g) _⟩
   case rest=>
    obtain ⟨B,C,rfl,rfl,j,k,p⟩:=hcut;have x:=fun n=>gY_ _ _ _ _ B (World.drewN _ n) _ j;have y:=fun n=>gY_ _ _ _ _ C (World.drewN _ n) _ k;have c:Hid (nM q s0 b f=jh_ (tI (q / 256)) (tI (q % 256)) (tI s0) (tI b) f/\uX q s0 b f=0):=by
     show _/\_
     simp [nM,uX,a,hf]
    clear j k
    go_wp2_with fail
    go_quiet (fail);go_wp2
    go_ret2
    exact ⟨bc_ c.out.1.symm c.out.2.symm,below_drewN p _⟩
  ·have u:decide (0<=f/\f<8)=false:=by simpa using hf
   have c:Hid (nM q s0 b f=⟨#[]⟩/\uX q s0 b f=2):=by
    show _/\_
    simp [nM,uX,a,hf]
   clear hf;go_enter func78,ntmps78
   go_wp2_with (first
    | (go_at_call 139;(with_reducible refine CM (iT) ?_);rintro e w1 ⟨rfl,d⟩)
    | (go_at_call 141;(with_reducible refine CM (sQ) ?_);rintro e w2 ⟨rfl,rfl⟩))
   go_ret2
   exact ⟨bc_ c.out.1.symm c.out.2.symm,e_ (B_.alloc (bE _) _) d⟩
 ·simp only[Bool.not_eq_true] at a;have c:Hid (nM q s0 b f=⟨#[]⟩/\uX q s0 b f=1):=by
   show _/\_
   simp [nM,uX,a]
  go_enter func78,ntmps78
  go_wp2_with (go_at_call 139;(with_reducible refine CM (iT) ?_);rintro e w1 ⟨rfl,d⟩)
  go_ret2
  exact ⟨bc_ c.out.1.symm c.out.2.symm,e_ (B_.alloc (bE _) _) d⟩
end
section
def vs (l:List UInt8):List Value:=l.map fun b=> .int .u8 b.toNat
end
section
theorem ee_ {P:Program} {t:TypeId} {n:Nat} (h:(P.info? t).map (·.size)=some n):∃j,P.info? t=some j/\j.size=n:=by
 cases hj:P.info? t with
 | none=>rw [hj] at h;cases h
 | some j=>rw [hj] at h;exact ⟨j,rfl,by simpa using h⟩
theorem bX_ (xs:Array Value) (i:Nat) (n:Int) (w:World) (h:xs[i]?=some (.int .u8 n)):(part 5 xs i).run prog w = .ok (.int .u8 n) w:=by
 simp [part,isAgg,run_underlying underlying5,go_sem,h]
theorem sP (d:Nat) {xs ys:Array Value} {is:List Nat} (w:World) (i:Nat) (x y:Int) (hx:xs[i]?=some (.int .u8 x)) (hy:ys[i]?=some (.int .u8 y)) :
  (Op.eqItems (d+1) 5 1 xs ys (i :: is)).run prog w=if x == y then (Op.eqItems (d+1) 5 1 xs ys is).run prog w else .ok false w:=by
 have h1:=bX_ xs i x w hx;have h2:=bX_ ys i y w hy;have h3:=run_equalIn_int w d 5 .u8 .u8 x y underlying5;simp only[Op.eqItems,Nat.mul_one,Sem.run_ite,Sem.run_bind,h1,h2,h3,Result.andThen_ok]
 by_cases h:x=y
 ·subst h;simp
 ·simp [h,Sem.run_pure]
theorem d7_ (a b c d e g h i:UInt8) (w:World) :
  (binOp .neq 198 (hv a b c d) (hv e g h i)).run prog w = .ok (.bool (!(a == e&&b == g&&c == h&&d == i))) w:=by
 obtain ⟨k,f,j⟩:=ee_ (P:=prog) (t:=5) (n:=1) q_;have hc:prog.cellsOf 5=1:=by kernel_rfl
 rw [run_neq_struct,show (10000:Nat)=9999+1 from rfl,run_equalIn_array w 9999 _ _ underlying198 f,hc];rw [show List.range 4=[0,1,2,3] from rfl,show (9999:Nat)=9998+1 from rfl];rw [sP 9998 w 0 a.toNat e.toNat rfl rfl,sP 9998 w 1 b.toNat g.toNat rfl rfl,sP 9998 w 2 c.toNat h.toNat rfl rfl,sP 9998 w 3 d.toNat i.toNat rfl rfl];have q:∀x y:UInt8,((x.toNat:Int) == (y.toNat:Int))=(x == y):=fun x y=>by
  rw [Bool.eq_iff_iff];simp only[beq_iff_eq]
  constructor
  ·intro h;exact UInt8.toNat_inj.1 O_
  ·rintro rfl;rfl
 rw [q,q,q,q]
 cases a == e <;> cases b == g <;> cases c == h <;> cases d == i <;> simp [Op.eqItems,Sem.run_pure]
theorem sE {a b:Nat} (ha:a<9223372036854775808) (hb:b<9223372036854775808) :
  bits .or .i64 (a:Int) (b:Int)=((a ||| b:Nat):Int):=by
 have c:a ||| b<2 ^ 63:=Nat.or_lt_two_pow O_ O_
 have h1:(BitVec.ofInt 64 (a:Int)).toNat=a:=by
  rw [BitVec.ofInt_natCast,BitVec.toNat_ofNat];exact Nat.mod_eq_of_lt O_
 have h2:(BitVec.ofInt 64 (b:Int)).toNat=b:=by
  rw [BitVec.ofInt_natCast,BitVec.toNat_ofNat];exact Nat.mod_eq_of_lt O_
 show i64.wrap ((BitVec.ofInt 64 (a:Int) ||| BitVec.ofInt 64 (b:Int)).toNat:Int)=_
 rw [BitVec.toNat_or,h1,h2];exact IntWalk.i64_in _ O_
theorem ew_ (a b:UInt8):bits .or .i64 ((a.toNat:Int)*256) (b.toNat:Int)=(a.toNat:Int)*256+b.toNat:=by
 have ha:=a.toNat_lt;have hb:=b.toNat_lt;have e:((a.toNat:Int)*256)=((a.toNat*256:Nat):Int):=O_
 rw [e,sE O_ O_,nat_join 8 _ _ O_ O_];omega
theorem sL (a:UInt8):(a.toNat:Int)<=255:=by have:=a.toNat_lt;omega
theorem qX {i:Nat}:w.drew.heap[i]?=w.heap[i]?:=rfl
theorem bW (h:w.heap.size=n):(w.alloc o).heap[n]?=some o:=by
 subst h;exact heap_alloc_new w o
theorem dC (h:n<w):(w.alloc o).heap[n]?=w.heap[n]?:=Below.heap_alloc w o n h
def ok8 (a b c d e g h i:UInt8) (f:Int):Bool:=(pO a f == e&&pO b f == g&&pO c f == h&&pO d f == i)&&decide ((c.toNat:Int)<=128)
def do_ (ok:Bool) (q s b:Int) (w:World) (e:Ending) (w':World):Prop:=e = .returned (.tuple #[.agg (if ok=true then #[I_ q,I_ s,I_ b] else #[I_ 0,I_ 0,I_ 0]),.bool ok])/\s_ w w'
end
section
def tJ (s:ByteArray) (k:Nat):Int:=(s.data.getD k 0).toNat
def gF (s:ByteArray) (f:Int):Bool:=
 match s.data.toList with
 | [a,b,c,d,e,g,h,i]=>decide (0<=f/\f<8)&&ok8 a b c d e g h i f
 | _=>false
def mA (s:ByteArray) (f:Int):Int:=if gF s f=true then tJ s 0*256+tJ s 1 else 0
def sG (s:ByteArray) (f:Int):Int:=if gF s f=true then tJ s 2 else 0
def xD (s:ByteArray) (f:Int):Int:=if gF s f=true then tJ s 3 else 0
def dn_ (ok:Bool) (q s b:Int) (w:World) (e:Ending) (w':World):Prop:=e = .returned (.tuple #[.agg #[I_ q,I_ s,I_ b],.bool ok])/\s_ w w'
abbrev fx_ (s:ByteArray) (f:Int) (w:World):Ending->World->Prop:=dn_ (gF s f) (mA s f) (sG s f) (xD s f) w
theorem g8_ (s:ByteArray) (h:s.size=8):∃a b c d e g h i,s=eB a b c d e g h i:=by
 obtain ⟨⟨l⟩⟩:=s
 match l,h with
 | [a,b,c,d,e,g,h,i],_=>exact ⟨a,b,c,d,e,g,h,i,rfl⟩
theorem ct_ (s:ByteArray) (f:Int) (h:¬(s.size=8/\0<=f/\f<8)):gF s f=false:=by
 obtain ⟨⟨l⟩⟩:=s;unfold gF
 split
 ·rename_i a b c d e g h' i heq
  have hl:l=[a,b,c,d,e,g,h',i]:=heq;subst hl;have:¬(0<=f/\f<8):=fun hf=>h ⟨rfl,hf⟩;simp [this]
 ·rfl
theorem gs_ (a b c d e g h i:UInt8) (f:Int) (h1:0<=f) (h2:f<8) (H:do_ (ok8 a b c d e g h i f) (((a.toNat:Nat):Int)*256+b.toNat) c.toNat d.toNat w en w'):fx_ (eB a b c d e g h i) f w en w':=by
 have l:gF (eB a b c d e g h i) f=ok8 a b c d e g h i f:=by
  show (decide (0<=f/\f<8)&&ok8 a b c d e g h i f)=_
  simp [h1,h2]
 obtain ⟨j,k⟩:=H;refine ⟨?_,k⟩;rw [j];unfold mA sG xD;rw [l]
 cases ok8 a b c d e g h i f <;> rfl
theorem eV_ (s:ByteArray) (f:Int) (h:¬(s.size=8/\0<=f/\f<8)) (H:dn_ false 0 0 0 w en w'):fx_ s f w en w':=by
 have e1:=ct_ s f h;unfold fx_ mA sG xD;rw [e1];exact H
theorem aM_ (s:ByteArray) (f:Int) (w:World) (h:¬(s.size=8/\0<=f/\f<8)) (hm:s.size<=maxLen):C_ 148 #[.string s,I_ f] w (dn_ false 0 0 0 w):=by
 unfold maxLen at hm
 by_cases j:s.size=8
 ·have l:decide (0<=f/\f<8)=false:=by simp;omega
  have H:=H_ h;clear h;obtain ⟨a,b,c,d,e,g,h,i,rfl⟩:=g8_ s j;clear j H;unfold eB;go_enter func148,ntmps148
  go_wp2_with (go_at_call 141;(with_reducible refine CM (sQ) ?_);rintro e w2 ⟨rfl,rfl⟩)
  exact bodyPost_ret (v:= .tuple #[.agg #[I_ 0,I_ 0,I_ 0],.bool false]) (by simp [results,results148,go_sem]) rfl ⟨rfl,B_.alloc (bE _) _⟩
 ·have k:¬(s.size:Int)=8:=O_
  go_enter func148,ntmps148
  go_wp2_with fail
  exact bodyPost_ret (v:= .tuple #[.agg #[I_ 0,I_ 0,I_ 0],.bool false]) (by simp [results,results148,go_sem]) rfl ⟨rfl,B_.alloc (bE _) _⟩
def nxE (q s b:Int):Int:=if vaB q s b=true then if q=65535 then 3 else 0 else 1
def gQ_ (q s b n:Int) (w:World) (e:Ending) (w':World):Prop:=e = .returned (.tuple #[.agg #[I_ q,I_ s,I_ b],I_ n])/\s_ w w'
abbrev aA_ (q s b:Int) (w:World):Ending->World->Prop:=gQ_ (if nxE q s b=0 then q+1 else 0) (if nxE q s b=0 then s else 0) (if nxE q s b=0 then b else 0) (nxE q s b) w
theorem bH_ (q s b:Int) (w:World):C_ 74 #[.agg #[I_ q,I_ s,I_ b]] w (aA_ q s b w):=by
 by_cases d:vaB q s b=true
 ·obtain ⟨h1,h2,h3,u,x,y⟩:=h0_ d
  by_cases o:q=65535
  ·subst o;have n:Hid (nxE 65535 s b=3):=by show _=_;simp [nxE,d]
   go_enter func74,ntmps74
   go_wp2_with (go_at_call 139;(with_reducible refine CM (iT) ?_);rintro e w1 ⟨rfl,f⟩;have c:=(f.block (w) (by simp;omega)).trans ((dC A_).trans (bW rfl));have a:=(f.block (w+1) A_).trans (bW A_);have g:=b_ c 0;have i:=b_ c 1;have j:=b_ c 2;have n0:=t_ c 0;have k:=b_ a 0;have l:=b_ a 1;have m:=b_ a 2;have p:=t_ a 0;have r:=t_ a 1;have t:=t_ a 2;simp only[zl] at g i j k l m)
   exact bodyPost_ret (v:= .tuple #[.agg #[I_ 0,I_ 0,I_ 0],I_ 3]) (by simp [results,results74,go_sem,g,i,j,k,l,m]) rfl ⟨by rw [n.out];rfl,by (repeat (with_reducible first | assumption | exact aP _ _ | refine a_ ?_ _ | apply Below.drew | refine below_drewN ?_ _ | (apply dB;assumption) | (refine rQ ?_ (bE _) _) | (refine rQ ?_ (by first | omega | (simp;done) | (go_simp;done)) _)))⟩
  ·have n:Hid (nxE q s b=0):=by show _=_;simp [nxE,d,o]
   go_enter func74,ntmps74
   go_wp2_with (go_at_call 139;(with_reducible refine CM (iT) ?_);rintro e w1 ⟨rfl,f⟩;have c:=(f.block (w) (by simp;omega)).trans ((dC A_).trans (bW rfl));have a:=(f.block (w+1) A_).trans (bW A_);have g:=b_ c 0;have i:=b_ c 1;have j:=b_ c 2;have n0:=t_ c 0;have k:=b_ a 0;have l:=b_ a 1;have m:=b_ a 2;have p:=t_ a 0;have r:=t_ a 1;have t:=t_ a 2;simp only[zl] at g i j k l m)
   exact bodyPost_ret (v:= .tuple #[.agg #[I_ (q+1),I_ s,I_ b],I_ 0]) (by simp [results,results74,go_sem,g,i,j,k,l,m]) rfl ⟨by rw [n.out];rfl,by (repeat (with_reducible first | assumption | exact aP _ _ | refine a_ ?_ _ | apply Below.drew | refine below_drewN ?_ _ | (apply dB;assumption) | (refine rQ ?_ (bE _) _) | (refine rQ ?_ (by first | omega | (simp;done) | (go_simp;done)) _)))⟩
 ·simp only[Bool.not_eq_true] at d;have n:Hid (nxE q s b=1):=by show _=_;simp [nxE,d]
  go_enter func74,ntmps74
  go_wp2_with (go_at_call 139;(with_reducible refine CM (iT) ?_);rintro e w1 ⟨rfl,f⟩;have c:=(f.block (w) (by simp;omega)).trans ((dC A_).trans (bW rfl));have a:=(f.block (w+1) A_).trans (bW A_);have g:=b_ c 0;have i:=b_ c 1;have j:=b_ c 2;have n0:=t_ c 0;have k:=b_ a 0;have l:=b_ a 1;have m:=b_ a 2;have p:=t_ a 0;have r:=t_ a 1;have t:=t_ a 2;simp only[zl] at g i j k l m)
  exact bodyPost_ret (v:= .tuple #[.agg #[I_ 0,I_ 0,I_ 0],I_ 1]) (by simp [results,results74,go_sem,g,i,j,k,l,m]) rfl ⟨by rw [n.out];rfl,by (repeat (with_reducible first | assumption | exact aP _ _ | refine a_ ?_ _ | apply Below.drew | refine below_drewN ?_ _ | (apply dB;assumption) | (refine rQ ?_ (bE _) _) | (refine rQ ?_ (by first | omega | (simp;done) | (go_simp;done)) _)))⟩
end
section
structure CBx (V:World) (b s n:Nat) (ty:TypeId) (cs:Array Value) (γ:Option Nat) (d:Nat->Bool) (w:World):Prop where
 bl:s_ V w
 no:d b=false->γ=none
 so:d b=true->γ≠none
 at_:∀z,γ=some z->V.heap.size<=z/\∃c0,w.heap[z]?=some (.cells c0 ty (0,0))/\c0.size=n/\(d s=true->c0=cs)
section
variable {V w w':World} {b s n i:Nat} {ty:TypeId} {cs:Array Value} {γ:Option Nat} {d:Nat->Bool}
theorem CBx.start (V:World) (b s n:Nat) (ty:TypeId) (cs:Array Value):CBx V b s n ty cs none (fun _=>false) V:=⟨aP _ _,fun _=>rfl,(fun h=>by cases h),(fun z h=>by cases h)⟩
theorem CBx.drew (h:CBx V b s n ty cs γ d w):CBx V b s n ty cs γ d {w with drawn:=w.drawn+1}:=⟨h.bl.drew,h.no,h.so,h.at_⟩
theorem CBx.more (h:CBx V b s n ty cs γ d w) (hb:i≠b) (hs:i≠s) (hw:s_ w w'):CBx V b s n ty cs γ (aI d i) w':=by
 have a:aI d i b=d b:=by unfold aI;rw [beq_eq_false_iff_ne.2 (Ne.symm hb),Bool.or_false]
 have c:aI d i s=d s:=by unfold aI;rw [beq_eq_false_iff_ne.2 (Ne.symm hs),Bool.or_false]
 refine ⟨e_ h.bl hw,by rw [a];exact h.no,by rw [a];exact h.so,fun z f=>?_⟩;obtain ⟨g,c0,j,k,l⟩:=h.at_ z f;exact ⟨g,c0,h_ j hw,k,by rw [c];exact l⟩
theorem CBx.box (h:CBx V b s n ty cs γ d w) (hd:d b=false) (hs:d s=false) (hbs:s≠b) (c0:Array Value) (hc:c0.size=n):CBx V b s n ty cs (some w.heap.size) (aI d b) (w.alloc (.cells c0 ty)):=by
 have c:aI d b s=d s:=by unfold aI;rw [beq_eq_false_iff_ne.2 hbs,Bool.or_false]
 have a:aI d b b=true:=by unfold aI;simp
 refine ⟨a_ h.bl _,(by rw [a];intro h;cases h),fun _=>by simp,fun z f=>?_⟩
 cases f
 exact ⟨h.bl.size,c0,l_ w (.cells c0 ty) _ rfl,hc,by rw [c,hs];intro h;cases h⟩
theorem CBx.fill (h:CBx V b s n ty cs (some z) d w) (hbs:s≠b) (hc:cs.size=n):CBx V b s n ty cs (some z) (aI d s) (w.setRow z cs):=by
 have c:aI d s b=d b:=by unfold aI;rw [beq_eq_false_iff_ne.2 (Ne.symm hbs),Bool.or_false]
 obtain ⟨a,c0,g,i,j⟩:=h.at_ z rfl;refine ⟨d_ h.bl a _,fun _=>?_,fun _=>by simp,fun k f=>?_⟩
 ·rename_i hh
  rw [c] at hh;exact h.no hh
 ·cases f
  exact ⟨a,_,setRow_heap _ _ _ _ _ _ g,hc,fun _=>rfl⟩
end
structure STx (V:World) (S:Nat->Prop) (l:List (Nat × Nat × TypeId × Array Value)) (n:Nat) (W:World) (d:Nat->Bool) (w:World):Prop where
 kp:r_ S V w
 bl:Below n W w
 rows:∀k z t cs,(k,z,t,cs) ∈ l->∃c0,w.heap[z]?=some (.cells c0 t (0,0))/\c0.size=cs.size/\(d k=true->c0=cs)
section
variable {V W w:World} {S:Nat->Prop} {l:List (Nat × Nat × TypeId × Array Value)} {n i:Nat} {d:Nat->Bool}
theorem STx.start (hb:Below n W V) (h:∀k z t cs,(k,z,t,cs) ∈ l->∃c0,V.heap[z]?=some (.cells c0 t (0,0))/\c0.size=cs.size):STx V S l n W (fun _=>false) V:=
 ⟨r_.refl V,hb,fun k z t cs hm=>(by obtain ⟨c0,h1,h2⟩:=h k z t cs hm;exact ⟨c0,h1,h2,fun h=>by cases h⟩)⟩
theorem STx.drew (h:STx V S l n W d w):STx V S l n W d {w with drawn:=w.drawn+1}:=⟨h.kp,h.bl.drew,h.rows⟩
theorem STx.more (h:STx V S l n W d w) (hi:(l.all fun x=>decide (x.1≠i))=true):STx V S l n W (aI d i) w:=by
 refine ⟨h.kp,h.bl,fun k z t cs a=>?_⟩;obtain ⟨c0,c,f,g⟩:=h.rows k z t cs a;have b:k≠i:=by simpa using List.all_eq_true.1 hi _ a
 refine ⟨c0,c,f,fun e=>g ?_⟩;unfold aI at e
 rwa [beq_eq_false_iff_ne.2 b,Bool.or_false] at e
theorem STx.fill (h:STx V S l n W d w) {k:Nat} {t:TypeId} (hm:(k,z,t,cs) ∈ l) (hn:n<=z) (hS:¬S z) (hu:∀x ∈ l,x=(k,z,t,cs)\/(x.1≠k/\x.2.1≠z)):STx V S l n W (aI d k) (w.setRow z cs):=by
 refine ⟨h.kp.trans (r_.of_setRow _ _ _ (fun c=>hS c)),d_ h.bl hn _,fun j i m cs' a=>?_⟩;obtain ⟨c0,b,f,g⟩:=h.rows _ _ _ _ a
 rcases hu _ a with e | ⟨e1,e2⟩
 ·cases e
  exact ⟨_,setRow_heap _ _ _ _ _ _ b,rfl,fun _=>rfl⟩
 ·refine ⟨c0,(setRow_other w z i cs e2).trans b,f,fun e=>g ?_⟩;unfold aI at e
  rwa [beq_eq_false_iff_ne.2 e1,Bool.or_false] at e
end
def dJ_ (y:Fl) (size:Int):Bool:=!(y.sseq == y.seq&&(y.ssize == size&&y.sblocks == y.blocks))
theorem a3_ (j:Nat) (y:Fl) (sz:Int) {a b d g:Value} (h:x_ w S a b c d e f g C) (hj:C.files[j]?=some y) :
  C_ 24 #[bK a b c d e f g,I_ (j:Int),I_ sz] w (cG (dJ_ y sz) w):=by
 have Q:=bI hj;have k:=fun w' (hb:s_ w w')=>gY j (h.step hb);rw [show (decide (0<=(j:Int))&&decide ((j:Int)<(C.files.length:Int)))=true by simp;omega] at k;obtain ⟨A1,n,rfl,Y,Z⟩:=h.files.form;obtain ⟨s,I,c2,rfl⟩:=h.frames.cap;obtain ⟨t,J,D,u,K,E,v,L,F,x,M,G,z,N,H,rfl,rfl,rfl,rfl,rfl⟩:=x_.caps5 h;obtain ⟨B,of,kt,KB,kc,rfl,q,R,U,W,X,r⟩:=FlA.cells h.files hj;have j2:(j:Int)<(C.files.length:Int):=O_
 have j0:(0:Int)<=(j:Int):=O_
 have P:=H_ (i_ w (.cells (D_ (some ⟨B,of,none⟩) C.files.length n s I c2 t J D u K E v L F x M G z N H) 30));have A:=H_ (a_ (aP (w) w) (.cells (D_ (some ⟨B,of,none⟩) C.files.length n s I c2 t J D u K E v L F x M G z N H) 30));have O:=H_ (show dJ_ y sz=!(y.sseq == y.seq&&(y.ssize == sz&&y.sblocks == y.blocks)) from rfl);clear h hj R U W X Y Z;go_enter func24,ntmps24
 go_upto_region 3 with (go_at_call 73;(with_reducible refine CM (k _ A.out) ?_);rintro e w1 ⟨rfl,i⟩)
 have m:=jC A i;have p:=fC P i;have x0:=sF p;obtain ⟨z0,z1,z2,z3,z4,z5,z6,z7,z8,z9,za,zb,zc,zd,ze⟩:=zc (m.block _ q) r;clear k i
 go_upto_region 4 with fail
 generalize hW9:w1.alloc _=V;have l:=nah hW9;have o:=lah hW9 m;clear hW9;have t0:=b_ l 7;have t1:=b_ l 10;have t2:=b_ l 11;have t3:=b_ l 12;have t4:=b_ l 14;simp only[zl] at t0 t1 t2 t3 t4;clear z0 z1 z2 z3 z4 z5 z6 z7 z8 z9 za zb zc zd ze x0;go_wp2
 all_goals
  go_ret;refine ⟨?_,o⟩
  rw [O.out]
  first
   | (rw [show (!(y.sseq == y.seq&&(y.ssize == sz&&y.sblocks == y.blocks)))=true by simp;omega];rfl)
   | (rw [show (!(y.sseq == y.seq&&(y.ssize == sz&&y.sblocks == y.blocks)))=false by simp;omega];rfl)
theorem a2_ (n sz:Int) {a b d g:Value} (h:x_ w S a b c d e f g C) (hn:¬(0<=n/\n<(C.files.length:Int))) :
  C_ 24 #[bK a b c d e f g,I_ n,I_ sz] w (cG false w):=by
 have i:=fun w' (hb:s_ w w')=>gY n (h.step hb);rw [show (decide (0<=n)&&decide (n<(C.files.length:Int)))=false by simp;omega] at i;obtain ⟨l,z,c1,m,A,c2,o,B,t,p,D,u,q,E,v,r,F,x,s,G,y,rfl,rfl,rfl,rfl,rfl,rfl,rfl⟩:=x_.caps h;have k:=H_ (fun X=>a_ (aP (w) w) X);clear h hn;go_enter func24,ntmps24
 go_wp2_with (go_at_call 73;(with_reducible refine CM (i _ (k.out _)) ?_);rintro e w1 ⟨rfl,j⟩)
 go_ret;exact ⟨rfl,e_ (k _) j⟩
theorem a4_ (q s b f:Int) {Bd Bi:Nat} (h0:bA w Bd #[I_ q,I_ s,I_ b] 62) (h1:bA w Bi #[I_ f] 3) :
  C_ 77 #[P_ Bd,P_ Bi] w (iN (.string (nM q s b f)) w):=by
 have d:=b_ h0 0;have g:=b_ h0 1;have i:=b_ h0 2;have j:=b_ h1 0;simp only[zl] at d g i j;have c:=fun w'=>zE q s b f w';clear h0 h1;go_enter func77,ntmps77
 go_wp2_with (go_at_call 78;(with_reducible refine CM (c _) ?_);rintro e w1 ⟨rfl,a⟩)
 go_ret;exact ⟨rfl,a⟩
end
section
theorem jM:(prog.info? 62).map (·.size)=some 3:=by kernel_rfl
theorem oJ {a b c:Int}:(#[Value.int i64 a,I_ b,I_ c]:Array Value).all (·.oneCell')=true:=by simp [Value.oneCell']
theorem LW.seq (h:LW jI w S g L) (hj:L[j]?=some y) (v:Int):LW jI (w.setCell ⟨g,j*15+14,none⟩ (I_ v)) S g (L.set j {y with seq:=v}):=
 LW.setOne (a':={y with seq:=v}) (p:=14) h hj O_ rfl (fun r hr=>by
  obtain ⟨t,A,cap,k1,k2,k3,k4,rfl⟩:=hr;exact ⟨t,A,cap,k1,k2,k3,k4,rfl⟩)
theorem LW.fl_seq (h:LW jI w S g L) (hj:L[j]?=some y):w.cell? ⟨g,j*15+14,none⟩=some (I_ y.seq):=by
 obtain ⟨r,⟨t,A,cap,k1,k2,k3,k4,rfl⟩,hc⟩:=h.at_ hj;exact hc 14 _ rfl
theorem LW.fl_pl (h:LW jI w S g L) (hj:L[j]?=some y):w.cell? ⟨g,j*15,none⟩=some (I_ y.dev)/\w.cell? ⟨g,j*15+1,none⟩=some (I_ y.slot)/\w.cell? ⟨g,j*15+13,none⟩=some (I_ y.which):=by
 obtain ⟨r,⟨t,A,cap,k1,k2,k3,k4,rfl⟩,hc⟩:=h.at_ hj;exact ⟨by have:=hc 0 _ rfl;rwa [Nat.add_zero] at this,hc 1 _ rfl,hc 13 _ rfl⟩
def S6 (S:Nat->Prop) (n:Nat):Nat->Prop:=fun z=>S z/\z≠n/\z≠n+1/\z≠n+1+1/\z≠n+1+1+1/\z≠n+1+1+1+1
def qZ (q s b:Int):Value:= .agg #[I_ q,I_ s,I_ b]
def rqC (y:Fl) (d:ByteArray):Value:= .agg (aO 0 0 y.dev 2 (y.slot*18+(1 - y.which)) 1 d true true 0)
def sZ (C:Ck) (j:Nat) (y:Fl) (sz:Int) (C':Ck) (rq ino:Value) (err:Int):Prop:=
 if y.seq=65535 then C'=C/\rq=yK/\ino=qZ 0 0 0/\err=3 else C'={C with files:=C.files.set j {y with seq:=y.seq+1}}/\rq=rqC y (nM (y.seq+1) sz y.blocks j)/\ino=qZ (y.seq+1) sz y.blocks/\err=0
def vJ (P:Ck->Value->Value->Int->Prop) (S:Nat->Prop) (w:World) (en:Ending) (w':World):Prop:=∃C' rq ino err a b c d e f g,P C' rq ino err/\en = .returned (.tuple #[bK a b c d e f g,rq,ino,I_ err])/\x_ w' S a b c d e f g C'/\s_ w w'
theorem eT_ {fn:Func} {p r s q:Tmp} (h:fn.results=#[.cell p 30,.cell r 37,.cell s 62,.tmp q]) {tmps:Array Value} {g2 g3:Nat} {uW cR:Array Value} {u:Value}
  (hp:tmps.getD p undef = P_ g) (hr:tmps.getD r undef = P_ g2) (hs:tmps.getD s undef = P_ g3) (hq:tmps.getD q undef=u) (hg:w.heap[g]?=some (.cells cs 30 (0,0))) (hg2:w.heap[g2]?=some (.cells uW 37 (0,0))) (hg3:w.heap[g3]?=some (.cells cR 62 (0,0))) (h1:cs.size=7) (h2:uW.size=10) (h3:cR.size=3) :
  (results fn tmps).run prog w = .ok (.tuple #[.agg cs,.agg uW,.agg cR,u]) w:=by
 have a:tmps[p]?.getD undef = P_ g:=by simpa using hp
 have c:tmps[r]?.getD undef = P_ g2:=by simpa using hr
 have d:tmps[s]?.getD undef = P_ g3:=by simpa using hs
 have b:tmps[q]?.getD undef=u:=by simpa using hq
 simp [results,h,a,c,d,b,asAddr,run_loadVar_row w g _ 30 cs (0,0) _ hg underlying30 rfl (by rw [h1];exact cD),run_loadVar_row w g2 _ 37 uW (0,0) _ hg2 underlying37 rfl (by rw [h2];exact aW),run_loadVar_row w g3 _ 62 cR (0,0) _ hg3 underlying62 rfl (by rw [h3];exact jM)]
def G5c (gf j:Nat) (q s b q' s' b' er:Int) (γ:Option Nat):Nat->Value->Prop
 | 0,v=>v = .pointer (some ⟨gf,j*15,none⟩)
 | 1,v=>v = .pointer (some ⟨gf,j*15,none⟩)
 | 2,v=>v = .pointer (some ⟨gf,j*15+14,none⟩)
 | 3,v=>v = I_ q
 | 4,v=>v = I_ s
 | 5,v=>v = .pointer (some ⟨gf,j*15,none⟩)
 | 6,v=>v = .pointer (some ⟨gf,j*15,none⟩)
 | 7,v=>v = .pointer (some ⟨gf,j*15+7,none⟩)
 | 8,v=>v = I_ b
 | 9,v=>v = .agg #[I_ q,I_ s,I_ b]
 | 10,v=>v = .tuple #[.agg #[I_ q',I_ s',I_ b'],I_ er]
 | 11,v=>v = .tuple #[.agg #[I_ q',I_ s',I_ b'],I_ er]
 | 12,v=>v = .agg #[I_ q',I_ s',I_ b']
 | 13,v=>v = I_ er
 | 14,v=>∃z,γ=some z/\v = P_ z
 | 15,_=>True
 | 16,v=>v = I_ er
 | _+17,_=>True
def S8 (n:Nat):Nat->Prop:=fun z=>z≠n+1+1/\z≠n+1+1+1/\z≠n+1+1+1+1
def G9c (X:Nat) (A B D:Value):Nat->Value->Prop
 | 0,v=>v = P_ X
 | 1,v=>v = P_ X
 | 2,v=>v = P_ X
 | 3,v=>v=A
 | 4,v=>v=B
 | 5,v=>v=D
 | 6,_=>True
 | 7,_=>True
 | 8,_=>True
 | 9,v=>v = I_ 0
 | _+10,_=>True
theorem cU_ (j:Nat) (y:Fl) (sz:Int) {a b d g:Value} (h:x_ w S a b c d e f g C) (ok:lT C) (hj:C.files[j]?=some y) (hva:vaB y.seq sz y.blocks=true) (hsl:0<=y.slot/\y.slot<7) (hwh:0<=y.which/\y.which<2) (hS:∀z,w.heap.size<=z->S z) :
  C_ 22 #[bK a b c d e f g,I_ (j:Int),I_ sz] w (vJ (sZ C j y sz) S w):=by
 have bc:=fun w' (M:s_ w w') (hlt:w.heap.size+1+1+1+1<w'.heap.size)=>vC C a b c d e f g (S6 S (w)) w' ((h.weak (fun z hz hs=>⟨hs,O_,O_,O_,O_,O_⟩)).step M) ok (fun z hz=>⟨hS z O_,O_,O_,O_,O_,O_⟩);have bq:=bI hj;have am:=fun w' (M:s_ w w')=>gY j (h.step M);rw [show (decide (0<=(j:Int))&&decide ((j:Int)<(C.files.length:Int)))=true by simp;omega] at am;obtain ⟨E,H,b',er,bb,a6⟩:∃E H b' er,(∀w',C_ 74 #[.agg #[I_ y.seq,I_ sz,I_ y.blocks]] w' (gQ_ E H b' er w'))/\((y.seq=65535/\E=0/\H=0/\b'=0/\er=3)\/(y.seq≠65535/\E=y.seq+1/\H=sz/\b'=y.blocks/\er=0)):=by
  by_cases F:y.seq=65535
  ·have hE:nxE y.seq sz y.blocks=3:=by unfold nxE;rw [if_pos hva,if_pos F]
   refine ⟨0,0,0,3,fun w'=>?_,.inl ⟨F,rfl,rfl,rfl,rfl⟩⟩;have:=bH_ y.seq sz y.blocks w';unfold aA_ at this;rw [hE] at this;exact this
  ·have hE:nxE y.seq sz y.blocks=0:=by unfold nxE;rw [if_pos hva,if_neg F]
   refine ⟨_,_,_,0,fun w'=>?_,.inr ⟨F,rfl,rfl,rfl,rfl⟩⟩;have:=bH_ y.seq sz y.blocks w';unfold aA_ at this;rw [hE] at this;exact this
 obtain ⟨v1,v2,v3,v4,v5,v6⟩:=h0_ hva;have s0:¬sz<0:=O_
 have s1:¬128<sz:=O_
 have c9:C.files.length<=100:=ok.ok.files.2;obtain ⟨A1,c1,rfl,q1,q2⟩:=h.files.form;obtain ⟨A2,m2,c2,rfl⟩:=h.frames.cap;obtain ⟨A3,m3,c3,A4,m4,c4,A5,m5,c5,A6,m6,c6,A7,m7,c7,rfl,rfl,rfl,rfl,rfl⟩:=x_.caps5 h;obtain ⟨HJ,aw,ai,ae⟩:=rW hj hsl hwh a6;have j2:(j:Int)<(C.files.length:Int):=O_
 have j0:(0:Int)<=(j:Int):=O_
 clear h ok hj hva hsl hwh a6 q1 q2 v1 v2 v3 v4 v5 v6;have HS:=H_ (show St w [(w.heap.size,.cells (D_ A1 C.files.length c1 A2 m2 c2 A3 m3 c3 A4 m4 c4 A5 m5 c5 A6 m6 c6 A7 m7 c7) 30 (0,0)),(w.heap.size+1,.cells #[I_ (j:Int)] 3 (0,0)),(w.heap.size+1+1,bM),(w.heap.size+1+1+1,jD),(w.heap.size+1+1+1+1,.cells #[I_ 0,I_ 0,I_ 0] 62 (0,0))] (((((w.alloc (.cells (D_ A1 C.files.length c1 A2 m2 c2 A3 m3 c3 A4 m4 c4 A5 m5 c5 A6 m6 c6 A7 m7 c7) 30)).alloc (.cells #[I_ (j:Int)] 3)).alloc (bM)).alloc (jD)).alloc (.cells #[I_ 0,I_ 0,I_ 0] 62)) from (((((St.nil w).push _ _ rfl).push _ (w+1) A_).push _ (w+1+1) A_).push _ (w+1+1+1) A_).push _ (w+1+1+1+1) A_);go_enter func22,ntmps22
 go_upto_region 1 with fail
 generalize ((((w.alloc (.cells (D_ A1 C.files.length c1 A2 m2 c2 A3 m3 c3 A4 m4 c4 A5 m5 c5 A6 m6 c6 A7 m7 c7) 30)).alloc (.cells #[I_ (j:Int)] 3)).alloc (bM)).alloc (jD)).alloc (.cells #[I_ 0,I_ 0,I_ 0] 62)=V at HS;have ax:=HS.bk _ _ dV;have b2:w.heap.size+1+1+1+1<V.heap.size:=n_ (HS.bk _ _ M4_);obtain ⟨x0,x1,x2,x3,x4,x5,x6⟩:=T_ ax
 go_upto_region 2 with (go_at_call 42;refine CM (bc _ HS.below b2) ?_;rintro e w1 ⟨X,gf,nf,cf,gr,nr,cr,c',d',e',f',g',rfl,hB,b5⟩)
 have a4:=H_ (HS.step b5);have ad:=H_ hB;obtain ⟨B1,az⟩:=bL V.heap.size;rw [<-az] at ad b2;obtain ⟨E3,e3,Y,rfl⟩:=hB.zones.cap;obtain ⟨E4,e4,k4,rfl⟩:=hB.groups.cap;obtain ⟨E5,e5,k5,rfl⟩:=hB.lists.cap;obtain ⟨E6,e6,k6,rfl⟩:=hB.clocks.cap;obtain ⟨E7,e7,k7,rfl⟩:=hB.ptes.cap;clear x0 x1 x2 x3 x4 x5 x6 ax hB b5 HS az bc;have ay:=a4.bk _ _ dV;have ar:=a4.bk _ _ lK;have fj:=sF ar;obtain ⟨x0,x1,x2,x3,x4,x5,x6⟩:=T_ ay
 go_upto_region 4 with (go_at_call 73;refine CM (am _ a4.below) ?_;rintro e w2 ⟨rfl,aj⟩;have ag:=H_ (a4.step aj);have a9:=H_ (ad.step aj))
 clear x0 x1 x2 x3 x4 x5 x6 ay aj a4 ad am fj ar;have L:=a9.box;have au:=ag.bk _ _ lK;have fj:=b_ au 0;have x0:=b_ L 0;simp only[zl] at fj x0;have j3:(j:Int)<(nf:Int):=by have:=a9.ef;omega
 go_cut [11] from 35 to 41 (fun s11 wx=>s11 = .pointer (some ⟨gf,j*15,none⟩)/\St w [(w.heap.size,.cells (D_ A1 C.files.length c1 A2 m2 c2 A3 m3 c3 A4 m4 c4 A5 m5 c5 A6 m6 c6 A7 m7 c7) 30 (0,0)),(w.heap.size+1,.cells #[I_ (j:Int)] 3 (0,0)),(w.heap.size+1+1,bM),(w.heap.size+1+1+1,jD),(w.heap.size+1+1+1+1,.cells #[I_ 0,I_ 0,I_ 0] 62 (0,0))] wx/\Bd wx (S6 S (w)) B1 X gf nf cf gr nr cr (S_ E3 e3 Y) (S_ E4 e4 k4) (S_ E5 e5 k5) (S_ E6 e6 k6) (S_ E7 e7 k7) C)
 case first=>
  go_region
  go_wp2;go_meet
  case rel=>exact ⟨rfl,ag.step B_.drew,a9.step B_.drew⟩
 case rest=>
  obtain ⟨rfl,b1,b0⟩:=hcut;have ah:=H_ b1;have a0:=H_ b0;clear b1 b0 ag a9 L au fj x0;obtain ⟨z7,z8,z9,z6⟩:=LW.fl_at a0.files HJ.out;have ze:=a0.files.fl_seq HJ;have b7:=a0.files.lt
  rename World=>V3
  go_upto_region 5 with fail
  go_cut [12,13] from 43 to 55 (fun s12 s13 wx=>∃z,s12 = P_ z/\s13 = I_ er/\V3.heap.size<=z/\bA wx z #[I_ E,I_ H,I_ b'] 62/\s_ V3 wx)
  case first=>
   refine bX (Γ:=Option Nat) 95 15 (fun i=>decide (i<=12)||decide (i=14)) (fun γ d wx=>CBx V3 14 15 3 62 #[I_ E,I_ H,I_ b'] γ d wx) (fun γ k v _=>G5c gf j y.seq sz y.blocks E H b' er γ k v) none q_ q_ rfl (CBx.start V3 14 15 3 _ _).drew (fun ii oo A n γ v _ hg=>by
    match ii with
    | 0=>obtain rfl:=bH A;cases n
    | 1=>obtain rfl:=bH A;cases n
    | 2=>obtain rfl:=bH A;cases n
    | 3=>obtain rfl:=bH A;cases n
    | 4=>obtain rfl:=bH A;cases n
    | 5=>obtain rfl:=bH A;cases n
    | 6=>obtain rfl:=bH A;cases n
    | 7=>obtain rfl:=bH A;cases n
    | 8=>obtain rfl:=bH A;cases n
    | 9=>obtain rfl:=bH A;cases n
    | 10=>obtain rfl:=bH A;cases n
    | 11=>obtain rfl:=bH A;cases n
    | 12=>obtain rfl:=bH A;cases n
    | 13=>obtain rfl:=bH A;cases n
    | 14=>obtain rfl:=bH A;cases n
    | 15=>trivial
    | 16=>obtain rfl:=bH A;cases n
    | _+17=>trivial) ?_
   refine qE fun v0=>qE fun v1=>qE fun v2=>?_;simp only[ly];refine k_ (fun γ O q W a7 m n K o=>?_) (fun v3=>?_)
   ·obtain rfl:v2=_:=n 2 q_;have z0:=(g_ (m.bl.block _ b7)).trans ze;go_simp;exact o γ _ _ (m.more cE cE B_) (fun _ _ h=>h) rfl
   simp only[ly];refine qE fun v4=>qE fun v5=>?_;simp only[ly];refine qE fun v6=>qE fun v7=>?_;simp only[ly];refine k_ (fun γ O q W a7 m n K o=>?_) (fun v8=>?_)
   ·obtain rfl:v7=_:=n 7 q_;have z0:=(g_ (m.bl.block _ b7)).trans z7;go_simp;exact o γ _ _ (m.more cE cE B_) (fun _ _ h=>h) rfl
   simp only[ly];refine qE fun v9=>?_;simp only[ly];refine k_ (fun γ O q W a7 m n K o=>?_) (fun v10=>?_)
   ·obtain rfl:v9=_:=n 9 q_;go_simp
    go_at_call 74
    refine (bb _).mono ?_;rintro e w4 ⟨rfl,bn⟩;exact o γ _ _ (m.more cE cE bn) (fun _ _ h=>h) rfl
   simp only[ly];refine qE fun v11=>qE fun v12=>qE fun v13=>?_;simp only[ly];refine k_ (fun γ O q W a7 m n K o=>?_) (fun v14=>?_)
   ·have bo:O 15=false:=by
     cases hh:O 15 with
     | false=>rfl
     | true=>have:=a7 hh;cases this
    obtain rfl:=m.no W;go_simp;exact o (some q.heap.size) _ _ (m.box W bo cE _ rfl) (fun k u h=>by
     match k with
     | 14=>obtain ⟨z,h,_⟩:=h;cases h
     | 0=>exact h
     | 1=>exact h
     | 2=>exact h
     | 3=>exact h
     | 4=>exact h
     | 5=>exact h
     | 6=>exact h
     | 7=>exact h
     | 8=>exact h
     | 9=>exact h
     | 10=>exact h
     | 11=>exact h
     | 12=>exact h
     | 13=>exact h
     | 15=>trivial
     | 16=>exact h
     | _+17=>trivial) ⟨_,rfl,rfl⟩
   simp only[ly];refine k_ (fun γ O q W a7 m n K o=>?_) (fun v15=>?_)
   ·obtain ⟨z,rfl,ez⟩:=n 14 q_;obtain rfl:v14=_:=ez;obtain rfl:v12=_:=n 12 q_;obtain ⟨k1,c0,k2,Y,_⟩:=m.at_ z rfl;refine aE rfl 62 (.tmp 12) (.tmp 54) rfl rfl #[I_ E,I_ H,I_ b'] rfl rfl 62 c0 k2 jM (by rw [Y];rfl) (oJ) ?_;exact o (some z) undef _ (m.fill cE rfl) (fun _ _ h=>h) trivial
   simp only[ly];refine qE fun v16=>?_;simp only[ly];refine dI ?_;intro γ O q N m hG;obtain ⟨z,rfl,ez⟩:=hG 14 cE;obtain rfl:v14=_:=ez;obtain rfl:v16=_:=hG 16 cE;obtain ⟨k1,c0,k2,_,k4⟩:=m.at_ z rfl;obtain rfl:=k4 (N 15 cE);have ak:=m.bl;clear m hG N;go_wp2;go_meet
   case rel=>exact ⟨z,rfl,rfl,k1,k2,ak⟩
  case rest=>
   obtain ⟨z,rfl,rfl,hz,hi,M⟩:=hcut;have R:=H_ (ah.step M);have I:=H_ (a0.step M);have af:=H_ hi;have br:∀(g':Nat) (ob:Obj),(g',ob) ∈ ([(w.heap.size,.cells (D_ A1 C.files.length c1 A2 m2 c2 A3 m3 c3 A4 m4 c4 A5 m5 c5 A6 m6 c6 A7 m7 c7) 30 (0,0)),(w.heap.size+1,.cells #[I_ (j:Int)] 3 (0,0)),(w.heap.size+1+1,bM),(w.heap.size+1+1+1,jD),(w.heap.size+1+1+1+1,.cells #[I_ 0,I_ 0,I_ 0] 62 (0,0))]:List (Nat × Obj))->g'<B1:=fun g' ob hm=>by
    simp only[qL,List.not_mem_nil,or_false,Prod.mk.injEq] at hm
    rcases hm with ⟨rfl,_⟩ | ⟨rfl,_⟩ | ⟨rfl,_⟩ | ⟨rfl,_⟩ | ⟨rfl,_⟩ <;> omega
   have bu:w.heap.size<=B1:=O_
   have ca:w.heap.size+1+1+1+1<z:=gX (n_ (ah.bk _ _ M4_)) hz;clear M hi ah a0 z7 z8 z9 z6 ze bb
   rcases ae.out with ⟨F,rfl,rfl,rfl,rfl⟩ | ⟨F,hq',hs',hb',rfl⟩
   ·have HP:=H_ (show sZ C j y sz C yK (qZ 0 0 0) 3 by unfold sZ;rw [if_pos F];exact ⟨rfl,rfl,rfl,rfl⟩);clear F ae;have L:=I.box;obtain ⟨x0,x1,x2,x3,x4,x5,x6⟩:=T_ L;have HR:=R.bk _ _ lN;have HQ:=R.bk _ _ uU;have HN:=R.bk _ _ M4_
    go_wp2_with (first
     | (refine Q_ rfl (.tmp 6) (.tmp 61) rfl rfl rfl rfl HR rfl ?_)
     | (refine cZ rfl 37 (.tmp 7) (.tmp 62) rfl rfl (w+1+1+1) jJ rfl rfl 37 _ ((setRow_other _ (w+1+1) (w+1+1+1) _ O_).trans HQ) aW rfl (cN) ?_)
     | (refine cZ rfl 62 (.tmp 8) (.tmp 63) rfl rfl (w+1+1+1+1) #[I_ 0,I_ 0,I_ 0] rfl rfl 62 _ ((setRow_other _ (w+1+1+1) (w+1+1+1+1) _ O_).trans ((setRow_other _ (w+1+1) (w+1+1+1+1) _ O_).trans HN)) jM rfl (oJ) ?_))
    show bodyPost prog f22 _ _ _ _
    have bi:((wc.setRow (w+1+1) (D_ (o_ gf) nf cf (o_ gr) nr cr E3 e3 Y E4 e4 k4 E5 e5 k5 E6 e6 k6 E7 e7 k7)).setRow (w+1+1+1) jJ).heap[w.heap.size+1+1+1]?=some (jD):=setRow_heap _ _ _ _ _ _ ((setRow_other wc (w+1+1) (w+1+1+1) (D_ (o_ gf) nf cf (o_ gr) nr cr E3 e3 Y E4 e4 k4 E5 e5 k5 E6 e6 k6 E7 e7 k7) O_).trans HQ);have bh:=(setRow_other (wc.setRow (w+1+1) (D_ (o_ gf) nf cf (o_ gr) nr cr E3 e3 Y E4 e4 k4 E5 e5 k5 E6 e6 k6 E7 e7 k7)) (w+1+1+1) (w+1+1+1+1) jJ O_).trans ((setRow_other wc (w+1+1) (w+1+1+1+1) (D_ (o_ gf) nf cf (o_ gr) nr cr E3 e3 Y E4 e4 k4 E5 e5 k5 E6 e6 k6 E7 e7 k7) O_).trans HN);have bj:=(setRow_other (wc.setRow (w+1+1) (D_ (o_ gf) nf cf (o_ gr) nr cr E3 e3 Y E4 e4 k4 E5 e5 k5 E6 e6 k6 E7 e7 k7)) (w+1+1+1) (w+1+1) jJ O_).trans (setRow_heap _ _ _ _ _ _ HR);refine bodyPost_ret (eT_ rfl rfl rfl rfl rfl ((setRow_other _ (w+1+1+1+1) (w+1+1) _ O_).trans bj) ((setRow_other _ (w+1+1+1+1) (w+1+1+1) _ O_).trans bi) (setRow_heap _ _ _ _ _ _ bh) rfl rfl rfl) rfl ?_
    refine ⟨C,_,_,_,_,_,_,_,_,_,_,HP.out,rfl,(((I.boxRow (Z:=w.heap.size+1+1) O_ (fun h=>h.2.2.2.1 rfl) (D_ (o_ gf) nf cf (o_ gr) nr cr E3 e3 Y E4 e4 k4 E5 e5 k5 E6 e6 k6 E7 e7 k7)).boxRow (Z:=w.heap.size+1+1+1) O_ (fun h=>h.2.2.2.2.1 rfl) jJ).boxRow (Z:=w.heap.size+1+1+1+1) O_ (fun h=>h.2.2.2.2.2 rfl) _).at_.weak (fun z _ hz=>hz.1),d_ (d_ (d_ R.below O_ _) O_ _) O_ _⟩
   ·have HP:=H_ (show sZ C j y sz {C with files:=C.files.set j {y with seq:=E}} (rqC y (nM E H b' j)) (qZ E H b') 0 by unfold sZ;rw [if_neg F,hq',hs',hb'];exact ⟨rfl,rfl,rfl,rfl⟩)
    clear F hq' hs' hb' ae;obtain ⟨⟨u,hu⟩,bp⟩:=I.files.slot (i:=j) O_ (p:=14) O_;have i0:=sF af
    go_upto_region 9 with fail
    have J:=H_ (I.putFiles (y_ wc ⟨gf,j*15+14,none⟩ (I_ E)) (I.files.seq HJ.out E) A_);have U:=H_ (R.grown (y_ wc ⟨gf,j*15+14,none⟩ (I_ E)) (fun k e=>by cases e;exact I.o1) br bu);have a2:=H_ ((iH wc ⟨gf,j*15+14,none⟩ (I_ E) z (by show z≠gf;omega)).trans af.out);generalize wc.setCell ⟨gf,j*15+14,none⟩ (I_ E)=G at J U a2;clear I R af hu bp i0;obtain ⟨dd,al⟩:=bL (nM E H b' j);obtain ⟨eB,ac⟩:=bL (y.slot*18+(1 - y.which));rw [<-al] at HP;have bg:=H_ al;have aa:=H_ ac;clear al ac;have P:=J.files.lt;obtain ⟨p0,p1,p2⟩:=J.files.fl_pl (lM bq);have bt:=gJ (x:=1 - y.which) (by have:=ai.out;omega);have an:=fun w'=>uF y.slot (1 - y.which) w' aw.out (by have:=ai.out;omega);rw [<-aa.out] at an;have bd:=fun w' (M:s_ G w')=>uM y.dev y.slot 2 eB 1 (.inr ⟨z,w+1,rfl,rfl⟩) dd w' (fun c8 ab=>by
     rw [bg.out];exact a4_ E H b' j (h_ a2 (e_ M ab)) (h_ (U.bk _ _ lK) (e_ M ab)))
    go_cut [14] from 70 to 86 (fun s14 wx=>∃r,s14 = P_ r/\G.heap.size<=r/\bA wx r (aO 0 0 y.dev 2 eB 1 dd false false 0) 37/\s_ G wx)
    case first=>
     refine aD 18 95 [SP.eq (.pointer (some ⟨gf,j*15,none⟩)),SP.eq (.pointer (some ⟨gf,j*15,none⟩)),SP.eq (.pointer (some ⟨gf,j*15,none⟩)),SP.eq (.agg #[I_ y.dev,I_ y.slot]),SP.eq (.pointer (some ⟨gf,j*15,none⟩)),SP.eq (.pointer (some ⟨gf,j*15,none⟩)),SP.eq (.pointer (some ⟨gf,j*15,none⟩)),SP.eq (.pointer (some ⟨gf,j*15+1,none⟩)),SP.eq (I_ y.slot),SP.eq (.pointer (some ⟨gf,j*15,none⟩)),SP.eq (.pointer (some ⟨gf,j*15,none⟩)),SP.eq (.pointer (some ⟨gf,j*15+13,none⟩)),SP.eq (I_ y.which),SP.eq (I_ (1 - y.which)),SP.eq (I_ eB),SP.eq (.func (.func 77) #[] #[P_ z,P_ (w+1)]),SP.eq (.agg (aO 0 0 y.dev 2 eB 1 dd false false 0)),SP.bx (G) (jD)] q_ q_ rfl ?_;simp only[vG];refine qC fun v0=>qC fun v1=>qC fun v2=>?_;simp only[ly];refine f_ (fun q m n K o=>?_) (fun v3=>?_)
     ·obtain rfl:v2=_:=n 2 q_;obtain ⟨t0,t1⟩:=kt2 ((show s_ G q from m).block _ P) p0 p1;go_simp;exact o _ _ m B_ rfl
     simp only[ly];refine qC fun v4=>qC fun v5=>?_;simp only[ly];refine qC fun v6=>qC fun v7=>?_;simp only[ly];refine f_ (fun q m n K o=>?_) (fun v8=>?_)
     ·obtain rfl:v7=_:=n 7 q_;have t1:=(g_ ((show s_ G q from m).block _ P)).trans p1;go_simp;exact o _ _ m B_ rfl
     simp only[ly];refine qC fun v9=>qC fun v10=>qC fun v11=>?_;simp only[ly];refine f_ (fun q m n K o=>?_) (fun v12=>?_)
     ·obtain rfl:v11=_:=n 11 q_;have t1:=(g_ ((show s_ G q from m).block _ P)).trans p2;go_simp;exact o _ _ m B_ rfl
     simp only[ly];refine qC fun v13=>?_;simp only[ly];refine f_ (fun q m n K o=>?_) (fun v14=>?_)
     ·obtain rfl:v8=_:=n 8 q_;obtain rfl:v13=_:=n 13 q_;go_simp
      go_at_call 76
      refine (an _).mono ?_;rintro e w6 ⟨rfl,rfl⟩;exact o _ _ m B_ rfl
     simp only[ly];refine qC fun v15=>?_;simp only[ly];refine f_ (fun q m n K o=>?_) (fun v16=>?_)
     ·obtain rfl:v3=_:=n 3 q_;obtain rfl:v14=_:=n 14 q_;obtain rfl:v15=_:=n 15 q_;go_simp
      go_at_call 75
      refine (bd _ m).mono ?_;rintro e w6 ⟨rfl,b6⟩;exact o _ _ (e_ m b6) b6 rfl
     simp only[ly];refine f_ (fun q m n K o=>?_) (fun v17=>?_)
     ·go_simp;exact o _ _ (a_ m (jD)) (a_ B_ (jD)) ⟨_,rfl,(show s_ G q from m).size,l_ q (jD) _ rfl⟩
     simp only[ly];refine aK ?_;intro q m hG;obtain ⟨r,ez,a8,hr⟩:=hG 17 O_;obtain rfl:v17=_:=ez;obtain rfl:v16=_:=hG 16 O_;have HC:=H_ (show s_ G q from m);clear hG m
     go_wp2_with (refine cZ rfl 37 (.tmp 14) (.tmp 86) rfl rfl r (aO 0 0 y.dev 2 eB 1 dd false false 0) rfl rfl 37 _ hr aW rfl (cN) ?_)
     go_meet
     case rel=>exact ⟨r,rfl,a8,setRow_heap _ _ _ _ _ _ hr,d_ HC a8 _⟩
    case rest=>
     obtain ⟨r,rfl,a8,hr,M⟩:=hcut;have av:=H_ (U.step M);have a1:=H_ ((J.weak (S':=fun z=>S6 S (w) z/\z<G.heap.size) (fun z h1 h2=>⟨h2,h1⟩)).step M);have aq:=fC a2 M;have bv:=n_ a2;have bm:=n_ J.box;have b8:=J.frames.lt;have ba:∀(g':Nat) (ob:Obj),(g',ob) ∈ ([(w.heap.size,.cells (D_ A1 C.files.length c1 A2 m2 c2 A3 m3 c3 A4 m4 c4 A5 m5 c5 A6 m6 c6 A7 m7 c7) 30 (0,0)),(w.heap.size+1,.cells #[I_ (j:Int)] 3 (0,0)),(w.heap.size+1+1,bM),(w.heap.size+1+1+1,jD),(w.heap.size+1+1+1+1,.cells #[I_ 0,I_ 0,I_ 0] 62 (0,0))]:List (Nat × Obj))->g'<G.heap.size:=fun g' ob hm=>n_ (U.bk g' ob hm);have be:=U.below.size;clear U J a2 p0 p1 p2 bt an bd M aw ai;have Q:=H_ hr;clear hr;have r7:=b_ Q 7;have r8:=b_ Q 8;have bw:=t_ Q 7;have bz:=t_ Q 8;simp only[zl] at r7 r8
     go_upto_region 11 with fail
     have b3:S8 (w) X:=⟨by have:=a1.o0;omega,by have:=a1.o0;omega,by have:=a1.o0;omega⟩;have a5:=H_ ((av.grown (B:=G.heap.size) (y_ wc ⟨r,7,none⟩ (.bool true)) (fun k e=>by cases e;exact a8) ba be).grown (B:=G.heap.size) (y_ (wc.setCell ⟨r,7,none⟩ (.bool true)) ⟨r,8,none⟩ (.bool true)) (fun k e=>by cases e;exact a8) ba be);have s:=H_ (show ((wc.setCell ⟨r,7,none⟩ (.bool true)).setCell ⟨r,8,none⟩ (.bool true)).heap[r]?=some (.cells (aO 0 0 y.dev 2 eB 1 dd true true 0) 37 (0,0)) from W_ (show (wc.setCell ⟨r,7,none⟩ (.bool true)).heap[r]?=some (.cells (aO 0 0 y.dev 2 eB 1 dd true false 0) 37 (0,0)) from W_ Q _) _);have ko:∀(k:Nat),k<G.heap.size->((wc.setCell ⟨r,7,none⟩ (.bool true)).setCell ⟨r,8,none⟩ (.bool true)).heap[k]?=wc.heap[k]?:=fun k hk=>(iH _ ⟨r,8,none⟩ (.bool true) k (by show k≠r;omega)).trans (iH wc ⟨r,7,none⟩ (.bool true) k (by show k≠r;omega));have a3:=H_ ((ko z bv).trans aq);have D:=H_ (a1.kept ((r_.of_setCell wc ⟨r,7,none⟩ (.bool true) (fun h=>by have:r<G.heap.size:=h.1.2;omega)).trans (r_.of_setCell _ ⟨r,8,none⟩ (.bool true) (fun h=>by have:r<G.heap.size:=h.1.2;omega))) (ko X bm) (ko gf P) (ko gr b8));generalize (wc.setCell ⟨r,7,none⟩ (.bool true)).setCell ⟨r,8,none⟩ (.bool true)=V7 at a5 s a3 D;clear av Q aq a1 r7 r8 bw bz ko;have L:=D.box;obtain ⟨x0,x1,x2,x3,x4,x5,x6⟩:=T_ L;have b4:=n_ L;have bs:=n_ s;have b9:=n_ a3;have u0:=b_ s 0;have u1:=b_ s 1;have u2:=b_ s 2;have u3:=b_ s 3;have u4:=b_ s 4;have u5:=b_ s 5;have u6:=b_ s 6;have u7:=b_ s 7;have u8:=b_ s 8
     have u9:=b_ s 9;have i0:=b_ a3 0;have i1:=b_ a3 1;have i2:=b_ a3 2;simp only[zl] at u0 u1 u2 u3 u4 u5 u6 u7 u8 u9 i0 i1 i2;have ap:=(STx.start (S:=S8 (w)) (l:=[(6,w+1+1,30,(D_ (o_ gf) nf cf (o_ gr) nr cr E3 e3 Y E4 e4 k4 E5 e5 k5 E6 e6 k6 E7 e7 k7)),(7,w+1+1+1,37,(aO 0 0 y.dev 2 eB 1 dd true true 0)),(8,w+1+1+1+1,62,#[I_ E,I_ H,I_ b'])]) a5.below (fun k z' t cs hm=>by
      simp only[qL,List.not_mem_nil,or_false,Prod.mk.injEq] at hm
      rcases hm with ⟨rfl,rfl,rfl,rfl⟩ | ⟨rfl,rfl,rfl,rfl⟩ | ⟨rfl,rfl,rfl,rfl⟩
      ·exact ⟨_,a5.bk _ _ lN,rfl⟩
      ·exact ⟨_,a5.bk _ _ uU,rfl⟩
      ·exact ⟨_,a5.bk _ _ M4_,rfl⟩)).drew
     refine bX (Γ:=Unit) 95 8 (fun i=>decide (i<=7)) (fun _ d wx=>STx V7 (S8 (w)) [(6,w+1+1,30,(D_ (o_ gf) nf cf (o_ gr) nr cr E3 e3 Y E4 e4 k4 E5 e5 k5 E6 e6 k6 E7 e7 k7)),(7,w+1+1+1,37,(aO 0 0 y.dev 2 eB 1 dd true true 0)),(8,w+1+1+1+1,62,#[I_ E,I_ H,I_ b'])] (w) w d wx) (fun _ k v _=>G9c X (.agg (D_ (o_ gf) nf cf (o_ gr) nr cr E3 e3 Y E4 e4 k4 E5 e5 k5 E6 e6 k6 E7 e7 k7)) (.agg (aO 0 0 y.dev 2 eB 1 dd true true 0)) (.agg #[I_ E,I_ H,I_ b']) k v) () q_ q_ rfl ap (fun ii oo A n _ v _ hg=>by
      match ii with
      | 0=>obtain rfl:=bH A;cases n
      | 1=>obtain rfl:=bH A;cases n
      | 2=>obtain rfl:=bH A;cases n
      | 3=>obtain rfl:=bH A;cases n
      | 4=>obtain rfl:=bH A;cases n
      | 5=>obtain rfl:=bH A;cases n
      | 6=>trivial
      | 7=>trivial
      | 8=>trivial
      | 9=>obtain rfl:=bH A;cases n
      | _+10=>trivial) ?_
     refine qE fun v0=>qE fun v1=>qE fun v2=>?_;simp only[ly];refine k_ (fun _ O q _ _ m n K o=>?_) (fun v3=>?_)
     ·obtain rfl:v2=_:=n 2 q_;have F:=m.kp.2 X b3 b4;have ao:=kt7 F x0 x1 x2 x3 x4 x5 x6;clear x0 x1 x2 x3 x4 x5 x6;obtain ⟨x0,x1,x2,x3,x4,x5,x6⟩:=ao;go_simp;exact o () _ _ (m.more rfl) (fun _ _ h=>h) rfl
     simp only[ly];refine k_ (fun _ O q _ _ m n K o=>?_) (fun v4=>?_)
     ·have F:=m.kp.2 r ⟨O_,O_,O_⟩ bs;have ao:=i2_ F u0 u1 u2 u3 u4 u5 u6 u7 u8 u9;clear u0 u1 u2 u3 u4 u5 u6 u7 u8 u9;obtain ⟨u0,u1,u2,u3,u4,u5,u6,u7,u8,u9⟩:=ao;go_simp;exact o () _ _ (m.more rfl) (fun _ _ h=>h) rfl
     simp only[ly];refine k_ (fun _ O q _ _ m n K o=>?_) (fun v5=>?_)
     ·have F:=m.kp.2 z ⟨O_,O_,O_⟩ b9;replace i0:=(g_ F).trans i0;replace i1:=(g_ F).trans i1;replace i2:=(g_ F).trans i2;go_simp;exact o () _ _ (m.more rfl) (fun _ _ h=>h) rfl
     simp only[ly];refine k_ (fun _ O q _ _ m n K o=>?_) (fun v6=>?_)
     ·obtain rfl:v3=_:=n 3 q_;obtain ⟨c0,k1,k2,_⟩:=m.rows 6 _ _ _ dV;refine aE rfl 30 (.tmp 6) (.tmp 92) rfl rfl (D_ (o_ gf) nf cf (o_ gr) nr cr E3 e3 Y E4 e4 k4 E5 e5 k5 E6 e6 k6 E7 e7 k7) rfl rfl 30 c0 k1 cD (by rw [k2]) (fQ) ?_;exact o () undef _ (m.fill dV O_ (fun h=>h.1 rfl) (by intro x hx;simp only[qL,List.not_mem_nil,or_false] at hx;rcases hx with rfl | rfl | rfl;exact .inl rfl;exact .inr ⟨Nat.ne_of_beq_eq_false rfl,by show w.heap.size+1+1+1≠w.heap.size+1+1;omega⟩;exact .inr ⟨Nat.ne_of_beq_eq_false rfl,by show w.heap.size+1+1+1+1≠w.heap.size+1+1;omega⟩)) (fun _ _ h=>h) trivial
     simp only[ly];refine k_ (fun _ O q _ _ m n K o=>?_) (fun v7=>?_)
     ·obtain rfl:v4=_:=n 4 q_;obtain ⟨c0,k1,k2,_⟩:=m.rows 7 _ _ _ lK;refine aE rfl 37 (.tmp 7) (.tmp 93) rfl rfl (aO 0 0 y.dev 2 eB 1 dd true true 0) rfl rfl 37 c0 k1 aW (by rw [k2]) (cN) ?_;exact o () undef _ (m.fill lK O_ (fun h=>h.2.1 rfl) (by intro x hx;simp only[qL,List.not_mem_nil,or_false] at hx;rcases hx with rfl | rfl | rfl;exact .inr ⟨Nat.ne_of_beq_eq_false rfl,by show w.heap.size+1+1≠w.heap.size+1+1+1;omega⟩;exact .inl rfl;exact .inr ⟨Nat.ne_of_beq_eq_false rfl,by show w.heap.size+1+1+1+1≠w.heap.size+1+1+1;omega⟩)) (fun _ _ h=>h) trivial
     simp only[ly];refine k_ (fun _ O q _ _ m n K o=>?_) (fun v8=>?_)
     ·obtain rfl:v5=_:=n 5 q_;obtain ⟨c0,k1,k2,_⟩:=m.rows 8 _ _ _ lN;refine aE rfl 62 (.tmp 8) (.tmp 94) rfl rfl #[I_ E,I_ H,I_ b'] rfl rfl 62 c0 k1 jM (by rw [k2]) (oJ) ?_;exact o () undef _ (m.fill lN O_ (fun h=>h.2.2 rfl) (by intro x hx;simp only[qL,List.not_mem_nil,or_false] at hx;rcases hx with rfl | rfl | rfl;exact .inr ⟨Nat.ne_of_beq_eq_false rfl,by show w.heap.size+1+1≠w.heap.size+1+1+1+1;omega⟩;exact .inr ⟨Nat.ne_of_beq_eq_false rfl,by show w.heap.size+1+1+1≠w.heap.size+1+1+1+1;omega⟩;exact .inl rfl)) (fun _ _ h=>h) trivial
     simp only[ly];refine qE fun v9=>?_;simp only[ly];refine dI ?_;intro _ O q N m hG;obtain rfl:v9=_:=hG 9 cE;have bf:=H_ (D.kept (m.kp.weak (fun k hk=>⟨hk.1.1.2.2.2.1,hk.1.1.2.2.2.2.1,hk.1.1.2.2.2.2.2⟩)) (m.kp.2 X b3 b4) (m.kp.2 gf ⟨by have:=D.o1;omega,by have:=D.o1;omega,by have:=D.o1;omega⟩ D.files.lt) (m.kp.2 gr ⟨by have:=D.o2;omega,by have:=D.o2;omega,by have:=D.o2;omega⟩ D.frames.lt));obtain ⟨c0,hR,_,hc⟩:=m.rows 6 _ _ _ dV;obtain rfl:=hc (N 6 cE);obtain ⟨c0,hQ,_,hc⟩:=m.rows 7 _ _ _ lK;obtain rfl:=hc (N 7 cE);obtain ⟨c0,hN,_,hc⟩:=m.rows 8 _ _ _ lN;obtain rfl:=hc (N 8 cE);have ak:=m.bl;clear m hG N hc x0 x1 x2 x3 x4 x5 x6 u0 u1 u2 u3 u4 u5 u6 u7 u8 u9 i0 i1 i2 ap;go_wp2
     show bodyPost prog f22 _ _ _ _
     refine bodyPost_ret (eT_ rfl rfl rfl rfl rfl hR hQ hN rfl rfl rfl) rfl ?_;have hp:=HP.out;unfold rqC at hp;rw [<-aa.out] at hp;exact ⟨_,_,_,_,_,_,_,_,_,_,_,hp,rfl,bf.at_.weak (fun z _ hz=>hz.1.1),ak⟩
end
section
theorem LW.stable (h:LW jI w S g L) (hj:L[j]?=some y) (q s b:Int):LW jI (w.setCells g (j*15+10) [I_ q,I_ s,I_ b]) S g (L.set j {y with sseq:=q,ssize:=s,sblocks:=b}):=
 h.setPart (p:=10) hj (by show 10+3<=15;omega) (fun u a=>by simp at a;rcases a with rfl | rfl | rfl <;> rfl) (fun r c=>by
  obtain ⟨t,A,cap,d,f,i,k,rfl⟩:=c;exact ⟨t,A,cap,d,f,i,k,rfl⟩)
theorem LW.which (h:LW jI w S g L) (hj:L[j]?=some y) (v:Int):LW jI (w.setCell ⟨g,j*15+13,none⟩ (I_ v)) S g (L.set j {y with which:=v}):=
 LW.setOne (a':={y with which:=v}) (p:=13) h hj O_ rfl (fun r hr=>by
  obtain ⟨t,A,cap,k1,k2,k3,k4,rfl⟩:=hr;exact ⟨t,A,cap,k1,k2,k3,k4,rfl⟩)
theorem LW.fl_st (h:LW jI w S g L) (hj:L[j]?=some y):w.cell? ⟨g,j*15+10,none⟩=some (I_ y.sseq)/\w.cell? ⟨g,j*15+11,none⟩=some (I_ y.ssize)/\w.cell? ⟨g,j*15+12,none⟩=some (I_ y.sblocks)/\w.cell? ⟨g,j*15+13,none⟩=some (I_ y.which)/\w.cell? ⟨g,j*15+14,none⟩=some (I_ y.seq):=by
 obtain ⟨r,⟨t,A,cap,k1,k2,k3,k4,rfl⟩,hc⟩:=h.at_ hj;exact ⟨hc 10 _ rfl,hc 11 _ rfl,hc 12 _ rfl,hc 13 _ rfl,hc 14 _ rfl⟩
def cmb (y:Fl) (q s b wh:Int) (d1 d2:Bool):Fl:=⟨y.dev,y.slot,y.c,y.size,y.blocks,y.ecnt,y.eerr,if d1 then q else y.sseq,if d1 then s else y.ssize,if d1 then b else y.sblocks,if d2 then wh else y.which,y.seq⟩
def dx_ (y:Fl) (j:Nat) (q s b:Int):Bool:=uX q s b j != 0||(decide (q<=y.sseq)||decide (y.seq<q))
def qM (C:Ck) (j:Nat) (y:Fl) (q s b k:Int) (C':Ck) (err:Int):Prop:=
 if k≠0 then C'=C/\err=0 else if dx_ y j q s b=true then C'=C/\err=1 else C'={C with files:=C.files.set j (cmb y q s b (1 - y.which) true true)}/\err=0
def ju_ (gf j:Nat) (A:Value) (wh:Int):Nat->Value->Prop
 | 0,v=>v = .pointer (some ⟨gf,j*15,none⟩)
 | 1,v=>v = .pointer (some ⟨gf,j*15,none⟩)
 | 2,v=>v=A
 | 3,v=>v = .pointer (some ⟨gf,j*15,none⟩)
 | 4,v=>v = .pointer (some ⟨gf,j*15,none⟩)
 | 5,v=>v = .pointer (some ⟨gf,j*15+13,none⟩)
 | 6,v=>v = I_ wh
 | 7,v=>v = I_ (1 - wh)
 | 8,v=>v = .pointer (some ⟨gf,j*15,none⟩)
 | 9,v=>v = .pointer (some ⟨gf,j*15+10,none⟩)
 | 10,_=>True
 | 11,v=>v = .pointer (some ⟨gf,j*15,none⟩)
 | 12,v=>v = .pointer (some ⟨gf,j*15+13,none⟩)
 | _+13,_=>True
def sX (w:World) (l:List (Nat × Obj)) (P:Bool->Bool->World->Prop) (d:Nat->Bool) (wx:World):Prop:=St w l wx/\P (d 10) (d 13) wx
theorem sX.more {i:Nat} (h:sX w l P d wx) (h1:(10 == i)=false) (h2:(13 == i)=false):sX w l P (aI d i) wx:=by
 refine ⟨h.1,?_⟩;rw [N_ h1,N_ h2];exact h.2
theorem sX.a (hs:St w l wx) (h:P true (d 13) wx):sX w l P (aI d 10) wx:=by
 refine ⟨hs,?_⟩;rw [cI,N_ (i:=10) (j:=13) rfl];exact h
theorem sX.b (hs:St w l wx) (h:P (d 10) true wx):sX w l P (aI d 13) wx:=by
 refine ⟨hs,?_⟩;rw [cI,N_ (i:=13) (j:=10) rfl];exact h
theorem xU (j:Nat) (y:Fl) (q s b k:Int) {a1 a2 a3 a4 a5 a6 a7:Value} (h:x_ w S a1 a2 a3 a4 a5 a6 a7 C) (ok:lT C) (hj:C.files[j]?=some y) (hwh:0<=y.which/\y.which<2) (hS:∀z,w.heap.size<=z->S z) :
  C_ 26 #[bK a1 a2 a3 a4 a5 a6 a7,I_ (j:Int),qZ q s b,I_ k] w (fP (qM C j y q s b k) S w):=by
 have ax:=fun w' (hb:s_ w w') (hlt:w.heap.size+1+1<w'.heap.size)=>vC C a1 a2 a3 a4 a5 a6 a7 (S5e S (w)) w' ((h.weak (fun z hz hs=>⟨hs,O_,O_,O_⟩)).step hb) ok (fun z hz=>⟨hS z O_,O_,O_,O_⟩);have ad:=bI hj;have ae:=fun w' (hb:s_ w w')=>gY j (h.step hb);rw [show (decide (0<=(j:Int))&&decide ((j:Int)<(C.files.length:Int)))=true by simp;omega] at ae;obtain ⟨er,ac⟩:=bL (uX q s b j);have ab:=fun w'=>zE q s b j w';rw [<-ac] at ab;have bb:C.files.length<=100:=ok.ok.files.2;obtain ⟨M,c1,rfl,q1,q2⟩:=h.files.form;obtain ⟨N,m2,c2,rfl⟩:=h.frames.cap;obtain ⟨O,m3,c3,P,m4,c4,Q,m5,c5,R,m6,c6,U,m7,c7,rfl,rfl,rfl,rfl,rfl⟩:=x_.caps5 h;obtain ⟨HJ,b3,b1⟩:=eI hj hwh ac;have j2:(j:Int)<(C.files.length:Int):=O_
 have j0:(0:Int)<=(j:Int):=O_
 clear h ok hj hwh ac q1 q2;have HS:=H_ (show St w [(w.heap.size,.cells (D_ M C.files.length c1 N m2 c2 O m3 c3 P m4 c4 Q m5 c5 R m6 c6 U m7 c7) 30 (0,0)),(w.heap.size+1,.cells #[I_ q,I_ s,I_ b] 62 (0,0)),(w.heap.size+1+1,bM)] (((w.alloc (.cells (D_ M C.files.length c1 N m2 c2 O m3 c3 P m4 c4 Q m5 c5 R m6 c6 U m7 c7) 30)).alloc (.cells #[I_ q,I_ s,I_ b] 62)).alloc (bM)) from ((St.nil w).push _ _ rfl).push _ (w+1) A_ |>.push _ (w+1+1) A_);unfold qZ;go_enter func26,ntmps26
 go_upto_region 1 with fail
 generalize ((w.alloc (.cells (D_ M C.files.length c1 N m2 c2 O m3 c3 P m4 c4 Q m5 c5 R m6 c6 U m7 c7) 30)).alloc (.cells #[I_ q,I_ s,I_ b] 62)).alloc (bM)=V at HS;have ak:=HS.bk _ _ dV;have ar:w.heap.size+1+1<V.heap.size:=n_ (HS.bk _ _ lN);obtain ⟨x0,x1,x2,x3,x4,x5,x6⟩:=T_ ak
 go_upto_region 2 with (go_at_call 42;refine CM (ax _ HS.below ar) ?_;rintro e w1 ⟨X,gf,nf,cf,gr,nr,cr,c',d',e',f',g',rfl,hB,au⟩)
 have J:=H_ (HS.step au);have a0:=H_ hB;obtain ⟨B1,am⟩:=bL V.heap.size;rw [<-am] at a0 ar;obtain ⟨W,e3,k3,rfl⟩:=hB.zones.cap;obtain ⟨Y,e4,k4,rfl⟩:=hB.groups.cap;obtain ⟨E5,e5,k5,rfl⟩:=hB.lists.cap;obtain ⟨E6,e6,k6,rfl⟩:=hB.clocks.cap;obtain ⟨E7,e7,k7,rfl⟩:=hB.ptes.cap;clear x0 x1 x2 x3 x4 x5 x6 ak hB au HS am ax;have al:=J.bk _ _ dV;obtain ⟨x0,x1,x2,x3,x4,x5,x6⟩:=T_ al
 go_upto_region 4 with (go_at_call 73;refine CM (ae _ J.below) ?_;rintro e w2 ⟨rfl,a8⟩;have I:=H_ (J.step a8);have D:=H_ (a0.step a8))
 clear x0 x1 x2 x3 x4 x5 x6 al a8 J a0 ae
 by_cases hk:k=0
 ·subst hk;have r:=D.box;have x0:=sF r;have j3:(j:Int)<(nf:Int):=by have:=D.ef;omega
  have ah:=I.bk _ _ lK;obtain ⟨i0,i1,i2⟩:=cR ah
  go_upto_region 8 with (go_at_call 78;refine CM (ab _) ?_;rintro e w3 ⟨rfl,a9⟩;have G:=H_ (I.step a9);have E:=H_ (D.step a9))
  clear x0 r i0 i1 i2 ah I D a9 ab;have ai:=G.bk _ _ lK;obtain ⟨i0,i1,i2⟩:=cR ai;obtain ⟨b7,b8,b9,az,ba⟩:=E.files.fl_st HJ.out;obtain ⟨bd,o⟩:=bL ((er != 0||(decide (q<=y.sseq)||decide (y.seq<q))));have ag:=H_ (show dx_ y j q s b=bd by rw [o,b1.out];rfl)
  go_cut [63] from 43 to 62 (fun s63 wx=>s63 = .bool bd/\St w [(w.heap.size,.cells (D_ M C.files.length c1 N m2 c2 O m3 c3 P m4 c4 Q m5 c5 R m6 c6 U m7 c7) 30 (0,0)),(w.heap.size+1,.cells #[I_ q,I_ s,I_ b] 62 (0,0)),(w.heap.size+1+1,bM)] wx/\Bd wx (S5e S (w)) B1 X gf nf cf gr nr cr (S_ W e3 k3) (S_ Y e4 k4) (S_ E5 e5 k5) (S_ E6 e6 k6) (S_ E7 e7 k7) C)
  case first=>
   by_cases h1:er=0
   ·by_cases h2:q<=y.sseq
    ·rw [h1,dT h2] at o;subst h1;subst o
     go_region
     go_wp2;go_meet
     case rel=>exact ⟨rfl,G.step B_.drew,E.step B_.drew⟩
    ·by_cases h3:y.seq<q
     ·rw [h1,dF h2,dT h3] at o;subst h1;subst o
      go_region
      go_wp2;go_meet
      case rel=>exact ⟨rfl,G.step B_.drew,E.step B_.drew⟩
     ·rw [h1,dF h2,dF h3] at o;subst h1;subst o
      go_region
      go_wp2;go_meet
      case rel=>exact ⟨rfl,G.step B_.drew,E.step B_.drew⟩
   ·have b4:(er != 0)=true:=bne_iff_ne.2 h1;rw [b4] at o;simp only[Bool.true_or] at o;subst o
    go_region
    go_wp2;go_meet
    case rel=>exact ⟨rfl,G.step B_.drew,E.step B_.drew⟩
  case rest=>
   obtain ⟨rfl,ap,an⟩:=hcut;have L:=H_ ap;have F:=H_ an;clear ap an G E b7 b8 b9 az ba i0 i1 i2 ai o
   cases bd with
   | true=>
    have HP:=H_ (show qM C j y q s b 0 C 1 by unfold qM;rw [if_neg A_,if_pos ag.out];exact ⟨rfl,rfl⟩);have r:=F.box;obtain ⟨x0,x1,x2,x3,x4,x5,x6⟩:=T_ r;have t:=L.bk _ _ lN
    go_wp2_with (refine Q_ rfl (.tmp 8) (.tmp 67) rfl rfl rfl rfl t rfl ?_)
    show bodyPost prog f26 _ _ _ _
    refine bodyPost_ret (aG rfl rfl rfl (setRow_heap _ _ _ _ _ _ t)) rfl ?_;refine ⟨_,_,_,_,_,_,_,_,_,?_,rfl,(F.boxRow (Z:=w.heap.size+1+1) O_ (fun h=>h.2.2.2 rfl) (D_ (o_ gf) nf cf (o_ gr) nr cr W e3 k3 Y e4 k4 E5 e5 k5 E6 e6 k6 E7 e7 k7)).at_.weak (fun z _ hz=>hz.1),d_ L.below O_ _⟩;exact HP
   | false=>
    have aw:∀(g':Nat) (ob:Obj),(g',ob) ∈ ([(w.heap.size,.cells (D_ M C.files.length c1 N m2 c2 O m3 c3 P m4 c4 Q m5 c5 R m6 c6 U m7 c7) 30 (0,0)),(w.heap.size+1,.cells #[I_ q,I_ s,I_ b] 62 (0,0)),(w.heap.size+1+1,bM)]:List (Nat × Obj))->g'<B1:=fun g' ob hm=>by
     simp only[qL,List.not_mem_nil,or_false,Prod.mk.injEq] at hm
     rcases hm with ⟨rfl,_⟩ | ⟨rfl,_⟩ | ⟨rfl,_⟩ <;> omega
    have ay:w.heap.size<=B1:=O_
    have b6:=gJ (x:=1 - y.which) (by have:=b3.out;omega)
    rename World=>V4
    go_upto_region 10 with fail
    go_cut [] from 68 to 79 (fun wx=>St w [(w.heap.size,.cells (D_ M C.files.length c1 N m2 c2 O m3 c3 P m4 c4 Q m5 c5 R m6 c6 U m7 c7) 30 (0,0)),(w.heap.size+1,.cells #[I_ q,I_ s,I_ b] 62 (0,0)),(w.heap.size+1+1,bM)] wx/\Bd wx (S5e S (w)) B1 X gf nf cf gr nr cr (S_ W e3 k3) (S_ Y e4 k4) (S_ E5 e5 k5) (S_ E6 e6 k6) (S_ E7 e7 k7) {C with files:=C.files.set j (cmb y q s b (1 - y.which) true true)})
    case first=>
     have b0:sX w [(w.heap.size,.cells (D_ M C.files.length c1 N m2 c2 O m3 c3 P m4 c4 Q m5 c5 R m6 c6 U m7 c7) 30 (0,0)),(w.heap.size+1,.cells #[I_ q,I_ s,I_ b] 62 (0,0)),(w.heap.size+1+1,bM)] (fun d1 d2 wx=>Bd wx (S5e S (w)) B1 X gf nf cf gr nr cr (S_ W e3 k3) (S_ Y e4 k4) (S_ E5 e5 k5) (S_ E6 e6 k6) (S_ E7 e7 k7) {C with files:=C.files.set j (cmb y q s b (1 - y.which) d1 d2)}) (fun _=>false) {V4 with drawn:=V4.drawn+1}:=⟨L.step B_.drew,by
      show Bd V4.drew (S5e S (w)) B1 X gf nf cf gr nr cr (S_ W e3 k3) (S_ Y e4 k4) (S_ E5 e5 k5) (S_ E6 e6 k6) (S_ E7 e7 k7) {C with files:=C.files.set j y}
      rw [uO HJ.out];exact F.step B_.drew⟩
     refine bX (Γ:=Unit) 84 13 (fun i=>decide (i<=12)) (fun _ d wx=>sX w [(w.heap.size,.cells (D_ M C.files.length c1 N m2 c2 O m3 c3 P m4 c4 Q m5 c5 R m6 c6 U m7 c7) 30 (0,0)),(w.heap.size+1,.cells #[I_ q,I_ s,I_ b] 62 (0,0)),(w.heap.size+1+1,bM)] (fun d1 d2 wx=>Bd wx (S5e S (w)) B1 X gf nf cf gr nr cr (S_ W e3 k3) (S_ Y e4 k4) (S_ E5 e5 k5) (S_ E6 e6 k6) (S_ E7 e7 k7) {C with files:=C.files.set j (cmb y q s b (1 - y.which) d1 d2)}) d wx) (fun _ k v _=>ju_ gf j (.agg #[I_ q,I_ s,I_ b]) y.which k v) () q_ q_ rfl b0 (fun ii oo H f _ v _ hg=>by
      match ii with
      | 0=>obtain rfl:=bH H;cases f
      | 1=>obtain rfl:=bH H;cases f
      | 2=>obtain rfl:=bH H;cases f
      | 3=>obtain rfl:=bH H;cases f
      | 4=>obtain rfl:=bH H;cases f
      | 5=>obtain rfl:=bH H;cases f
      | 6=>obtain rfl:=bH H;cases f
      | 7=>obtain rfl:=bH H;cases f
      | 8=>obtain rfl:=bH H;cases f
      | 9=>obtain rfl:=bH H;cases f
      | 10=>trivial
      | 11=>obtain rfl:=bH H;cases f
      | 12=>obtain rfl:=bH H;cases f
      | _+13=>trivial) ?_
     refine k_ (fun _ B u m g c f K l=>?_) (fun v0=>?_)
     ·skip
      go_simp;exact l () _ _ (sX.more (i:=0) c rfl rfl) (fun _ _ h=>h) rfl
     simp only[ly];refine k_ (fun _ B u m g c f K l=>?_) (fun v1=>?_)
     ·skip
      go_simp;exact l () _ _ (sX.more (i:=1) c rfl rfl) (fun _ _ h=>h) rfl
     simp only[ly];refine k_ (fun _ B u m g c f K l=>?_) (fun v2=>?_)
     ·have b2:=c.1.bk _ _ lK;obtain ⟨i0,i1,i2⟩:=cR b2;go_simp;exact l () _ _ (sX.more (i:=2) c rfl rfl) (fun _ _ h=>h) rfl
     simp only[ly];refine k_ (fun _ B u m g c f K l=>?_) (fun v3=>?_)
     ·skip
      go_simp;exact l () _ _ (sX.more (i:=3) c rfl rfl) (fun _ _ h=>h) rfl
     simp only[ly];refine k_ (fun _ B u m g c f K l=>?_) (fun v4=>?_)
     ·obtain rfl:v3=_:=f 3 q_;go_simp;exact l () _ _ (sX.more (i:=4) c rfl rfl) (fun _ _ h=>h) rfl
     simp only[ly];refine k_ (fun _ B u m g c f K l=>?_) (fun v5=>?_)
     ·obtain rfl:v4=_:=f 4 q_;go_simp;exact l () _ _ (sX.more (i:=5) c rfl rfl) (fun _ _ h=>h) rfl
     simp only[ly];refine k_ (fun _ B u m g c f K l=>?_) (fun v6=>?_)
     ·obtain rfl:v5=_:=f 5 q_;have av:B 13=false:=by
       cases hh:B 13 with
       | false=>rfl
       | true=>have:=g hh;cases this
      have az:u.cell? ⟨gf,j*15+13,none⟩=some (I_ y.which):=by
       have:=(c.2.files.fl_st (lM ad)).2.2.2.1;rw [av] at this;exact this
      go_simp;exact l () _ _ (sX.more (i:=6) c rfl rfl) (fun _ _ h=>h) rfl
     simp only[ly];refine k_ (fun _ B u m g c f K l=>?_) (fun v7=>?_)
     ·obtain rfl:v6=_:=f 6 q_;go_simp;exact l () _ _ (sX.more (i:=7) c rfl rfl) (fun _ _ h=>h) rfl
     simp only[ly];refine k_ (fun _ B u m g c f K l=>?_) (fun v8=>?_)
     ·obtain rfl:v0=_:=f 0 q_;go_simp;exact l () _ _ (sX.more (i:=8) c rfl rfl) (fun _ _ h=>h) rfl
     simp only[ly];refine k_ (fun _ B u m g c f K l=>?_) (fun v9=>?_)
     ·obtain rfl:v8=_:=f 8 q_;go_simp;exact l () _ _ (sX.more (i:=9) c rfl rfl) (fun _ _ h=>h) rfl
     simp only[ly];refine k_ (fun _ B u m g c f K l=>?_) (fun v10=>?_)
     ·obtain rfl:v9=_:=f 9 q_;obtain rfl:v2=_:=f 2 q_;have b5:=c.2.files.there (i:=j) (p:=10) (n:=3) (by simp;omega) O_;refine aS (ops:=#[]) rfl (nK rfl 62 (.tmp 77) (.tmp 70) rfl gf (j*15+10) #[I_ q,I_ s,I_ b] rfl rfl b5 jM (oJ) ?_);have A:=c.2.putFiles (L_ u gf (j*15+10) [I_ q,I_ s,I_ b]) (c.2.files.stable (lM ad) q s b) A_;refine l () undef _ (sX.a (c.1.grown (L_ u gf (j*15+10) [I_ q,I_ s,I_ b]) (fun k e=>by cases e;exact F.o1) aw ay) ?_) (fun _ _ h=>h) trivial;rw [List.set_set] at A;exact A
     simp only[ly];refine k_ (fun _ B u m g c f K l=>?_) (fun v11=>?_)
     ·obtain rfl:v1=_:=f 1 q_;go_simp;exact l () _ _ (sX.more (i:=11) c rfl rfl) (fun _ _ h=>h) rfl
     simp only[ly];refine k_ (fun _ B u m g c f K l=>?_) (fun v12=>?_)
     ·obtain rfl:v11=_:=f 11 q_;go_simp;exact l () _ _ (sX.more (i:=12) c rfl rfl) (fun _ _ h=>h) rfl
     simp only[ly];refine k_ (fun _ B u m g c f K l=>?_) (fun v13=>?_)
     ·obtain rfl:v12=_:=f 12 q_;obtain rfl:v7=_:=f 7 q_;obtain ⟨⟨u',hu⟩,bc⟩:=c.2.files.slot (i:=j) (by simp;omega) (p:=13) O_;go_simp;have A:=c.2.putFiles (y_ u ⟨gf,j*15+13,none⟩ (I_ (1 - y.which))) (c.2.files.which (lM ad) (1 - y.which)) A_;refine l () undef _ (sX.b (c.1.grown (y_ u ⟨gf,j*15+13,none⟩ (I_ (1 - y.which))) (fun k e=>by cases e;exact F.o1) aw ay) ?_) (fun _ _ h=>h) trivial;rw [List.set_set] at A;exact A
     simp only[ly];refine dI ?_;intro _ B u aa c _;have h1:=c.1;have h2:=c.2;rw [aa 10 cE,aa 13 cE] at h2;clear c aa;go_wp2;go_meet
     case rel=>exact ⟨h1,h2⟩
    case rest=>
     obtain ⟨aq,ao⟩:=hcut;have aj:=H_ aq;have af:=H_ ao;clear aq ao L F b6;have HP:=H_ (show qM C j y q s b 0 {C with files:=C.files.set j (cmb y q s b (1 - y.which) true true)} 0 by unfold qM;rw [if_neg A_,if_neg (by rw [ag.out];simp)];exact ⟨rfl,rfl⟩)
     have r:=af.box;obtain ⟨x0,x1,x2,x3,x4,x5,x6⟩:=T_ r;have t:=aj.bk _ _ lN
     go_wp2_with (refine Q_ rfl (.tmp 8) (.tmp 83) rfl rfl rfl rfl t rfl ?_)
     show bodyPost prog f26 _ _ _ _
     refine bodyPost_ret (aG rfl rfl rfl (setRow_heap _ _ _ _ _ _ t)) rfl ?_;refine ⟨_,_,_,_,_,_,_,_,_,?_,rfl,(af.boxRow (Z:=w.heap.size+1+1) O_ (fun h=>h.2.2.2 rfl) (D_ (o_ gf) nf cf (o_ gr) nr cr W e3 k3 Y e4 k4 E5 e5 k5 E6 e6 k6 E7 e7 k7)).at_.weak (fun z _ hz=>hz.1),d_ aj.below O_ _⟩;exact HP
 ·have d3:(k != 0)=true:=bne_iff_ne.2 hk;have HP:=H_ (show qM C j y q s b k C 0 by unfold qM;rw [if_pos hk];exact ⟨rfl,rfl⟩);clear hk;have r:=D.box;obtain ⟨x0,x1,x2,x3,x4,x5,x6⟩:=T_ r;have t:=I.bk _ _ lN
  go_wp2_with (refine Q_ rfl (.tmp 8) (.tmp 29) rfl rfl rfl rfl t rfl ?_)
  show bodyPost prog f26 _ _ _ _
  refine bodyPost_ret (aG rfl rfl rfl (setRow_heap _ _ _ _ _ _ t)) rfl ?_;refine ⟨_,_,_,_,_,_,_,_,_,?_,rfl,(D.boxRow (Z:=w.heap.size+1+1) O_ (fun h=>h.2.2.2 rfl) (D_ (o_ gf) nf cf (o_ gr) nr cr W e3 k3 Y e4 k4 E5 e5 k5 E6 e6 k6 E7 e7 k7)).at_.weak (fun z _ hz=>hz.1),d_ I.below O_ _⟩;exact HP
end
section
theorem hh_ (a:Option Addr) (n c:Nat) (h:4<=n) (w:World):(Instr.arrayAt 198 (S_ a n c)).run prog w = .ok (.pointer a) w:=
 run_arrayAt w 198 5 4 a n c underlying198 h
def mK (a b c d:UInt8) (cap:Nat):Array Value:=bytesRow ⟨#[a,b,c,d]⟩ cap
theorem jQ (a b c d:UInt8) (cap:Nat):(mK a b c d cap)[0]?=some (.int .u8 a.toNat)/\(mK a b c d cap)[1]?=some (.int .u8 b.toNat)/\(mK a b c d cap)[2]?=some (.int .u8 c.toNat)/\(mK a b c d cap)[3]?=some (.int .u8 d.toNat):=
 ⟨bytesRow_at ⟨#[a,b,c,d]⟩ cap 0 A_,bytesRow_at ⟨#[a,b,c,d]⟩ cap 1 A_,bytesRow_at ⟨#[a,b,c,d]⟩ cap 2 A_,bytesRow_at ⟨#[a,b,c,d]⟩ cap 3 A_⟩
def dS (w:World):Nat:=grownCap w 4 0 5
theorem vR (a b c d:UInt8) (w:World):(convert 9 77 (.string ⟨#[a,b,c,d]⟩)).run prog w = .ok (S_ (some ⟨w,0,none⟩) 4 (dS w)) (w.drew.alloc (.cells (mK a b c d (dS w)) 5 ((mK a b c d (dS w)).size,(mK a b c d (dS w)).size+1))):=
 run_bytes_of_string w 9 77 5 ⟨#[a,b,c,d]⟩ underlying9 underlying77 underlying5
theorem dF_ (w:World) (C:Array Value) (t:TypeId) (fr:Nat × Nat) (n j:Nat) (h:w.heap.size=n):(w.alloc (.cells C t fr)).cell? ⟨n,j,none⟩=C[j]?:=by
 subst h;exact World.cell?_alloc_mark w C t fr j
theorem hr_ (a b c d e g h i:UInt8):(⟨#[a,b,c,d]⟩:ByteArray)=(⟨#[a,b,c,d,e,g,h,i]⟩:ByteArray).extract 0 4:=by rfl
theorem hq_ (a b c d e g h i:UInt8):(⟨#[e,g,h,i]⟩:ByteArray)=(⟨#[a,b,c,d,e,g,h,i]⟩:ByteArray).extract 4 8:=by rfl
theorem dR_ (a b c d e g h i:UInt8) (f:Int) (w:World) (h1:0<=f) (h2:f<8):C_ 148 #[.string (eB a b c d e g h i),I_ f] w (do_ (ok8 a b c d e g h i f) (((a.toNat:Nat):Int)*256+b.toNat) c.toNat d.toNat w):=by
 have hd:decide (0<=f/\f<8)=true:=by simp;omega
 unfold eB;go_enter func148,ntmps148
 go_upto_region 3 with (go_at_call 141;(with_reducible refine CM (sQ) ?_);rintro e w2 ⟨rfl,rfl⟩)
 have J:=vR a b c d;have L:=vR e g h i;simp only[show (convert 9 77 (.string ⟨#[a,b,c,d]⟩))=convert 9 77 (.string ((⟨#[a,b,c,d,e,g,h,i]⟩:ByteArray).extract 0 4)) from by rw [<-hr_]] at J;simp only[show (convert 9 77 (.string ⟨#[e,g,h,i]⟩))=convert 9 77 (.string ((⟨#[a,b,c,d,e,g,h,i]⟩:ByteArray).extract 4 8)) from by rw [<-hq_]] at L;have G:=dF_;have ha:=fun a c w=>hh_ a 4 c O_ w;obtain ⟨O,P,Q,R⟩:(∀k,(mK a b c d k)[0]?=some (.int .u8 a.toNat))/\(∀k,(mK a b c d k)[1]?=some (.int .u8 b.toNat))/\(∀k,(mK a b c d k)[2]?=some (.int .u8 c.toNat))/\(∀k,(mK a b c d k)[3]?=some (.int .u8 d.toNat)):=
  ⟨fun k=>(jQ a b c d k).1,fun k=>(jQ a b c d k).2.1,fun k=>(jQ a b c d k).2.2.1,fun k=>(jQ a b c d k).2.2.2⟩
 obtain ⟨M,N,S,U⟩:(∀k,(mK e g h i k)[0]?=some (.int .u8 e.toNat))/\(∀k,(mK e g h i k)[1]?=some (.int .u8 g.toNat))/\(∀k,(mK e g h i k)[2]?=some (.int .u8 h.toNat))/\(∀k,(mK e g h i k)[3]?=some (.int .u8 i.toNat)):=
  ⟨fun k=>(jQ e g h i k).1,fun k=>(jQ e g h i k).2.1,fun k=>(jQ e g h i k).2.2.1,fun k=>(jQ e g h i k).2.2.2⟩
 generalize mK a b c d=R1 at J O P Q R;generalize mK e g h i=R2 at L M N S U
 go_cut [6,7] (fun s t wx=>∃B C,s = P_ B/\t = P_ C/\bA wx B (eJ a b c d) 198/\bA wx C (eJ e g h i) 198/\
  bA wx (w) #[I_ 0,I_ 0,I_ 0] 62/\s_ w wx)
 case first=>
  have r:(w.alloc (.cells #[I_ 0,I_ 0,I_ 0] 62)).heap[w.heap.size]?=some (.cells #[I_ 0,I_ 0,I_ 0] 62 (0,0)):=heap_alloc_new _ _;have p:s_ w (w.alloc (.cells #[I_ 0,I_ 0,I_ 0] 62)):=B_.alloc (bE _) _;have q:w.heap.size<(w.alloc (.cells #[I_ 0,I_ 0,I_ 0] 62)).heap.size:=A_
  generalize w.alloc _=W at r p q;obtain ⟨E,A,F⟩:=eI r p q;clear r p q
  go_region
  all_goals go_wp2
  all_goals go_meet
  all_goals
   have q:=F.out;have p:=A.out;refine ⟨_,_,rfl,rfl,?_,?_,?_,?_⟩
   ·unfold eJ
    repeat (with_reducible first | exact bW (by first | assumption | (simp;done) | (simp;omega)) | refine (qX).trans ?_ | refine (dC (by first | assumption | (simp;done) | (simp;omega))).trans ?_)
   ·unfold eJ
    repeat (with_reducible first | exact bW (by first | assumption | (simp;done) | (simp;omega)) | refine (qX).trans ?_ | refine (dC (by first | assumption | (simp;done) | (simp;omega))).trans ?_)
   ·repeat (with_reducible first | exact E.out | refine (qX).trans ?_ | refine (dC (by first | assumption | (simp;done) | (simp;omega))).trans ?_)
   ·repeat (with_reducible first | exact p | apply Below.drew | refine a_ ?_ _)
 case rest=>
  clear J L ha G O P Q R M N S U;obtain ⟨B,C,rfl,rfl,j,o,l,x⟩:=hcut;have b0:=(b_ j 0).trans (show (eJ a b c d)[0]?=some (.int .u8 a.toNat) from rfl);have b1:=(b_ j 1).trans (show (eJ a b c d)[1]?=some (.int .u8 b.toNat) from rfl);have b2:=(b_ j 2).trans (show (eJ a b c d)[2]?=some (.int .u8 c.toNat) from rfl);have b3:=(b_ j 3).trans (show (eJ a b c d)[3]?=some (.int .u8 d.toNat) from rfl);have a8:=sL a;have b8:=sL b;have c8:=sL c;have d8:=sL d;have ho:=ew_ a b
  go_upto_region 4 with fail
  go_cut [8] (fun s wx=>∃D,s = P_ D/\bA wx D #[I_ ((a.toNat:Int)*256+b.toNat),I_ c.toNat,I_ d.toNat] 62/\bA wx B (eJ a b c d) 198/\bA wx C (eJ e g h i) 198/\
   bA wx (w) #[I_ 0,I_ 0,I_ 0] 62/\s_ w wx)
  case first=>
   go_wp2;go_meet
   case rel=>exact ⟨_,rfl,heap_alloc_new _ _,(Below.heap_alloc _ _ _ (Array.getElem?_eq_some_iff.1 j).1).trans j,(Below.heap_alloc _ _ _ (Array.getElem?_eq_some_iff.1 o).1).trans o,(Below.heap_alloc _ _ _ (Array.getElem?_eq_some_iff.1 l).1).trans l,a_ x _⟩
  case rest=>
   clear b0 b1 b2 b3 ho j o l x;obtain ⟨D,rfl,n,j,o,l,x⟩:=hcut
   go_upto_region 5 with fail
   go_cut [58] (fun s wx=>s = .bool (!ok8 a b c d e g h i f)/\bA wx D #[I_ ((a.toNat:Int)*256+b.toNat),I_ c.toNat,I_ d.toNat] 62/\
    bA wx (w) #[I_ 0,I_ 0,I_ 0] 62/\s_ w wx)
   case first=>
    have x0:∀z,(ext wc z).cell? ⟨B,0,none⟩=some (.int .u8 a.toNat):=fun z=>(R_ wc z B 0 (Array.getElem?_eq_some_iff.1 j).1).trans (b_ j 0);have x1:∀z,(ext wc z).cell? ⟨B,1,none⟩=some (.int .u8 b.toNat):=fun z=>(R_ wc z B 1 (Array.getElem?_eq_some_iff.1 j).1).trans (b_ j 1);have x2:∀z,(ext wc z).cell? ⟨B,2,none⟩=some (.int .u8 c.toNat):=fun z=>(R_ wc z B 2 (Array.getElem?_eq_some_iff.1 j).1).trans (b_ j 2);have x3:∀z,(ext wc z).cell? ⟨B,3,none⟩=some (.int .u8 d.toNat):=fun z=>(R_ wc z B 3 (Array.getElem?_eq_some_iff.1 j).1).trans (b_ j 3);have y0:∀z,(ext wc z).cell? ⟨C,0,none⟩=some (.int .u8 e.toNat):=fun z=>(R_ wc z C 0 (Array.getElem?_eq_some_iff.1 o).1).trans (b_ o 0);have y1:∀z,(ext wc z).cell? ⟨C,1,none⟩=some (.int .u8 g.toNat):=fun z=>(R_ wc z C 1 (Array.getElem?_eq_some_iff.1 o).1).trans (b_ o 1);have y2:∀z,(ext wc z).cell? ⟨C,2,none⟩=some (.int .u8 h.toNat):=fun z=>(R_ wc z C 2 (Array.getElem?_eq_some_iff.1 o).1).trans (b_ o 2);have y3:∀z,(ext wc z).cell? ⟨C,3,none⟩=some (.int .u8 i.toNat):=fun z=>(R_ wc z C 3 (Array.getElem?_eq_some_iff.1 o).1).trans (b_ o 3);have z0:∀z,(ext wc z).cell? ⟨D,0,none⟩=some (I_ ((a.toNat:Int)*256+b.toNat)):=fun z=>(R_ wc z D 0 (Array.getElem?_eq_some_iff.1 n).1).trans (b_ n 0);have z1:∀z,(ext wc z).cell? ⟨D,1,none⟩=some (I_ c.toNat):=fun z=>(R_ wc z D 1 (Array.getElem?_eq_some_iff.1 n).1).trans (b_ n 1);have z2:∀z,(ext wc z).cell? ⟨D,2,none⟩=some (I_ d.toNat):=fun z=>(R_ wc z D 2 (Array.getElem?_eq_some_iff.1 n).1).trans (b_ n 2);have H:=d7_ (pO a f) (pO b f) (pO c f) (pO d f) e g h i;have u:ok8 a b c d e g h i f=((pO a f == e&&pO b f == g&&pO c f == h&&pO d f == i)&&vaB ((a.toNat:Int)*256+b.toNat) c.toNat d.toNat):=by
     unfold ok8
     congr 1
     rw [Bool.eq_iff_iff];simp [vaB];omega
    generalize hm:(pO a f == e&&pO b f == g&&pO c f == h&&pO d f == i)=m at H u;have Z:=H_ u;clear hm u;refine w_ q_ q_ ?_
    cases m
    all_goals iterate 10 (refine wpQuiet_step (fun K y=>?_);go_simp;first | (refine y _ ?_;clear y K) | (apply Exists.intro;refine ⟨fun _=>?_,y _ ?_⟩;(first | (with_reducible exact E_ (an_ h1 h2)) | (with_reducible exact E_ (iT)));clear y K))
    all_goals refine wpQuiet_nil ?_
    all_goals intro w' I
    all_goals obtain ⟨z,rfl⟩:=I
    all_goals go_wp2
    all_goals go_meet
    all_goals exact ⟨by rw [Z.out];simp,(mU _ _ _ (Array.getElem?_eq_some_iff.1 n).1).trans n,(mU _ _ _ (Array.getElem?_eq_some_iff.1 l).1).trans l,e_ x (p_ _ _)⟩
   case rest=>
    clear n j o l x;obtain ⟨rfl,n,l,x⟩:=hcut;have z0:wc.cell? ⟨D,0,none⟩=some (I_ ((a.toNat:Int)*256+b.toNat)):=b_ n 0;have z1:wc.cell? ⟨D,1,none⟩=some (I_ c.toNat):=b_ n 1;have z2:wc.cell? ⟨D,2,none⟩=some (I_ d.toNat):=b_ n 2;have V:wc.cell? ⟨w,0,none⟩=some (I_ 0):=b_ l 0;have X:wc.cell? ⟨w,1,none⟩=some (I_ 0):=b_ l 1;have Y:wc.cell? ⟨w,2,none⟩=some (I_ 0):=b_ l 2;have q0:=t_ l 0;have M:=t_ l 1;have N:=t_ l 2;clear n l
    cases hok:ok8 a b c d e g h i f
    all_goals go_wp2
    ·refine bodyPost_ret (v:= .tuple #[.agg #[I_ 0,I_ 0,I_ 0],.bool false]) (by simp [results,results148,go_sem,V,X,Y]) rfl ⟨by simp [hok],by (repeat (with_reducible first | assumption | exact aP _ _ | refine a_ ?_ _ | apply Below.drew | refine below_drewN ?_ _ | (apply dB;assumption) | (refine rQ ?_ (bE _) _) | (refine rQ ?_ (by first | omega | (simp;done) | (go_simp;done)) _)))⟩
    ·refine bodyPost_ret (v:= .tuple #[.agg #[I_ ((a.toNat:Int)*256+b.toNat),I_ c.toNat,I_ d.toNat],.bool true]) (by simp [results,results148,go_sem,V,X,Y]) rfl ⟨by simp [hok],by (repeat (with_reducible first | assumption | exact aP _ _ | refine a_ ?_ _ | apply Below.drew | refine below_drewN ?_ _ | (apply dB;assumption) | (refine rQ ?_ (bE _) _) | (refine rQ ?_ (by first | omega | (simp;done) | (go_simp;done)) _)))⟩
end
section
def pk (o1 o2:Bool) (q1 q2:Int):Bool:=o2&&(!o1||decide (q1<q2))
def in_ (o1 o2:Bool) (q1 s1 b1 q2 s2 b2:Int) (w:World) (e:Ending) (w':World):Prop:=
 e = .returned (.tuple #[.agg #[I_ (if pk o1 o2 q1 q2=true then q2 else q1),I_ (if pk o1 o2 q1 q2=true then s2 else s1),I_ (if pk o1 o2 q1 q2=true then b2 else b1)],I_ (if pk o1 o2 q1 q2=true then 1 else 0),.bool (o1||o2)])/\s_ w w'
theorem aK_ (a b:ByteArray) (f:Int) (w:World) {o1 o2:Bool} {q1 s1 b1 q2 s2 b2:Int} (HZ:o1=false->q1=0/\s1=0/\b1=0)
  (hA:∀w,C_ 148 #[.string a,I_ f] w (dn_ o1 q1 s1 b1 w)) (hB:∀w,C_ 148 #[.string b,I_ f] w (dn_ o2 q2 s2 b2 w)) :
  C_ 86 #[.string a,.string b,I_ f] w (in_ o1 o2 q1 s1 b1 q2 s2 b2 w):=by
 have p:=H_ HZ;clear HZ;go_enter func86,ntmps86
 go_upto_region 1 with fail
 go_cut [9,10] (fun s9 s10 wx=>∃B,s9 = P_ B/\s10 = .bool o1/\bA wx B #[I_ q1,I_ s1,I_ b1] 62/\
   bA wx (w) #[I_ 0,I_ 0,I_ 0] 62/\s_ w wx)
 case first=>
  go_wp2_with (go_at_call 148;(with_reducible refine CM (hA _) ?_);rintro e w1 ⟨rfl,l⟩)
  go_meet
  case rel=>exact ⟨_,rfl,rfl,bW rfl,(dC (gX A_ l.size)).trans ((l.block _ A_).trans (bW rfl)),a_ (e_ (B_.alloc (bE _) _) l) _⟩
 case rest=>
  obtain ⟨B,rfl,rfl,d,c,q⟩:=hcut
  go_upto_region 2 with fail
  go_cut [11,12] (fun s11 s12 wx=>∃C,s11 = P_ C/\s12 = .bool o2/\bA wx C #[I_ q2,I_ s2,I_ b2] 62/\bA wx B #[I_ q1,I_ s1,I_ b1] 62/\
    bA wx (w) #[I_ 0,I_ 0,I_ 0] 62/\s_ w wx)
  case first=>
   have F:=(Array.getElem?_eq_some_iff.1 d).1;have G:=(Array.getElem?_eq_some_iff.1 c).1;have x:=H_ d;have y:=H_ c;clear d c
   go_wp2_with (go_at_call 148;(with_reducible refine CM (hB _) ?_);rintro e w1 ⟨rfl,l⟩)
   go_meet
   case rel=>exact ⟨_,rfl,rfl,bW rfl,(dC (gX F l.size)).trans ((l.block _ F).trans x.out),(dC (gX G l.size)).trans ((l.block _ G).trans y),a_ (e_ q l) _⟩
  case rest=>
   clear d c q;obtain ⟨C,rfl,rfl,r,d,c,J⟩:=hcut;have m:=b_ d 0;have n:=b_ d 1;have o:=b_ d 2;have s:=b_ r 0;have t:=b_ r 1;have u:=b_ r 2;have g:=b_ c 0;have i:=b_ c 1;have j:=b_ c 2;have n0:=t_ c 0;have n1:=t_ c 1;have n2:=t_ c 2;simp only[zl] at m n o s t u g i j;clear r d c hA hB
   by_cases E:q1<q2
   ·have k:Hid (pk o1 o2 q1 q2=(o2&&true)):=by
     show _=_
     simp [pk,E]
    have I:True:=trivial
    cases o1 <;> cases o2
    all_goals go_wp2
    ·refine bodyPost_ret (v:= .tuple #[.agg #[I_ q1,I_ s1,I_ b1],I_ 0,.bool false]) (by first | (simp [results,results86,go_sem,g,i,j,m,n,o];done) | (obtain ⟨z,A,D⟩:=p.out (by first | rfl | trivial);simp [results,results86,go_sem,g,i,j,z,A,D];done)) rfl ⟨by rw [k.out];rfl,by (repeat (with_reducible first | assumption | exact aP _ _ | refine a_ ?_ _ | apply Below.drew | refine below_drewN ?_ _ | (apply dB;assumption) | (refine rQ ?_ (bE _) _) | (refine rQ ?_ (by first | omega | (simp;done) | (go_simp;done)) _)))⟩
    ·refine bodyPost_ret (v:= .tuple #[.agg #[I_ q2,I_ s2,I_ b2],I_ 1,.bool true]) (by simp [results,results86,go_sem,g,i,j,s,t,u]) rfl ⟨by rw [k.out];rfl,by (repeat (with_reducible first | assumption | exact aP _ _ | refine a_ ?_ _ | apply Below.drew | refine below_drewN ?_ _ | (apply dB;assumption) | (refine rQ ?_ (bE _) _) | (refine rQ ?_ (by first | omega | (simp;done) | (go_simp;done)) _)))⟩
    ·refine bodyPost_ret (v:= .tuple #[.agg #[I_ q1,I_ s1,I_ b1],I_ 0,.bool true]) (by simp [results,results86,go_sem,g,i,j,m,n,o]) rfl ⟨by rw [k.out];rfl,by (repeat (with_reducible first | assumption | exact aP _ _ | refine a_ ?_ _ | apply Below.drew | refine below_drewN ?_ _ | (apply dB;assumption) | (refine rQ ?_ (bE _) _) | (refine rQ ?_ (by first | omega | (simp;done) | (go_simp;done)) _)))⟩
    ·refine bodyPost_ret (v:= .tuple #[.agg #[I_ q2,I_ s2,I_ b2],I_ 1,.bool true]) (by simp [results,results86,go_sem,g,i,j,s,t,u]) rfl ⟨by rw [k.out];rfl,by (repeat (with_reducible first | assumption | exact aP _ _ | refine a_ ?_ _ | apply Below.drew | refine below_drewN ?_ _ | (apply dB;assumption) | (refine rQ ?_ (bE _) _) | (refine rQ ?_ (by first | omega | (simp;done) | (go_simp;done)) _)))⟩
   ·have k:Hid (pk o1 o2 q1 q2=(o2&&!o1)):=by
     show _=_
     simp [pk,E]
    have H:q2<=q1:=O_
    cases o1 <;> cases o2
    all_goals go_wp2
    ·refine bodyPost_ret (v:= .tuple #[.agg #[I_ q1,I_ s1,I_ b1],I_ 0,.bool false]) (by first | (simp [results,results86,go_sem,g,i,j,m,n,o];done) | (obtain ⟨z,A,D⟩:=p.out (by first | rfl | trivial);simp [results,results86,go_sem,g,i,j,z,A,D];done)) rfl ⟨by rw [k.out];rfl,by (repeat (with_reducible first | assumption | exact aP _ _ | refine a_ ?_ _ | apply Below.drew | refine below_drewN ?_ _ | (apply dB;assumption) | (refine rQ ?_ (bE _) _) | (refine rQ ?_ (by first | omega | (simp;done) | (go_simp;done)) _)))⟩
    ·refine bodyPost_ret (v:= .tuple #[.agg #[I_ q2,I_ s2,I_ b2],I_ 1,.bool true]) (by simp [results,results86,go_sem,g,i,j,s,t,u]) rfl ⟨by rw [k.out];rfl,by (repeat (with_reducible first | assumption | exact aP _ _ | refine a_ ?_ _ | apply Below.drew | refine below_drewN ?_ _ | (apply dB;assumption) | (refine rQ ?_ (bE _) _) | (refine rQ ?_ (by first | omega | (simp;done) | (go_simp;done)) _)))⟩
    ·refine bodyPost_ret (v:= .tuple #[.agg #[I_ q1,I_ s1,I_ b1],I_ 0,.bool true]) (by simp [results,results86,go_sem,g,i,j,m,n,o]) rfl ⟨by rw [k.out];rfl,by (repeat (with_reducible first | assumption | exact aP _ _ | refine a_ ?_ _ | apply Below.drew | refine below_drewN ?_ _ | (apply dB;assumption) | (refine rQ ?_ (bE _) _) | (refine rQ ?_ (by first | omega | (simp;done) | (go_simp;done)) _)))⟩
    ·refine bodyPost_ret (v:= .tuple #[.agg #[I_ q1,I_ s1,I_ b1],I_ 0,.bool true]) (by simp [results,results86,go_sem,g,i,j,m,n,o]) rfl ⟨by rw [k.out];rfl,by (repeat (with_reducible first | assumption | exact aP _ _ | refine a_ ?_ _ | apply Below.drew | refine below_drewN ?_ _ | (apply dB;assumption) | (refine rQ ?_ (bE _) _) | (refine rQ ?_ (by first | omega | (simp;done) | (go_simp;done)) _)))⟩
end
end Go.Proofs.YtehfhnbpnaiogaaGreatDoor
