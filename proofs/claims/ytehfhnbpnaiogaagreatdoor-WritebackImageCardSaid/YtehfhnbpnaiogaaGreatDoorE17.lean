/-
  Lemmas and contracts for the laws of this seat, part 17; several texts joined by a program.
-/
import Derived.Test.YtehfhnbpnaiogaaGreatDoorE07
import Derived.Test.YtehfhnbpnaiogaaGreatDoorE00
import Derived.Deep.AppendLies
import Derived.Deep.CutBlock
import Derived.Laws.Cover3
import Derived.Laws.IdiomStrings
import Derived.Outline
import Derived.OwnWalk
namespace Go.Proofs.YtehfhnbpnaiogaaGreatDoor
set_option linter.unusedVariables false
set_option linter.unusedSimpArgs false
set_option maxRecDepth 100000
set_option maxHeartbeats 16000000
open Go.RowKit Go.Proofs.Tryz IntKind
variable {L:List Zn} {S:Nat->Prop} {b f n q s:Int} {k:Nat} {l:List UInt8} {w:World}
section
def zB (q s b:Int):Bool:=decide (0<=q/\q<=65535/\0<=s/\s<=128/\0<=b/\b<=255)
theorem hj_ (h:zB q s b=true):0<=q/\q<=65535/\0<=s/\s<=128/\0<=b/\b<=255:=by simpa [zB] using h
theorem iR:C_ 139 #[.agg #[I_ q,I_ s,I_ b]] w (cP (zB q s b) w):=by
 go_enter func139,ntmps139;go_wp2
 all_goals go_ret
 all_goals exact ⟨A_ (by rw [Bool.eq_iff_iff];simp [zB];try omega),B_.alloc (aQ _) _⟩
theorem pZ:C_ 144 #[.agg #[I_ q,I_ s,I_ b]] w (cP (zB q s b) w):=by
 go_enter func144,ntmps144;go_wp2
 all_goals go_ret
 all_goals exact ⟨A_ (by rw [Bool.eq_iff_iff];simp [zB];try omega),B_.alloc (aQ _) _⟩
theorem sU:C_ 141 #[I_ f] w fun e w'=>e = .returned (.bool (decide (0<=f/\f<8)))/\w=w':=by
 go_enter func141,ntmps141;go_wp2
 all_goals go_ret
 all_goals exact ⟨A_ (by simp;try omega),rfl⟩
def lV (n:Int):UInt8:=UInt8.ofNat n.toNat
theorem iE {n:Int} (h0:0<=n) (h1:n<256):((lV n).toNat:Int)=n:=by
 unfold lV;rw [UInt8.toNat_ofNat',Nat.mod_eq_of_lt O_];omega
def nbI (c f:Int):Int:=(255 - bits BinOp.xor IntKind.u8 c f) % 256
def nW (c:UInt8) (f:Int):UInt8:=lV (nbI c.toNat f)
theorem uM (c:UInt8) (f:Int):nbI c.toNat f=((nW c f).toNat:Int):=(iE (by unfold nbI;omega) (by unfold nbI;omega)).symm
abbrev hv (a b c d:UInt8):Value:= .agg #[.int .u8 a.toNat,.int .u8 b.toNat,.int .u8 c.toNat,.int .u8 d.toNat]
def ho_ (v:Value) (w:World) (e:Ending) (w':World):Prop:=e = .returned v/\q_ w w'
theorem gj_ (h:zB q s b=true):C_ 142 #[.agg #[I_ q,I_ s,I_ b]] w (ho_ (hv (lV (q / 256)) (lV (q % 256)) (lV s) (lV b)) w):=by
 obtain ⟨h1,h2,h3,a,c,d⟩:=hj_ h;go_enter func142,ntmps142;go_wp2;refine bodyPost_ret (v:= .agg #[.int .u8 (q / 256),.int .u8 (q % 256),.int .u8 s,.int .u8 b]) (by simp [results,results142,go_sem]) rfl ⟨?_,(B_.alloc (aQ _) _).alloc z_ _⟩;unfold hv;rw [iE O_ O_,iE O_ O_,iE O_ O_,iE O_ O_]
theorem aJ_ {c0 c1 c2 c3:UInt8} (h1:0<=f) (h2:f<8):C_ 143 #[hv c0 c1 c2 c3,I_ f] w (ho_ (hv (nW c0 f) (nW c1 f) (nW c2 f) (nW c3 f)) w):=by
 have a:∀w,(Instr.index 198 (.agg #[.int .u8 c0.toNat,.int .u8 c1.toNat,.int .u8 c2.toNat,.int .u8 c3.toNat]) (I_ 0)).run prog w = .ok (.int .u8 c0.toNat) w:=fun _=>by kernel_rfl
 have b:∀w,(Instr.index 198 (.agg #[.int .u8 c0.toNat,.int .u8 c1.toNat,.int .u8 c2.toNat,.int .u8 c3.toNat]) (I_ 1)).run prog w = .ok (.int .u8 c1.toNat) w:=fun _=>by kernel_rfl
 have c:∀w,(Instr.index 198 (.agg #[.int .u8 c0.toNat,.int .u8 c1.toNat,.int .u8 c2.toNat,.int .u8 c3.toNat]) (I_ 2)).run prog w = .ok (.int .u8 c2.toNat) w:=fun _=>by kernel_rfl
 have d:∀w,(Instr.index 198 (.agg #[.int .u8 c0.toNat,.int .u8 c1.toNat,.int .u8 c2.toNat,.int .u8 c3.toNat]) (I_ 3)).run prog w = .ok (.int .u8 c3.toNat) w:=fun _=>by kernel_rfl
 unfold hv;go_enter func143,ntmps143;go_wp2;refine wp_loop_rounds 5 ?_;rw [rounds_succ];go_wp2;rw [rounds_succ];go_wp2;rw [rounds_succ];go_wp2;rw [rounds_succ];go_wp2;rw [rounds_succ];go_wp2;refine bodyPost_ret (v:= .agg #[.int .u8 (nbI c0.toNat f),.int .u8 (nbI c1.toNat f),.int .u8 (nbI c2.toNat f),.int .u8 (nbI c3.toNat f)]) (by simp [results,results143,go_sem,nbI]) rfl ⟨?_,(B_.alloc (aQ _) _).alloc z_ _⟩;rw [uM,uM,uM,uM]
end
section
def dZ (a b c d e f g h:UInt8):ByteArray:=⟨#[a,b,c,d,e,f,g,h]⟩
def fo_ (a b c d:UInt8) (f:Int):ByteArray:=dZ a b c d (nW a f) (nW b f) (nW c f) (nW d f)
def iF (q s b f:Int):ByteArray:=if zB q s b=true/\0<=f/\f<8 then fo_ (lV (q / 256)) (lV (q % 256)) (lV s) (lV b) f else ⟨#[]⟩
def lN (q s b f:Int):Int:=if zB q s b=true then if 0<=f/\f<8 then 0 else 2 else 1
def hx_ (s:ByteArray) (n:Int) (w:World) (e:Ending) (w':World):Prop:=e = .returned (.tuple #[.string s,I_ n])/\q_ w w'
theorem oV {a b:ByteArray} {c d:Int} (h:a=b) (h':c=d):Ending.returned (.tuple #[.string a,I_ c]) = .returned (.tuple #[.string b,I_ d]):=by rw [h,h']
def nM (a b c d:UInt8):Array Value:=#[.int .u8 a.toNat,.int .u8 b.toNat,.int .u8 c.toNat,.int .u8 d.toNat]
theorem hD_ (a b c d:UInt8) (B:Nat) (w:World) (t:TypeId) (h:w.heap[B]?=some (.cells (nM a b c d) t (0,0))) :
  (convert 77 9 (S_ (some ⟨B,0,none⟩) 4 4)).run prog w = .ok (.string ⟨#[a,b,c,d]⟩) w:=by
 refine run_convert_bytes_back (P:=prog) w 77 9 5 ⟨B,0,none⟩ 4 [a,b,c,d] underlying77 underlying5 underlying9 ?_;intro j f;have e:(⟨B,0,none⟩:Addr).add j=⟨B,j,none⟩:=by
  unfold Addr.add
  split
  ·rename_i h;subst h;rfl
  ·simp
 rw [e,a_ h]
 rcases (by simpa using f:j<4) with hj4
 rcases (by omega:j=0\/j=1\/j=2\/j=3) with rfl | rfl | rfl | rfl <;> rfl
theorem zZ (q s0 b f:Int) (w:World):C_ 78 #[.agg #[I_ q,I_ s0,I_ b],I_ f] w (hx_ (iF q s0 b f) (lN q s0 b f) w):=by
 by_cases a:zB q s0 b=true
 ·by_cases hf:0<=f/\f<8
  ·have u:decide (0<=f/\f<8)=true:=by simpa using hf
   go_enter func78,ntmps78
   go_upto_region 6 with (first
     | (go_at_call 139;(with_reducible refine CM (iR) ?_);rintro e w1 ⟨rfl,l⟩;obtain ⟨hc,v,s1,s2,s3,s4,s5,s6,s7⟩:=gt_ l)
     | (go_at_call 141;(with_reducible refine CM (sU) ?_);rintro e w2 ⟨rfl,rfl⟩)
     | (go_at_call 142;(with_reducible refine CM (gj_ a) ?_);rintro e w3 ⟨rfl,i⟩;unfold hv;obtain ⟨r,m,s31,s32,s33,s34,s35,s36,s37⟩:=gt_ i))
   go_cut [6,7] (fun s t wx=>∃B C,s = P_ B/\t = P_ C/\aW wx B (nM (lV (q / 256)) (lV (q % 256)) (lV s0) (lV b)) 198/\aW wx C (nM (nW (lV (q / 256)) f) (nW (lV (q % 256)) f) (nW (lV s0) f) (nW (lV b) f)) 198/\q_ w wx)
   case first=>
    go_wp2_with (go_at_call 143;(with_reducible refine CM (aJ_ hf.1 hf.2) ?_);rintro e w4 ⟨rfl,g⟩;unfold hv;obtain ⟨nM,o,s41,s42,s43,s44,s45,s46,s47⟩:=gt_ g)
    go_meet
    case rel=>exact ⟨_,_,rfl,rfl,(Below.heap_alloc _ _ _ (s41 _ z_)).trans ((g.block _ z_).trans (heap_alloc_new _ _)),heap_alloc_new _ _,b_ (d_ (b_ (d_ (d_ (B_.alloc (aQ _) _) l) i) _) g) _⟩
   case rest=>
    obtain ⟨B,C,rfl,rfl,j,k,p⟩:=hcut;have x:=fun n=>hD_ _ _ _ _ B (World.drewN _ n) _ j;have y:=fun n=>hD_ _ _ _ _ C (World.drewN _ n) _ k;have c:Hid (iF q s0 b f=fo_ (lV (q / 256)) (lV (q % 256)) (lV s0) (lV b) f/\lN q s0 b f=0):=by
     show _/\_
     simp [iF,lN,a,hf]
    clear j k
    go_wp2_with fail
    go_quiet (fail);go_wp2
    go_ret2
    exact ⟨oV c.out.1.symm c.out.2.symm,below_drewN p _⟩
  ·have u:decide (0<=f/\f<8)=false:=by simpa using hf
   have c:Hid (iF q s0 b f=⟨#[]⟩/\lN q s0 b f=2):=by
    show _/\_
    simp [iF,lN,a,hf]
   clear hf;go_enter func78,ntmps78
   go_wp2_with (first
    | (go_at_call 139;(with_reducible refine CM (iR) ?_);rintro e w1 ⟨rfl,d⟩)
    | (go_at_call 141;(with_reducible refine CM (sU) ?_);rintro e w2 ⟨rfl,rfl⟩))
   go_ret2
   exact ⟨oV c.out.1.symm c.out.2.symm,d_ (B_.alloc (aQ _) _) d⟩
 ·simp only[Bool.not_eq_true] at a;have c:Hid (iF q s0 b f=⟨#[]⟩/\lN q s0 b f=1):=by
   show _/\_
   simp [iF,lN,a]
  go_enter func78,ntmps78
  go_wp2_with (go_at_call 139;(with_reducible refine CM (iR) ?_);rintro e w1 ⟨rfl,d⟩)
  go_ret2
  exact ⟨oV c.out.1.symm c.out.2.symm,d_ (B_.alloc (aQ _) _) d⟩
end
section
def vs (l:List UInt8):List Value:=l.map fun b=> .int .u8 b.toNat
theorem gH_ {k:IntKind}:∀u ∈ [Value.int k n],u.oneCell'=true:=by
 intro u hu;rw [List.mem_singleton.1 hu]
 rfl
theorem iV_ (l m:List UInt8):vs (l ++ m)=vs l ++ vs m:=by simp [vs]
theorem fA_ (k:Nat) (h:k<l.length):(vs l)[k]?=some (.int .u8 (l.getD k 0).toNat):=by simp [vs,h]
theorem jM_:(prog.info? 5).map (fun i=>(i.zero,i.size,i.bytes))=some (some (.int .u8 0),1,1):=by kernel_rfl
def qU (l:List UInt8) (f:Int) (k:Nat):List UInt8:=l ++ (l.take k).map (nW · f)
theorem ej_ {i:Nat} (h:i<l.length):(qU l f k).getD i 0=l.getD i 0:=by simp [qU,List.getElem?_append,h]
theorem cW_ (l:List UInt8) (f:Int) (k:Nat) (h:k<l.length):qU l f (k+1)=qU l f k ++ [nW (l.getD k 0) f]:=by
 unfold qU;rw [List.take_succ_eq_append_getElem h,List.map_append,<-List.append_assoc];simp [h]
theorem zY (h:k<=l.length):(qU l f k).length=l.length+k:=by simp [qU,h]
theorem ed_ (l:List UInt8) (g c:Nat) (w:World) (hc:∀j (hj:j<l.length),w.cell? ⟨g,j,none⟩=some (.int .u8 (l[j].toNat:Int))) :
  (convert 77 9 (S_ (some ⟨g,0,none⟩) l.length c)).run prog w = .ok (.string ⟨l.toArray⟩) w:=by
 refine run_convert_bytes_back (P:=prog) w 77 9 5 ⟨g,0,none⟩ c l underlying77 underlying5 underlying9 ?_;intro j hj;have e:(⟨g,0,none⟩:Addr).add j=⟨g,j,none⟩:=by
  unfold Addr.add
  split
  ·rename_i h;subst h;rfl
  ·simp
 rw [e];exact hc j hj
theorem dl_ (q s0 b f:Int) (w:World):C_ 79 #[.agg #[I_ q,I_ s0,I_ b],I_ f] w (hx_ (iF q s0 b f) (lN q s0 b f) w):=by
 by_cases c:zB q s0 b=true
 ·by_cases hf:0<=f/\f<8
  ·obtain ⟨P,Q⟩:=hf;obtain ⟨h1,h2,h3,S,U,V⟩:=hj_ c;have d:Hid (iF q s0 b f=fo_ (lV (q / 256)) (lV (q % 256)) (lV s0) (lV b) f/\lN q s0 b f=0):=by
    show _/\_
    simp [iF,lN,c,P,Q]
   obtain ⟨i0,Y,D,E,F⟩:=info_parts jM_;obtain ⟨l,hl⟩:=aZ ([lV (q / 256),lV (q % 256),lV s0,lV b]);have G:=H_ hl;have t:l.length=4:=by rw [hl];rfl
   clear hl;go_enter func79,ntmps79
   go_upto_region 5 with (go_at_call 144;(with_reducible refine CM (pZ) ?_);rintro e w1 ⟨rfl,x⟩;obtain ⟨hc,X,s1,s2,s3,s4,s5,s6,s7⟩:=gt_ x)
   go_cut [6] (fun v wx=>∃g,v = S_ (some ⟨g,0,none⟩) 4 4/\wx.ownsRow (w) 5 1 (S_ (some ⟨g,0,none⟩) 4 4) 4 (vs l)/\q_ w wx)
   case first=>
    go_wp2;go_meet
    case rel=>
     refine ⟨_,rfl,⟨by simp [vs,t],Or.inr ⟨_,4,_,rfl,?_,heap_alloc_new _ _,O_,by unfold maxLen;omega,rfl,?_⟩⟩,?_⟩
     ·exact dO z_ x.size
     ·rw [G.out];simp only[vs,List.map_cons,List.map_nil];rw [iE (n:=q / 256) O_ O_,iE (n:=q % 256) O_ O_,iE (n:=s0) O_ O_,iE (n:=b) O_ O_]
      rfl
     ·exact b_ (d_ (B_.alloc (aQ _) _) x) _
   case rest=>
    obtain ⟨g,rfl,o,m⟩:=hcut;clear h1 h2 h3 S U V;go_wp2
    go_loopw [6,7] (fun v i wr=>∃(k g cap:Nat),k<=4/\i = I_ k/\v = S_ (some ⟨g,0,none⟩) (4+k) cap/\wr.ownsRow (w) 5 1 (S_ (some ⟨g,0,none⟩) (4+k) cap) (4+k) (vs (qU l f k))/\q_ w wr) (fun _ i _=>4 - (intOf i).toNat)
    case atStart=>exact ⟨0,g,4,O_,rfl,rfl,by simpa [qU] using o,m⟩
    case round=>
     clear o m;obtain ⟨k,H,cap,hk,rfl,rfl,o,m⟩:=hrel
     by_cases Z:k<4
     ·have c0:=(o.cellAt k O_).trans (fA_ k (by rw [zY O_];omega));rw [ej_ O_] at c0;have L:=cW_ l f k O_;have u:=H_ L;clear L;obtain ⟨y,C⟩:=aZ (l.getD k 0);rw [<-C] at c0;have N:=H_ C;clear C
      go_wp2_with (at_builtin;refine wpList_append_lies _ rfl _ _ 77 rfl (w) 5 i0 (.int .u8 0) 1 1 underlying77 Y D E F rfl bX _ (4+k) _ rfl (o.alloc _) ⟨_,0,none⟩ 1 1 [.int .u8 ((255 - bits BinOp.xor IntKind.u8 y.toNat f) % 256)] rfl rfl (World.news_of_block (heap_alloc_new _ _)) (gH_) O_ (by unfold maxLen;omega) O_ (dO m.size z_) _ rfl ?_;intro R p w3 B A I K)
      go_roundw
      case rel=>
       refine ⟨k+1,R,p,O_,by go_num,rfl,?_,(m.alloc m.size _).grown A (dO m.size z_) ?_⟩
       ·have e:vs [nW y f]=[Value.int .u8 (nbI y.toNat f)]:=by simp [vs,uM]
        rw [u.out,<-N.out,iV_,e];exact B
       ·intro r hr;obtain ⟨g',c',O,e2,e3⟩:=o.form O_
        cases O
        have:H=r:=aP hr;omega
      case measure=>exact bH
     ·obtain rfl:k=4:=O_
      have s:(qU l f 4).length=8:=by rw [zY O_];omega
      have k1:=ed_ (qU l f 4) H cap wr (fun j J=>(o.cellAt j O_).trans (by rw [fA_ _ J];simp [J]));rw [s] at k1;have M:Hid (fo_ (lV (q / 256)) (lV (q % 256)) (lV s0) (lV b) f=⟨(qU l f 4).toArray⟩):=by
       show _=_
       rw [G.out];simp [qU,fo_,dZ]
      clear s;go_wp2
      go_ret2
      exact ⟨oV (by rw [d.out.1,M.out]) d.out.2.symm,m⟩
  ·have hd:decide (0<=f/\f<8)=false:=by simpa using hf
   have d:Hid (iF q s0 b f=⟨#[]⟩/\lN q s0 b f=2):=by
    show _/\_
    simp [iF,lN,c,hf]
   by_cases W:0<=f
   ·have z:8<=f:=O_
    clear hf;go_enter func79,ntmps79
    go_wp2_with (go_at_call 144;(with_reducible refine CM (pZ) ?_);rintro e w1 ⟨rfl,a⟩)
    go_ret2
    exact ⟨oV d.out.1.symm d.out.2.symm,d_ (B_.alloc (aQ _) _) a⟩
   ·have z:f<0:=O_
    clear hf;go_enter func79,ntmps79
    go_wp2_with (go_at_call 144;(with_reducible refine CM (pZ) ?_);rintro e w1 ⟨rfl,a⟩)
    go_ret2
    exact ⟨oV d.out.1.symm d.out.2.symm,d_ (B_.alloc (aQ _) _) a⟩
 ·simp only[Bool.not_eq_true] at c;have d:Hid (iF q s0 b f=⟨#[]⟩/\lN q s0 b f=1):=by
   show _/\_
   simp [iF,lN,c]
  go_enter func79,ntmps79
  go_wp2_with (go_at_call 144;(with_reducible refine CM (pZ) ?_);rintro e w1 ⟨rfl,a⟩)
  go_ret2
  exact ⟨oV d.out.1.symm d.out.2.symm,d_ (B_.alloc (aQ _) _) a⟩
end
section
theorem kz_ {a:Lr} (f:Int) {v1 v2 v3:Value} (h:sI w S v1 v2 v3 a) (hin:f ∈ a.act ++ a.ina):C_ 162 #[.agg #[v1,v2,v3],I_ f] w (cP true w):=by
 obtain ⟨h1,h2,h3⟩:=h;have a1:=fun w' (hb:q_ w w')=>xN f (h1.step hb);have a2:=fun w' (hb:q_ w w')=>xN f (h2.step hb);have i:=H_ (g_ w (.cells #[v1,v2,v3] 119));have b:=H_ (b_ (aI (w) w) (.cells #[v1,v2,v3] 119));clear h1 h2 h3
 by_cases c:f ∈ a.act
 ·have d:=jH c;clear c;generalize xM a.act f=z at a1 d;go_enter func162,ntmps162
  go_wp2_with (go_at_call 161;(with_reducible refine CM (a1 _ b.out) ?_);rintro e w' ⟨rfl,rfl⟩)
  go_ret;exact ⟨rfl,b.out⟩
 ·have d:=kV c;have g:=jH ((List.mem_append.1 hin).resolve_left c);rw [d] at a1;clear c d hin;generalize xM a.ina f=z at a2 g;go_enter func162,ntmps162
  go_wp2_with (first | (go_at_call 161;(with_reducible refine CM (a1 _ b.out) ?_);rintro e w' ⟨rfl,rfl⟩) | (go_at_call 161;(with_reducible refine CM (a2 _ b.out) ?_);rintro e w' ⟨rfl,rfl⟩))
  go_ret;exact ⟨rfl,b.out⟩
def bG_ (L:List Zn) (n:Int):Bool:=L.all (fun z=>!decide (n ∈ z.free))
theorem cw_ {z:Zn} (hz:L[k]?=some z) (h:n ∈ z.free):bG_ L n=false:=by
 unfold bG_;rw [List.all_eq_false];exact ⟨z,fF hz,by simp [h]⟩
theorem aM_ (h:∀(k:Nat) (z:Zn),k<L.length->L[k]?=some z->n ∉ z.free):bG_ L n=true:=by
 unfold bG_;rw [List.all_eq_true];intro z hz;obtain ⟨k,hk⟩:=List.getElem?_of_mem hz
 simpa using h k z (bK hk) hk
theorem hb_ (n:Int) {v:Value} (h:LA pE w S v L):C_ 103 #[v,I_ n] w (nK (.bool (bG_ L n)) w):=by
 obtain ⟨A,cap,rfl,hc,j⟩:=h.form;have H:=H_ h;clear h;unfold maxLen at j;go_enter func103,ntmps103;go_wp2
 go_loop [5] (fun i=>∃k:Nat,i = I_ k/\k<=L.length/\∀(m:Nat) (z:Zn),m<k->L[m]?=some z->n ∉ z.free) (fun i=>L.length - (intOf i).toNat)
 case atStart=>exact ⟨0,rfl,O_,fun m z j=>by omega⟩
 case round=>
  obtain ⟨k,rfl,B,s⟩:=hrel;have p:=H_ s;clear s
  by_cases g:k<L.length
  ·obtain ⟨z,l⟩:∃z,L[k]?=some z:=⟨_,cU g⟩;obtain ⟨b,o,A',cap',rfl,u,hf,C,D,_,_,_,_,_,y⟩:=ZnA.cells H.out l;have d:=xN n hf;have r:=H_ l;clear l hf
   by_cases a:n ∈ z.free
   ·have x:=jH a;have f:=H_ a;clear a;generalize xM z.free n=q at d x
    go_wp2_with (go_at_call 161;(with_reducible refine CM d ?_);rintro e w' ⟨rfl,rfl⟩)
    go_ret;exact ⟨by rw [cw_ r.out f.out];rfl,rfl⟩
   ·have f:=H_ a;rw [kV a] at d;clear a
    go_wp2_with (go_at_call 161;(with_reducible refine CM d ?_);rintro e w' ⟨rfl,rfl⟩)
    go_round
    case rel=>
     refine ⟨k+1,by go_num,O_,fun m t j c=>?_⟩
     by_cases e:m=k
     ·subst e;obtain rfl:t=z:=aP (c.symm.trans r.out);exact f
     ·exact p.out m t O_ c
    case measure=>exact bH
  ·obtain rfl:k=L.length:=O_
   go_wp2;go_ret
   exact ⟨by rw [aM_ p.out];rfl,rfl⟩
structure dH_ (y:Fl):Prop where
 size:∃sz:Nat,y.size=sz/\sz<=128
 bl:0<=y.blocks/\y.blocks<=255
 back:∀p:Nat,p<8->y.size<=(p:Int)*16->aC y p=true
 err:y.ecnt=0/\y.eerr=0
 st:y.sseq=0/\y.ssize=0/\y.sblocks=0/\y.which=0/\y.seq=0
theorem im_ {y:Fl} {h:Nat} {A:Option Addr} (cap:Nat) (hl:aX y.c) (ht:X_ h y.c) (hcap:(f_ h y.c).kids.length<=cap) (hk:NK w S A (f_ h y.c).kids) (ok:dH_ y):C_ 101 #[y.v h A cap] w (cP true w):=by
 have H:=fun w' (I:q_ w w')=>pV h (f_ h y.c) cap (eA _ _) hcap (hk.step I);rw [fX hl ht] at H;have E:=fun (p:Nat) (hp:p<8) w'=>sQ y h A cap p hp w';obtain ⟨sz,F,a2⟩:=ok.size;obtain ⟨b1,b2⟩:=ok.bl;obtain ⟨O,P⟩:=ok.err;obtain ⟨U,V,X,Y,Z⟩:=ok.st;have J:=H_ ok.back;have D:=fun w'=>dl_ 0 0 0 0 w';rw [show lN 0 0 0 0=0 by decide] at D;generalize iF 0 0 0 0=es at D;have K:=H_ F;clear hl ht hcap hk ok;simp only[Fl.v,Fl.rowT,List.toArray] at E ⊢;rw [F,O,P,U,V,X,Y,Z] at E ⊢;clear F O P U V X Y Z;generalize (f_ h y.c).kids.length=kn at *;generalize (f_ h y.c).val=N at *;generalize (f_ h y.c).marks=M at *;have a0:(0:Int)<=(sz:Int):=O_
 have a1:(sz:Int)<=128:=O_
 have b:=H_ (g_ w (.cells #[I_ y.dev,I_ y.slot,I_ (h:Int),S_ A kn cap,I_ N,I_ M,I_ (sz:Int),I_ y.blocks,I_ 0,I_ 0,I_ 0,I_ 0,I_ 0,I_ 0,I_ 0] 64));have C:=H_ (b_ (aI (w) w) (.cells #[I_ y.dev,I_ y.slot,I_ (h:Int),S_ A kn cap,I_ N,I_ M,I_ (sz:Int),I_ y.blocks,I_ 0,I_ 0,I_ 0,I_ 0,I_ 0,I_ 0,I_ 0] 64));go_enter func101,ntmps101
 go_upto_region 1 with fail
 generalize w.alloc _=W at b C;have x0:=a_ b 0;have o:=a_ b 1;have q:=a_ b 2;have r:=a_ b 3;have s:=a_ b 4;have t:=a_ b 5;have u:=a_ b 6;have x:=a_ b 7;have z:=a_ b 8;have B:=a_ b 9;have d:=a_ b 10;have f:=a_ b 11;have g:=a_ b 12;have j:=a_ b 13;have l:=a_ b 14;simp only[zl] at x0 o q r s t u x z B d f g j l
 go_upto_region 4 with (go_at_call 159;(with_reducible refine CM (H _ C.out) ?_);rintro e w1 ⟨rfl,m⟩;obtain ⟨a,n⟩:=gZ b C m;clear m x0 o q r s t u x z B d f g j l;have x0:=a_ a 0;have o:=a_ a 1;have q:=a_ a 2;have r:=a_ a 3;have s:=a_ a 4;have t:=a_ a 5;have u:=a_ a 6;have x:=a_ a 7;have z:=a_ a 8;have B:=a_ a 9;have d:=a_ a 10;have f:=a_ a 11;have g:=a_ a 12;have j:=a_ a 13;have l:=a_ a 14;simp only[zl] at x0 o q r s t u x z B d f g j l)
 go_loopw [3] (fun i wx=>∃k:Nat,i = I_ (k:Int)/\k<=8/\q_ w wx/\aW wx (w) #[I_ y.dev,I_ y.slot,I_ (h:Int),S_ A kn cap,I_ N,I_ M,I_ (sz:Int),I_ y.blocks,I_ 0,I_ 0,I_ 0,I_ 0,I_ 0,I_ 0,I_ 0] 64) (fun i _=>8 - (intOf i).toNat)
 case atStart=>exact ⟨0,rfl,O_,n.out,a.out⟩
 case round=>
  clear x0 o q r s t u x z B d f g j l b C a n;obtain ⟨k,rfl,hk,I,Q⟩:=hrel;have b:=H_ Q;have C:=H_ I;clear Q I;have x0:=a_ b 0;have o:=a_ b 1;have q:=a_ b 2;have r:=a_ b 3;have s:=a_ b 4;have t:=a_ b 5;have u:=a_ b 6;have x:=a_ b 7;have z:=a_ b 8;have B:=a_ b 9;have d:=a_ b 10;have f:=a_ b 11;have g:=a_ b 12;have j:=a_ b 13;have l:=a_ b 14;simp only[zl] at x0 o q r s t u x z B d f g j l
  by_cases G:k<8
  ·have kl:(k:Int)<8:=O_
   have hm:i64.wrap ((k:Int)*16)=(k:Int)*16:=fA O_
   by_cases L:(sz:Int)<=(k:Int)*16
   ·have R:=E k G;rw [J.out k G (by rw [K.out];exact L)] at R
    go_wp2_with (go_at_call 137;(with_reducible refine CM (R _) ?_);rintro e w1 ⟨rfl,m⟩;obtain ⟨a,n⟩:=gZ b C m;clear m)
    go_roundw
    case rel=>exact ⟨k+1,by go_num,O_,n.out,a.out⟩
    case measure=>exact bH
   ·go_wp2;go_roundw
    case rel=>exact ⟨k+1,by go_num,O_,C.out,b.out⟩
    case measure=>exact bH
  ·obtain rfl:k=8:=O_
   go_wp2_with (go_at_call 79;(with_reducible refine CM (D _) ?_);rintro e w1 ⟨rfl,m⟩;obtain ⟨a,n⟩:=gZ b C m;clear m x0 o q r s t u x z B d f g j l;have x0:=a_ a 0;have o:=a_ a 1;have q:=a_ a 2;have r:=a_ a 3;have s:=a_ a 4;have t:=a_ a 5;have u:=a_ a 6;have x:=a_ a 7;have z:=a_ a 8;have B:=a_ a 9;have d:=a_ a 10;have f:=a_ a 11;have g:=a_ a 12;have j:=a_ a 13;have l:=a_ a 14;simp only[zl] at x0 o q r s t u x z B d f g j l)
   go_ret;exact ⟨rfl,n⟩
end
end Go.Proofs.YtehfhnbpnaiogaaGreatDoor
