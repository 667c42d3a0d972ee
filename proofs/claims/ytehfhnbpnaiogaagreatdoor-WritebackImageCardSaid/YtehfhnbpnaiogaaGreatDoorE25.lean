/-
  Lemmas and contracts for the laws of this seat, part 25; several texts joined by a program.
-/
import Derived.Test.YtehfhnbpnaiogaaGreatDoorE24
import Derived.Test.YtehfhnbpnaiogaaGreatDoorE00
import Derived.Outline
namespace Go.Proofs.YtehfhnbpnaiogaaGreatDoor
set_option linter.unusedVariables false
set_option linter.unusedSimpArgs false
set_option maxRecDepth 100000
set_option maxHeartbeats 16000000
open Go.RowKit Go.Proofs.Tryz IntKind
section
theorem fu_:(prog.info? 5).map (·.size)=some 1:=by kernel_rfl
theorem rL {ops:Array Oper} {rest:List Oper} {o:Oper} {a:Act} {w:World} {Q:Exit->Act->World->Prop} (hgd:o.guard=none) (l c:Operand) (hop:o.op = .makeSlice 77 l c) (hl:a.eval l = I_ 1024) (hc:a.eval c = I_ 1024)
  (h:wpList prog ops Q rest (a.put o.dst (S_ (some ⟨w,0,none⟩) 1024 1024)) (w.alloc (.cells (madeCells #[.int .u8 0] 1024) 5))):wpList prog ops Q (o :: rest) a w:=by
 obtain ⟨k,j,d,f,g⟩:=info_parts nH;have b:=run_make (P:=prog) w 77 5 k (.int .u8 0) underlying77 j d .i64 .i64 1024 1024 O_ O_ (by rw [g];omega) O_;rw [f] at b;rw [show (1024:Int).toNat*1=1024 by rfl,show (1024:Int).toNat=1024 by rfl] at b;refine wpList_plain hgd fun K i=>?_;unfold Oper.wp;simp [execOp,hop,hl,hc,b,Result.andThen];exact i _ _ h
theorem nR (a0:Option Addr) (len0 cap0:Nat) (z0:List Int) (w:World) (w0:bP_ .i64 w a0 len0 cap0 z0) (hdb:qM w) :
  C_ 5 #[S_ a0 len0 cap0] w fun e w'=>e = .returned (.bool true)/\q_ w w':=by
 have an:=H_ (fun w' (B:q_ w w')=>hdb.step B);have HT:=H_ (Tp.old w0 B_);clear hdb w0;go_enter func5,ntmps5
 go_upto_region 2 with fail
 obtain ⟨t,ht⟩:=aZ w.heap.size;rw [<-ht] at HT ⊢;generalize w.alloc (.cells #[S_ a0 len0 cap0,I_ 0] 76)=W0 at HT;have H0:=H_ (LT.mk (cs:=[]) HT.out (fun c hc=>by cases hc));clear HT ht
 go_cut [4] from 22 to 31 (fun s4 wx=>∃X v,s4 = P_ X/\v.C=imC/\LT w t [(X,oK v)] [v] wx)
 case first=>
  as_aux_lemma=>
   go_wp2_with (first
    | (go_at_call 28;refine CM (is_ H0) ?_;rintro en w3 ⟨v,rfl,hC,hl⟩;have r:=H_ (hl.push (cG) (w3) rfl);have HC:=H_ hC;clear hl hC)
    | (refine iD rfl (.tmp 4) (.tmp 30) rfl rfl v rfl rfl (r.bk _ _ cO) rfl (r.ck _ cO) ?_))
   go_meet
   case rel=>exact ⟨w3,v,rfl,HC,r.put 0 rfl⟩
 case rest=>
  clear H0;obtain ⟨X,v,rfl,hC,hl⟩:=hcut;have HC:=H_ hC;have l:=H_ hl;clear hl hC
  go_upto_region 3 with fail
  go_cut [6] from 32 to 32 (fun s6 wx=>∃E,s6 = S_ (some ⟨E,0,none⟩) 1024 1024/\LT w t [(X,oK v),(E,tY (List.replicate 1024 0))] [v] wx)
  case first=>
   as_aux_lemma=>
    go_wp2_with (refine rL rfl (.const (I_ 1024)) (.const (I_ 1024)) rfl rfl rfl ?_)
    go_meet
    case rel=>exact ⟨wc,rfl,l.disk⟩
  case rest=>
   clear l;obtain ⟨E,rfl,hl⟩:=hcut;have l:=H_ hl;have ao:=H_ (show Ig (List.replicate 1024 0) v.C by rw [HC.out];exact Ig.new _);clear hl HC
   go_upto_region 5 with fail
   go_loopw [7,8,9,10,11,12,13,14] (fun s7 s8 s9 s10 s11 s12 s13 s14 wx=>∃(k:Nat) (v:Cv) (D:List UInt8),s7 = I_ (k:Int)/\k<=40/\Ig D v.C/\D.length=1024/\LT w t [(X,oK v),(E,tY D)] [v] wx) (fun s7 _ _ _ _ _ _ _ _=>40 - (intOf s7).toNat)
   case atStart=>exact ⟨0,v,_,rfl,O_,ao.out,rL_,l.out⟩
   case round=>
    clear l ao v;obtain ⟨k,v,D,rfl,hk,hI,hD,hl⟩:=hrel;obtain ⟨I,HD,l⟩:=eT hI hD hl;clear hI hD hl;obtain ⟨Wr,bi⟩:=aZ wr;subst bi
    go_upto_region 5 with fail
    go_cut [39] from 33 to 39 (fun s39 wx=>∃q:Bool,s39 = .bool q/\(q=true->k<40)/\LT w t [(X,oK v),(E,tY D)] [v] wx)
    case first=>
     as_aux_lemma=>
      by_cases aa:k<40
      ·have ad:(k:Int)<40:=O_
       go_wp2_with (go_at_call 32;refine CM (jH_ l.iv) ?_;rintro en w3 ⟨q,rfl,B⟩;have r:=H_ (l.step B);clear B)
       go_meet
       case rel=>exact ⟨_,rfl,fun _=>aa,r⟩
      ·have ad:¬(k:Int)<40:=O_
       go_wp2;go_meet
       case rel=>exact ⟨false,rfl,(fun h=>by cases h),l⟩
    case rest=>
     clear l;obtain ⟨q,rfl,hq,hl⟩:=hcut;have l:=H_ hl;clear hl
     cases q with
     | true=>
      have aa:k<40:=hq rfl;clear hq
      go_upto_region 7 with fail
      go_cut [8,9] from 42 to 45 (fun s8 s9 wx=>∃j off:Nat,s8 = I_ (j:Int)/\s9 = I_ (off:Int)/\j<2/\off<50/\LT w t [(X,oK v),(E,tY D)] [v] wx)
      case first=>
       as_aux_lemma=>
        go_wp2_with (first | (go_at_call 9;(with_reducible refine CM (rC 2 (by omega) (by omega) l.out.iv) ?_);rintro en w3 ⟨y3,rfl,q0,q1,J,O⟩;have r:=H_ (LT.read l J O);clear J) | (go_at_call 9;(with_reducible refine CM (rC 50 (by omega) (by omega) r.out.iv) ?_);rintro en w4 ⟨y4,rfl,q0,q1,J,O⟩;have af:=H_ (LT.read r J O);clear J))
        obtain ⟨j,rfl⟩:=sG (show 0<=y3 by assumption);obtain ⟨off,rfl⟩:=sG (show 0<=y4 by assumption);go_meet
        case rel=>exact ⟨j,off,rfl,rfl,O_,O_,af.out⟩
      case rest=>
       clear l;obtain ⟨j,off,rfl,rfl,hj,b7,hl⟩:=hcut;have l:=H_ hl;clear hl;obtain ⟨y,sz,hy,U,ac⟩:=sO I.inv hj;have HY:=H_ (And.intro hy (And.intro U ac));clear hy U ac
       go_upto_region 8 with fail
       go_cut [47] from 46 to 47 (fun s47 wx=>∃q:Nat,s47 = I_ (q:Int)/\q<4/\LT w t [(X,oK v),(E,tY D)] [v] wx)
       case first=>
        as_aux_lemma=>
         go_wp2_with (go_at_call 9;(with_reducible refine CM (rC 4 (by omega) (by omega) l.out.iv) ?_);rintro en w3 ⟨y3,rfl,q0,q1,J,O⟩;have r:=H_ (LT.read l J O);clear J)
         obtain ⟨q,rfl⟩:=sG (show 0<=y3 by assumption);go_meet
         case rel=>exact ⟨q,rfl,O_,r.out⟩
       case rest=>
        clear l;obtain ⟨q,rfl,hq,hl⟩:=hcut;have l:=H_ hl;clear hl
        by_cases b8:q<=1
        ·have ab:q=0\/q=1:=O_
         clear hq b8
         go_upto_region 9 with fail
         go_upto_if 48 with fail
         go_cut [48] (fun s48 wx=>s48 = .bool true/\LT w t [(X,oK v),(E,tY D)] [v] wx)
         case first=>
          rcases ab with rfl | rfl
          all_goals
           go_wp2;go_meet
           case rel=>exact ⟨rfl,l⟩
         case rest=>
          clear l ab;obtain ⟨rfl,hl⟩:=hcut;have l:=H_ hl;clear hl
          go_upto_region 11 with fail
          go_cut [10] from 51 to 55 (fun s10 wx=>∃s:ByteArray,s10 = .string s/\1<=s.size/\s.size<=20/\LT w t [(X,oK v),(E,tY D)] [v] wx)
          case first=>
           as_aux_lemma=>
            go_wp2_with (first
             | ((go_at_call 9;(with_reducible refine CM (rC 20 (by omega) (by omega) l.out.iv) ?_);rintro en w3 ⟨y3,rfl,q0,q1,J,O⟩;have r:=H_ (LT.read l J O);clear J);obtain ⟨m,rfl⟩:=sG q0)
             | (go_at_call 29;(rw [show (1:Int)+(m:Int)=((m+1:Nat):Int) by omega]);(with_reducible refine CM (f6_ (m+1) (by omega) (by omega) r.out.iv) ?_);rintro en w4 ⟨s,hs,rfl,J,hg⟩;have af:=H_ (LT.read r J hg);clear J hg))
            go_meet
            case rel=>exact ⟨s,rfl,O_,O_,af.out⟩
          case rest=>
           clear l;obtain ⟨s,rfl,ak,bw,hl⟩:=hcut;have l:=H_ hl;clear hl
           go_upto_region 12 with fail
           have u:=l.bk _ _ cO;obtain ⟨x0,H,x2,x3,x4,x5,x6⟩:=aF u;clear u;have A:=gZ_ j off s.size HD (by have:=l.gt E _ jQ;omega) (eh_ (l.bk _ _ jQ)) (l.ck _ cO) I.out hj ak O_ l.iv (fun h=>h.1 rfl) l.fresh
           go_cut [] from 56 to 62 (fun wx=>∃v,Ig D v.C/\LT w t [(X,oK v),(E,tY D)] [v] wx)
           case first=>
            as_aux_lemma=>
             go_wp2_with (first
              | (go_at_call 33;refine CM A ?_;rintro en w3 ⟨M,a',b',P,Q,R,f',S,ar,rfl,hc,J,hg⟩;have r:=H_ ((LT.read l J hg).add (v:=⟨a',b',P,Q,R,f',S,M⟩) hc);have V:=H_ ar;clear hc J hg ar)
              | (refine iD rfl (.tmp 4) (.tmp 62) rfl rfl ⟨a',b',P,Q,R,f',S,M⟩ rfl rfl (r.bk _ _ cO) rfl (r.ck _ cO) ?_))
             go_meet
             case rel=>exact ⟨⟨a',b',P,Q,R,f',S,M⟩,V.out,(r.put 0 rfl).sub (fun c hc=>by obtain rfl:=List.mem_singleton.1 hc;exact .head _)⟩
           case rest=>
            clear l HY I A x0 H x2 x3 x4 x5 x6 v y sz;obtain ⟨v,hI,hl⟩:=hcut;have I:=H_ hI;have l:=H_ hl;clear hl hI;obtain ⟨y,sz,hy,U,ac⟩:=sO I.inv hj;have HY:=H_ (And.intro hy U);have A:=zV (F:=2) (G:=1) (Z:=1) v.C j off sz y s _ _ _ _ _ _ _ _ wc (l.ck _ cO) I.inv hy U ak O_ l.fresh;clear hy U ac
            go_upto_region 13 with fail
            have u:=l.bk _ _ cO;obtain ⟨x0,H,x2,x3,x4,x5,x6⟩:=aF u;clear u
            go_wp2_with (first
             | (go_at_call 34;refine CM A ?_;rintro en w3 ⟨M,er,a',b',P,Q,R,f',S,hQ,rfl,hc,B⟩;have V:=H_ (I.write HY.out.1 HY.out.2 ak O_ hQ);have r:=H_ ((l.step B).add (v:=⟨a',b',P,Q,R,f',S,M⟩) hc);clear hQ hc B)
             | (refine iD rfl (.tmp 4) (.tmp 69) rfl rfl ⟨a',b',P,Q,R,f',S,M⟩ rfl rfl (r.bk _ _ cO) rfl (r.ck _ cO) ?_))
            go_roundw
            case rel=>exact ⟨k+1,⟨a',b',P,Q,R,f',S,M⟩,D,by go_num,O_,V.out,HD.out,(r.out.put 0 rfl).sub (fun c hc=>by obtain rfl:=List.mem_singleton.1 hc;exact .head _)⟩
            case measure=>exact bH
        ·have ab:q=2\/q=3:=O_
         clear hq b8
         rcases ab with rfl | rfl
         ·go_upto_region 15 with fail
          have A:=bI_ (F:=2) (G:=1) (Z:=1) v.C j off sz y _ _ _ _ _ _ _ _ wc (l.ck _ cO) I.inv HY.out.1 HY.out.2.1 O_ l.fresh;have u:=l.bk _ _ cO;obtain ⟨x0,H,x2,x3,x4,x5,x6⟩:=aF u;clear u
          go_wp2_with (first
           | (go_at_call 35;refine CM A ?_;rintro en w3 ⟨M,er,a',b',P,Q,R,f',S,hQ,rfl,hc,B⟩;have V:=H_ (I.trunc HY.out.1 HY.out.2.1 (by have:=HY.out.2.2;omega) O_ hQ.2.2);have r:=H_ ((l.step B).add (v:=⟨a',b',P,Q,R,f',S,M⟩) hc);clear hQ hc B)
           | (refine iD rfl (.tmp 4) (.tmp 78) rfl rfl ⟨a',b',P,Q,R,f',S,M⟩ rfl rfl (r.bk _ _ cO) rfl (r.ck _ cO) ?_))
          go_roundw
          case rel=>exact ⟨k+1,⟨a',b',P,Q,R,f',S,M⟩,D,by go_num,O_,V.out,HD.out,(r.out.put 0 rfl).sub (fun c hc=>by obtain rfl:=List.mem_singleton.1 hc;exact .head _)⟩
          case measure=>exact bH
         ·clear HY hj b7 y sz
          go_upto_region 17 with fail
          obtain ⟨A2,c2,e2,_,_⟩:=(show x_ _ _ _ _ _ _ _ _ _ v.C from l.ck _ cO).frames.form;have u:=l.bk _ _ cO;have H:=a_ u 1;simp only[zl] at H;clear u;rw [e2] at H;have b6:=I.inv.nr;generalize hnn:v.C.frames.length=nn at H b6;clear e2 hnn
          go_cut [11] from 82 to 87 (fun s11 wx=>∃n:Int,s11 = I_ n/\LT w t [(X,oK v),(E,tY D)] [v] wx)
          case first=>
           as_aux_lemma=>
            go_wp2_with (go_at_call 9;(with_reducible refine CM (rC (nn:Int) (by omega) (by omega) l.out.iv) ?_);rintro en w3 ⟨y3,rfl,q0,q1,J,O⟩;have r:=H_ (LT.read l J O);clear J)
            go_meet
            case rel=>exact ⟨_,rfl,r⟩
          case rest=>
           clear l H b6;obtain ⟨n,rfl,hl⟩:=hcut;have l:=H_ hl;clear hl
           go_upto_region 18 with fail
           have u:=l.bk _ _ cO;obtain ⟨x0,H,x2,x3,x4,x5,x6⟩:=aF u;clear u;have A:=aB_ v.C n _ _ _ _ _ _ _ _ wc (l.ck _ cO) I.inv l.fresh (an _ l.iv.below)
           go_cut [12,13,14] from 88 to 94 (fun s12 s13 s14 wx=>∃Xa Xr va e1 p0 p1 p2 p3 p4 p5 pd pb pc pt,s12 = P_ Xa/\s13 = P_ Xr/\s14 = I_ e1/\tC v.C n va.C (.agg (rqR p0 p1 p2 p3 p4 p5 pd pb pc pt)) e1/\LT w t [(X,oK v),(E,tY D),(Xa,oK va),(Xr,.cells (bJ p0 p1 p2 p3 p4 p5 pd pb pc pt) 37 (0,0))] [va,v] wx)
           case first=>
            as_aux_lemma=>
             go_wp2_with (first
              | (go_at_call 10;refine CM A ?_;rintro en w3 ⟨M,err,a',b',P,Q,R,f',S,rq,hP,rfl,hc,B⟩;obtain ⟨p0,p1,p2,p3,p4,p5,pd,pb,pc,pt,rfl⟩:=hP.row;have HP:=H_ hP;clear hP;have r:=H_ ((l.step B).add (v:=(⟨_,_,_,_,_,_,_,_⟩:Cv)) hc);obtain ⟨k1,k2,a6⟩:=r.box2 (E_ none 0 0 none 0 0 none 0 0 none 0 0 none 0 0 none 0 0 none 0 0) #[a',b',P,Q,R,f',S] lO (bJ p0 p1 p2 p3 p4 p5 pd pb pc pt) 30 37;obtain ⟨HB,K1,K2⟩:=eT a6 k1 k2;clear a6 k1 k2 B hc)
              | (refine iD rfl (.tmp 12) (.tmp 92) rfl rfl (⟨a',b',P,Q,R,f',S,M⟩:Cv) rfl rfl K1 rfl (r.ck _ cO) ?_)
              | (refine cV rfl 37 (.tmp 13) (.tmp 93) rfl rfl (w3+1) ((bJ p0 p1 p2 p3 p4 p5 pd pb pc pt)) rfl rfl 37 (lO) ?_ bT rfl (dX) ?_;exact K2))
             go_meet
             case rel=>exact ⟨w3,w3+1,⟨_,_,_,_,_,_,_,M⟩,_,_,_,_,_,_,_,_,_,_,_,rfl,rfl,rfl,HP,HB.out⟩
           case rest=>
            clear l A x0 H x2 x3 x4 x5 x6;obtain ⟨Xa,Xr,va,e1,p0,p1,p2,p3,p4,p5,pd,pb,pc,pt,rfl,rfl,rfl,hP,hl⟩:=hcut;have HP:=H_ hP;clear hP;have l:=H_ hl;clear hl
            by_cases h0:e1=0
            rotate_left
            ·have d0:(e1 == 0)=false:=by simpa using h0
             have d1:(e1 != 0)=true:=by simp [h0]
             clear h0;have ag:=H_ ((l.few (l':=[(X,oK v),(E,tY D)]) (List.sublist_append_left _ _)).sub (cs':=[v]) (fun c hc=> .tail _ hc));clear l;go_wp2;go_roundw
             case rel=>exact ⟨k+1,v,D,by go_num,O_,I.out,HD.out,ag.out⟩
             case measure=>exact bH
            ·subst h0;obtain ⟨au,L,sc,rfl,rfl,q1,q2,q3,az⟩:=I.beg HP.out;obtain ⟨ap,HK,aq⟩:=eT au az q3;clear HP I au az
             go_upto_region 20 with fail
             have u:=l.bk _ _ tI;have r4:=a_ u 4;have r5:=a_ u 5;have r6:=a_ u 6;simp only[zl] at r4 r5 r6;clear u;have bn:=r5;have bm:=r4;have m0:(0:Int)<=(L:Int):=O_
             have m1:(1:Int)<=(sc:Int):=O_
             have m2:(L:Int)+(sc:Int)<=128:=O_
             have m3:i64.wrap ((L:Int)+(sc:Int))=(L:Int)+(sc:Int):=fA O_;have m4:i64.wrap ((sc:Int)*8)=(sc:Int)*8:=fA O_;have m5:((pd.size:Int) != (sc:Int)*8)=false:=by rw [q3];simp
             go_cut [121] from 97 to 121 (fun s121 wx=>s121 = .bool false/\LT w t [(X,oK v),(E,tY D),(Xa,oK va),(Xr,.cells (bJ p0 p1 p2 p3 (L:Int) (sc:Int) pd pb pc pt) 37 (0,0))] [va,v] wx)
             case first=>
              go_wp2;go_meet
              case rel=>exact ⟨by first | rfl | (congr 1;simp only[Bool.or_eq_false_iff,decide_eq_false_iff_not];omega),l.out⟩
             case rest=>
              clear l m3 m4 m5 r4 r5 r6 bm bn;obtain ⟨rfl,hl⟩:=hcut;have l:=H_ hl;clear hl;obtain ⟨D',a7⟩:=aZ (spD D (L*8) pd);have a2:L*8+pd.size<=D.length:=by rw [HD.out,aq.out];omega
              have HS:=H_ (show Spl D (L*8) pd D' by rw [a7];exact g9_ a2);have bd:=H_ (show D'.length=1024 by rw [a7,g8_ a2];exact HD);have HF:=H_ a2;have be:=H_ a7;clear a7 a2 q3
              go_upto_region 22 with fail
              go_cut [] from 122 to 129 (fun wx=>LT w t [(X,oK v),(E,tY D'),(Xa,oK va),(Xr,.cells (bJ p0 p1 p2 p3 (L:Int) (sc:Int) pd pb pc pt) 37 (0,0))] [va,v] wx)
              case first=>
               as_aux_lemma=>
                refine wp_region_still_tail 7 s_ s_ ?_;simp only[vK]
                change wpStill _ _ (World.drew _) (fun a'=>wpList _ _ _ _ a' (World.drew _)) _ _
                generalize hG:World.drew _=W2;have a5:=(aI (wc) wc).drew;rw [hG] at a5;replace l:=H_ (l.step a5);clear a5 hG;have u:=l.bk _ _ tI;have r4:=a_ u 4;have r6:=a_ u 6;simp only[zl] at r4 r6;clear u;have m3:i64.wrap ((L:Int)*8)=(L:Int)*8:=fA O_;have m4:0<=(L:Int)*8/\(L:Int)*8<=1024:=O_
                have m5:((L:Int)*8).toNat=L*8:=O_
                have m6:¬1024=L*8:=O_
                iterate 7 (refine wpStill_step (fun K hK=>?_);go_simp;(with_reducible refine hK _ ?_);clear hK K)
                refine wpStill_nil ?_;refine sH rfl (.tmp 126) (.tmp 128) 77 9 rfl 5 underlying77 fu_ E (L*8) (1024 - L*8) (1024 - L*8) pd rfl rfl D 5 (l.bk _ _ jQ) (by rw [aq.out];omega) HF.out ?_;rw [<-be.out];go_wp2;go_meet
                case rel=>exact l.put 1 rfl
              case rest=>
               replace hcut:=H_ hcut;clear l;have l:=hcut;clear hcut
               go_upto_region 23 with fail
               have A:=e9_ va.C n _ _ _ _ _ _ _ _ wc (l.ck _ cO) ap l.fresh 0;have u:=l.bk _ _ jB;obtain ⟨x0,H,x2,x3,x4,x5,x6⟩:=aF u;clear u
               go_cut [14] from 130 to 135 (fun s14 wx=>∃vb,s14 = I_ 0/\Ig D' vb.C/\LT w t [(X,oK v),(E,tY D'),(Xa,oK vb),(Xr,.cells (bJ p0 p1 p2 p3 (L:Int) (sc:Int) pd pb pc pt) 37 (0,0))] [vb,va,v] wx)
               case first=>
                as_aux_lemma=>
                 go_wp2_with (first
                  | (go_at_call 16;refine CM A ?_;rintro en w3 ⟨M,err,a',b',P,Q,R,f',S,hP,rfl,hc,B⟩;obtain ⟨rfl,av⟩:=HK.out D' M err HS.out hP;have V:=H_ av;have r:=H_ ((l.step B).add (v:=⟨a',b',P,Q,R,f',S,M⟩) hc);clear hP av hc B)
                  | (refine iD rfl (.tmp 12) (.tmp 134) rfl rfl ⟨a',b',P,Q,R,f',S,M⟩ rfl rfl (r.bk _ _ jB) rfl (r.ck _ cO) ?_))
                 go_meet
                 case rel=>exact ⟨⟨a',b',P,Q,R,f',S,M⟩,rfl,V,r.put 2 rfl⟩
               case rest=>
                clear l HK HS A ap x0 H x2 x3 x4 x5 x6;obtain ⟨vb,rfl,hI,hl⟩:=hcut;have I:=H_ hI;have l:=H_ hl;clear hl hI
                go_upto_region 26 with fail
                have u:=l.bk _ _ jB;obtain ⟨x0,H,x2,x3,x4,x5,x6⟩:=aF u;clear u;have ag:=H_ (((l.put (cs':=#[vb.a,vb.b,vb.c,vb.d,vb.e,vb.f,vb.g]) 0 rfl).few (l':=[(X,oK vb),(E,tY D')]) (List.sublist_append_left _ _)).sub (cs':=[vb]) (fun c hc=>by obtain rfl:=List.mem_singleton.1 hc;exact .head _))
                go_wp2_with (refine iD rfl (.tmp 4) (.tmp 138) rfl rfl vb rfl rfl (l.bk _ _ cO) rfl (l.ck _ cO) ?_)
                go_roundw
                case rel=>exact ⟨k+1,vb,D',by go_num,O_,I.out,bd.out,ag.out⟩
                case measure=>exact bH
     | false=>
      clear hq hk;have am:=H_ I.chk
      go_upto_region 27 with fail
      have u:=l.bk _ _ cO;obtain ⟨x0,H,x2,x3,x4,x5,x6⟩:=aF u;clear u;have A:=f7_ (l.ck _ cO) am
      go_cut [141] from 139 to 141 (fun s141 wx=>s141 = .bool false/\LT w t [(X,oK v),(E,tY D)] [v] wx)
      case first=>
       as_aux_lemma=>
        go_wp2_with (go_at_call 36;refine CM A ?_;rintro en w3 ⟨rfl,B⟩;have r:=H_ (l.step B);clear B)
        go_meet
        case rel=>exact ⟨rfl,r⟩
      case rest=>
       clear l am A x0 H x2 x3 x4 x5 x6;obtain ⟨rfl,hl⟩:=hcut;have l:=H_ hl;clear hl;have bq:v.C.frames.length<=64:=I.inv.nr.2
       go_upto_region 30 with fail
       go_loopw [15,16,17,18] (fun s15 s16 s17 s18 wx=>∃i:Nat,s15 = I_ ((i:Int)+1)/\i<=v.C.frames.length/\LT w t [(X,oK v),(E,tY D)] [v] wx) (fun s15 _ _ _ _=>v.C.frames.length+1 - (intOf s15).toNat)
       case atStart=>exact ⟨0,rfl,O_,l.out⟩
       case round=>
        clear l;obtain ⟨i,rfl,hi,hl⟩:=hrel;have l:=H_ hl;clear hl;obtain ⟨Wq,bh⟩:=aZ wr;subst bh;obtain ⟨A2,c2,e2,_,_⟩:=(show x_ _ _ _ _ _ _ _ _ _ v.C from l.ck _ cO).frames.form;have u:=l.bk _ _ cO;have H:=a_ u 1;simp only[zl] at H;clear u;rw [e2] at H;clear e2
        by_cases aa:i<v.C.frames.length
        ·have ad:(i:Int)+1<=(v.C.frames.length:Int):=O_
         obtain ⟨x,u⟩:∃x,v.C.frames[i]?=some x:=⟨_,cU aa⟩;have HX:=H_ u;clear u
         go_upto_region 32 with fail
         clear H ad;have hc:=show x_ _ _ _ _ _ _ _ _ _ v.C from l.ck _ cO;obtain ⟨A2,c2,e2,_,_⟩:=hc.frames.form;have u:=l.bk _ _ cO;have H:=a_ u 1;simp only[zl] at H;clear u;rw [e2] at H;have aj:=hc.frames;rw [e2] at aj;obtain ⟨bb,o,rfl,br,c0,c1,c3,c4,c5,c6,c7,c8,c9⟩:=FrA.cells aj HX.out;have j1:(i:Int)<(v.C.frames.length:Int):=O_
         clear hc aj e2;obtain ⟨k1,a6⟩:=l.box1 (pC 0 0 ⟨#[]⟩ 0 0 0 0 0 0) (fG x.file x) 85;have HB:=H_ a6;have K1:=H_ k1;clear a6 k1
         go_cut [16] from 149 to 154 (fun s16 wx=>∃Xx,s16 = P_ Xx/\LT w t [(X,oK v),(E,tY D),(Xx,oF x)] [v] wx)
         case first=>
          as_aux_lemma=>
           go_wp2_with (refine cV rfl 85 (.tmp 16) (.tmp 154) rfl rfl (Wq) (fG x.file x) rfl rfl 85 _ K1.out lA rfl (by simp [Value.oneCell']) ?_)
           go_meet
           case rel=>exact ⟨Wq,rfl,HB.out⟩
         case rest=>
          clear l HB K1 H j1 c0 c1 c3 c4 c5 c6 c7 c8 c9;obtain ⟨Xx,rfl,hl⟩:=hcut;have l:=H_ hl;clear hl
          go_upto_region 33 with fail
          have hv:=I.inv;have u:=l.bk _ _ jB;have f0:=a_ u 0;have f1:=a_ u 1;have f3:=a_ u 3;have f4:=a_ u 4;have f8:=a_ u 8;simp only[zl] at f0 f1 f3 f4 f8;clear u;have bg:=f4
          by_cases hf:x.file=-1
          ·have d0:x.file<0:=O_
           clear hf hv;go_quiet (fail);go_wp2;go_roundw
           case rel=>exact ⟨i+1,by go_num,O_,(l.out.step (below_drewN B_ nq)).few (List.sublist_append_left _ _)⟩
           case measure=>exact bH
          ·obtain ⟨j,y,hu,yX⟩:=hv.used HX.out hf;obtain ⟨p,al⟩:∃p:Nat,x.page=(p:Int):=sG hu.ok.page.1;have bu:p<8:=by have:=hu.ok.page;omega
           have b9:=hu.ix;have HU:=H_ (And.intro hu al);have bs:j<2:=by have h1:=bK hu.fl;have h2:=hv.nf;omega
           rw [b9] at f0;rw [al] at f1;clear yX hf hv;have hc:=show x_ _ _ _ _ _ _ _ _ _ v.C from l.ck _ cO;obtain ⟨A1,cf,e1,_,_⟩:=hc.files.form;have u:=l.bk _ _ cO;have x0:=xV u;clear u;rw [e1] at x0;have a1:=hc.files;rw [e1] at a1;obtain ⟨bf,of,kt,KB,kc,rfl,ax,_,_,_,_,zz⟩:=FlA.cells a1 hu.fl;have z6:=zz 6 _ rfl;have z7:=zz 7 _ rfl;have j2:(j:Int)<(v.C.files.length:Int):=by have h1:=bK hu.fl;omega
           have jf:v.C.files.length<=100:=by have h2:=I.inv.nf;omega
           clear hc a1 e1 hu b9 al zz;obtain ⟨b1,N⟩:=aZ ((x.pg.dirty != 0));obtain ⟨b2,Y⟩:=aZ ((x.writing != 0));obtain ⟨b3,ai⟩:=aZ (aC y p);have d0:¬(j:Int)<0:=O_
           have a4:(bits .and .i64 y.blocks (wrap64 (2 ^ p)) == 0)=b3:=ai.symm;have a3:=H_ (And.intro N ai);clear ai
           rcases b1 with _ | _
           rotate_left
           ·have d1:=N.symm;clear N Y a4 a3;go_quiet (fail);go_wp2;go_roundw
            case rel=>exact ⟨i+1,by go_num,O_,(l.out.step (below_drewN B_ nq)).few (List.sublist_append_left _ _)⟩
            case measure=>exact bH
           rcases b2 with _ | _
           rotate_left
           ·have d1:=N.symm;have d2:=Y.symm;clear N Y a4 a3;go_quiet (fail);go_wp2;go_roundw
            case rel=>exact ⟨i+1,by go_num,O_,(l.out.step (below_drewN B_ nq)).few (List.sublist_append_left _ _)⟩
            case measure=>exact bH
           rcases b3 with _ | _
           rotate_left
           ·have d1:=N.symm;have d2:=Y.symm;clear N Y a3;go_quiet (fail);go_wp2;go_roundw
            case rel=>exact ⟨i+1,by go_num,O_,(l.out.step (below_drewN B_ nq)).few (List.sublist_append_left _ _)⟩
            case measure=>exact bH
           have d1:=N.symm;have d2:=Y.symm;clear N Y
           go_cut [182] from 155 to 182 (fun s182 wx=>s182 = .bool false/\q_ wc wx)
           case first=>
            go_quiet (fail);go_wp2;go_meet
            case rel=>exact ⟨rfl,below_drewN B_ nq⟩
           case rest=>
            obtain ⟨rfl,B⟩:=hcut;replace l:=H_ (l.step B);clear B d1 d2 a4 f0 f1 f3 f4 bg f8 x0 z6 z7
            go_upto_region 34 with fail
            have u:=l.bk _ _ jB;obtain ⟨f0,f1⟩:=cs2 u;clear u;rw [HU.out.1.ix] at f0;rw [HU.out.2] at f1;obtain ⟨at_,ah⟩:=aZ ((j*18+2+p*2)*8);have bo:at_+16<=1024:=O_
            go_cut [17] from 183 to 191 (fun s17 wx=>s17 = I_ (at_:Int)/\LT w t [(X,oK v),(E,tY D),(Xx,oF x)] [v] wx)
            case first=>
             go_wp2;go_meet
             case rel=>exact ⟨by subst ah;go_num,l.out⟩
            case rest=>
             clear l f0 f1;obtain ⟨rfl,hl⟩:=hcut;have l:=H_ hl;have bc:=H_ ah;clear hl ah
             go_upto_region 36 with fail
             go_loopw [18] (fun s18 wx=>∃b:Nat,s18 = I_ (b:Int)/\b<=16/\LT w t [(X,oK v),(E,tY D),(Xx,oF x)] [v] wx) (fun s18 _=>16 - (intOf s18).toNat)
             case atStart=>exact ⟨0,rfl,O_,l.out⟩
             case round=>
              clear l;obtain ⟨b,rfl,bp,hl⟩:=hrel;have l:=H_ hl;clear hl
              go_upto_region 36 with fail
              by_cases b5:b<16
              ·have ba:(b:Int)<16:=O_
               have hc:=show x_ _ _ _ _ _ _ _ _ _ v.C from l.ck _ cO;obtain ⟨A1,cf,e1,_,_⟩:=hc.files.form;have u:=l.bk _ _ cO;have x0:=xV u;clear u;rw [e1] at x0;have a1:=hc.files;rw [e1] at a1;obtain ⟨bf,of,kt,KB,kc,rfl,ax,_,_,_,_,zz⟩:=FlA.cells a1 HU.out.1.fl;have z6:=zz 6 _ rfl;clear hc a1 e1 zz;have u:=l.bk _ _ jB;obtain ⟨f0,f1,f2,f3⟩:=iH u;clear u;rw [HU.out.1.ix] at f0;rw [HU.out.2] at f1;have m1:i64.wrap ((p:Int)*16+(b:Int))=(p:Int)*16+(b:Int):=fA O_
               by_cases U:(p:Int)*16+(b:Int)<y.size
               ·go_cut [208] from 192 to 208 (fun s208 wx=>s208 = .bool true/\q_ wr wx)
                case first=>
                 go_quiet (fail);go_wp2;go_meet
                 case rel=>exact ⟨rfl,below_drewN B_ nq⟩
                case rest=>
                 obtain ⟨rfl,B⟩:=hcut;replace l:=H_ (l.step B);clear B x0 z6 f0 f1 f2 f3 m1 bf ax
                 go_upto_region 38 with fail
                 have u:=l.bk _ _ jB;have f2:=a_ u 2;have f3:=a_ u 3;simp only[zl] at f2 f3;clear u;have ay:=eh_ (l.bk _ _ jQ);have b4:x.pg.data.size=16:=HU.out.1.ok.pg.len;have a5:b<x.pg.data.size:=O_
                 have aw:at_+b<D.length:=by rw [HD.out];omega
                 have l0:=ay (at_+b) aw;have m2:i64.wrap ((at_:Int)+(b:Int))=((at_+b:Nat):Int):=by rw [fA O_];omega
                 have m3:((at_+b:Nat):Int)<1024:=O_
                 have a9:=fun hv=>I.byte HU.out.1 HU.out.2 (by have:=a3.out.1;simpa using this) a3.out.2.symm bc.out b5 U hv a5 aw;obtain ⟨bv,a8⟩:=aZ (bt x.pg.valid (b / 8));rw [<-a8] at a9
                 have b0:((b:Int).tdiv 8=0/\(b:Int) / 8=0/\(bits .and .i64 x.pg.valid 1 != 0)=bv)\/((b:Int).tdiv 8=1/\(b:Int) / 8=1/\(bits .and .i64 x.pg.valid 2 != 0)=bv):=by
                  by_cases q:b<8
                  ·exact .inl ⟨by rw [tv_ O_];omega,O_,by rw [a8,show b / 8=0 by omega];rfl⟩
                  ·exact .inr ⟨by rw [tv_ O_];omega,O_,by rw [a8,show b / 8=1 by omega];rfl⟩
                 clear ay b4 a8
                 go_cut [232] from 211 to 232 (fun s232 wx=>s232 = .bool false/\q_ wc wx)
                 case first=>
                  rcases b0 with ⟨d1,d2,d3⟩ | ⟨d1,d2,d3⟩
                  all_goals
                   cases bv
                   all_goals
                    first | (have bx:=a9 rfl) | skip
                    clear a9
                    go_quiet (fail);go_wp2;go_meet
                    case rel=>exact ⟨rfl,below_drewN B_ nq⟩
                 case rest=>
                  obtain ⟨rfl,B⟩:=hcut;replace l:=H_ (l.step B);clear B b0 a9 l0 m2 m3 f2 f3;go_wp2;go_roundw
                  case rel=>exact ⟨b+1,by go_num,O_,l.out⟩
                  case measure=>exact bH
               ·go_quiet (fail);go_wp2;go_roundw
                case rel=>exact ⟨i+1,by go_num,O_,(l.out.step (below_drewN B_ nq)).few (List.sublist_append_left _ _)⟩
                case measure=>exact bH
              ·have ba:¬(b:Int)<16:=O_
               go_quiet (fail);go_wp2;go_roundw
               case rel=>exact ⟨i+1,by go_num,O_,(l.out.step (below_drewN B_ nq)).few (List.sublist_append_left _ _)⟩
               case measure=>exact bH
        ·obtain rfl:i=v.C.frames.length:=O_
         have ad:¬(v.C.frames.length:Int)+1<=(v.C.frames.length:Int):=O_
         have bj:=fun W (B:q_ Wq W)=>cI_ (an _ (l.iv.below.trans (B.mono l.iv.below.size)));have ae:=l.iv.below
         go_wp2_with (go_at_call 20;refine CM (bj _ B_) ?_;rintro en w4 ⟨rfl,bl⟩)
         go_ret;exact ⟨rfl,ae.trans (bl.mono ae.size)⟩
end
end Go.Proofs.YtehfhnbpnaiogaaGreatDoor
