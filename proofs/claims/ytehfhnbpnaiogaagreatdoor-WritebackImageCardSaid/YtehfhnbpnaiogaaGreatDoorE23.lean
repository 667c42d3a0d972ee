/-
  Lemmas and contracts for the laws of this seat, part 23; several texts joined by a program.
-/
import Derived.Test.YtehfhnbpnaiogaaGreatDoorE22
import Derived.Test.YtehfhnbpnaiogaaGreatDoorE00
import Derived.Outline
namespace Go.Proofs.YtehfhnbpnaiogaaGreatDoor
set_option linter.unusedVariables false
set_option linter.unusedSimpArgs false
set_option maxRecDepth 100000
set_option maxHeartbeats 16000000
open Go.RowKit Go.Proofs.Tryz IntKind
variable {B Z base h i k n p:Nat} {C:Ck} {L:List Fr} {S:Nat->Prop} {a b d v vr':Value} {e:TypeId} {gs:List Gr} {w:World} {x:Fr} {y:Fl} {α:Type}
section
theorem ep_:(prog.info? 64).map (·.size)=some 15:=by kernel_rfl
structure bO_ (C:Ck) (i:Nat) (x:Fr) (j:Nat) (y:Fl) (l:Lr):Prop where
  u:dE C i x j y
  rd:x.reading=0
  wr:x.writing=0
  hole:aC y x.page.toNat=true->x.pg.valid=3
  lo:x.pg.dirty≠0->x.page*16<y.size
  zero:∀b:Nat,b<16->y.size<=x.page*16+(b:Int)->bt x.pg.valid (b / 8)=true->x.pg.data.data[b]?=some 0
  mrk:bits .andNot .i64 (y.c x.page.toNat).2 4=if x.pg.dirty=0 then 0 else 1
  gt:(y.c x.page.toNat).1=(i:Int)+1
  lst:C.lists[x.tenant.toNat]?=some l
  grp:x.tenant<(C.groups.length:Int)
  mem:(i:Int)+1 ∈ l.act ++ l.ina
theorem gi_ {c:Cn} (ht:X_ h c) (hc:c p≠(0,0)):∃k,k<(aH 0 (4 ^ h) c).length/\(aH 0 (4 ^ h) c)[k]?=some ((p:Int),(c p).1,(c p).2)/\∀m:Nat,∀q:En,(aH 0 (4 ^ h) c)[m]?=some q->q.1=(p:Int)->q=((p:Int),(c p).1,(c p).2):=by
  have l:p<4 ^ h:=Nat.lt_of_not_ge fun f=>hc (ht.2.1 p f);have j:((p:Int),(c p).1,(c p).2) ∈ aH 0 (4 ^ h) c:=by
    unfold aH;rw [List.mem_filterMap];exact ⟨p,List.mem_range.2 l,by rw [if_neg hc];simp⟩
  obtain ⟨k,i⟩:=List.getElem?_of_mem j;refine ⟨k,(bK i),i,fun m q n g=>?_⟩;have b:=fF n;unfold aH at b;rw [List.mem_filterMap] at b;obtain ⟨a,_,d⟩:=b
  split at d
  · cases d
  · obtain rfl:=aP d
    have:a=p:=by have:((0+a:Nat):Int)=(p:Int):=g;omega
    subst this;simp
theorem ie_ {j:Nat} {l:Lr} {c e f g:Value} (h:x_ w S a b c d e f g C) (hl:qK C) (ok:bO_ C i x j y l) :
    C_ 104 #[cI a b c d e f g,I_ ((i:Int)+1)] w (cP true w):=by
  obtain ⟨A1,c1,rfl,_,_⟩:=h.files.form;obtain ⟨A2,c2,rfl,_,_⟩:=h.frames.form;obtain ⟨A3,m3,c3,rfl⟩:=h.zones.cap;obtain ⟨A4,c4,rfl,_,_⟩:=h.groups.form;obtain ⟨A5,c5,rfl,_,_⟩:=h.lists.form;obtain ⟨A6,m6,c6,rfl⟩:=h.clocks.cap;obtain ⟨A7,m7,c7,rfl⟩:=h.ptes.cap;obtain ⟨v,hv⟩:∃v:Cv,v=⟨S_ A1 C.files.length c1,S_ A2 C.frames.length c2,S_ A3 m3 c3,S_ A4 C.groups.length c4,S_ A5 C.lists.length c5,S_ A6 m6 c6,S_ A7 m7 c7,C⟩:=⟨_,rfl⟩;have HS:=H_ (LN.start w);have ao:x_ w (LQ (fun _=>True) [(w.heap.size,oK v)]) (S_ A1 C.files.length c1) (S_ A2 C.frames.length c2) (S_ A3 m3 c3) (S_ A4 C.groups.length c4) (S_ A5 C.lists.length c5) (S_ A6 m6 c6) (S_ A7 m7 c7) C:=h.weak (fun z hz _=>⟨trivial,by simp;omega⟩);have s:=H_ (show LN w [(w.heap.size,oK v)] [v] (w.alloc (.cells (E_ A1 C.files.length c1 A2 C.frames.length c2 A3 m3 c3 A4 C.groups.length c4 A5 C.lists.length c5 A6 m6 c6 A7 m7 c7) 30)) from by
    have h1:=(LN.start w).push (.cells (E_ A1 C.files.length c1 A2 C.frames.length c2 A3 m3 c3 A4 C.groups.length c4 A5 C.lists.length c5 A6 m6 c6 A7 m7 c7) 30) (w) rfl;subst hv;exact h1.add (v:=⟨S_ A1 C.files.length c1,S_ A2 C.frames.length c2,S_ A3 m3 c3,S_ A4 C.groups.length c4,S_ A5 C.lists.length c5,S_ A6 m6 c6,S_ A7 m7 c7,C⟩) (ao.step (b_ B_ _)))
  have b9:v.C=C:=by rw [hv]
  have b5:v.a = S_ A1 C.files.length c1:=by rw [hv]
  have b6:v.b = S_ A2 C.frames.length c2:=by rw [hv]
  have b7:v.d = S_ A4 C.groups.length c4:=by rw [hv]
  have b8:v.e = S_ A5 C.lists.length c5:=by rw [hv]
  obtain ⟨X,hX⟩:=aZ w.heap.size;rw [<-hX] at s;have P:=H_ (And.intro b9 (And.intro b5 (And.intro b6 (And.intro b7 b8))));have hu:=ok.u;obtain ⟨p,ba⟩:∃p:Nat,x.page=(p:Int):=sG hu.ok.page.1;have b1:p<8:=by have:=hu.ok.page;omega
  have b3:x.page.toNat=p:=O_
  obtain ⟨t,bc⟩:∃t:Nat,x.tenant=(t:Int):=sG hu.ok.tenant.1;have cg:(t:Int)<(C.groups.length:Int):=by have:=ok.grp;omega
  obtain ⟨D,HU,bi⟩:=eT ok hu hl;have av:=bK hu.fr;have ax:=bK hu.fl;have ce:C.files.length<=100:=hl.files.2;have cf:C.frames.length<=100:=hl.frames.2;have bq:0<=x.holds/\x.holds<=255:=hu.ok.holds;obtain ⟨c9,ca⟩:=bq;have j1:(i:Int)<(C.frames.length:Int):=O_
  have j2:(j:Int)<(C.files.length:Int):=O_
  have p8:(p:Int)<8:=O_
  have E:=H_ (And.intro ba (And.intro b3 (And.intro bc (And.intro b1 (And.intro av ax)))));clear hv ao h hl ok hu b9 b5 b6 b7 b8 ba b3 bc av ax b1 HS;have bl:=hX;clear hX;go_enter func104,ntmps104
  go_upto_region 1 with fail
  rw [<-bl] at *;generalize w.alloc _=W0 at s;have hc:=show x_ _ _ v.a v.b v.c v.d v.e v.f v.g v.C from s.ck _ cO;rw [P.out.1] at hc;have n:=s.bk _ _ cO;have x1:=a_ n 1;simp only[zl] at x1;clear n;rw [P.out.2.2.1] at x1;have ag:=hc.frames;rw [P.out.2.2.1] at ag;obtain ⟨bb,o,rfl,ae,f0,I,f3,f4,L,f6,f7,K,f9⟩:=FrA.cells ag HU.fr;rw [HU.ix] at f0;rw [E.out.1] at I;rw [E.out.2.2.1] at f6;rw [D.rd] at K;rw [D.wr] at f9;clear hc ag;obtain ⟨N,G⟩:=s.box1 (pC 0 0 ⟨#[]⟩ 0 0 0 0 0 0) (pC (j:Int) (p:Int) x.pg.data x.pg.valid x.pg.dirty (t:Int) x.holds 0 0) 85;have HB:=H_ G;have K1:=H_ N;clear G N
  go_cut [5] from 12 to 17 (fun s5 wx=>∃Xx,s5 = P_ Xx/\LN w [(X,oK v),(Xx,.cells (pC (j:Int) (p:Int) x.pg.data x.pg.valid x.pg.dirty (t:Int) x.holds 0 0) 85 (0,0))] [v] wx)
  case first=>
    go_wp2_with (refine cV rfl 85 (.tmp 5) (.tmp 17) rfl rfl (W0) (pC (j:Int) (p:Int) x.pg.data x.pg.valid x.pg.dirty (t:Int) x.holds 0 0) rfl rfl 85 _ K1.out lA rfl (by simp [Value.oneCell']) ?_)
    go_meet
    case rel=>exact ⟨W0,rfl,HB.out⟩
  case rest=>
    clear s HB K1 x1 f0 I f3 f4 L f6 f7 K f9 ae;obtain ⟨Xx,rfl,hl⟩:=hcut;have s:=H_ hl;clear hl
    go_upto_region 2 with fail
    have n:=s.bk _ _ cO;have x0:=a_ n 0;have x3:=a_ n 3;simp only[zl] at x0 x3;clear n;rw [P.out.2.1] at x0;rw [P.out.2.2.2.1] at x3;have n:=s.bk _ _ jQ;obtain ⟨f0,I,f2,f3,f4,L,f6,f7,K⟩:=sE n;clear n
    go_cut [61] from 18 to 61 (fun s61 wx=>s61 = .bool false/\q_ wc wx)
    case first=>
      go_wp2;go_meet
      case rel=>exact ⟨by first | rfl | (simp;omega),aI _ _⟩
    case rest=>
      obtain ⟨rfl,r⟩:=hcut;have s:=H_ (s.step r);clear r x0 x3 f0 I f2 f3 f4 L f6 f7 K
      go_upto_region 4 with fail
      have n:=s.bk _ _ jQ;have f2:=a_ n 2;have f3:=a_ n 3;have f4:=a_ n 4;simp only[zl] at f2 f3 f4;clear n;obtain ⟨N,G⟩:=s.box1 #[.string ⟨#[]⟩,I_ 0,I_ 0] #[.string x.pg.data,I_ x.pg.valid,I_ x.pg.dirty] 83;have HB:=H_ G;have K1:=H_ N;clear G N
      go_cut [6] from 62 to 63 (fun s6 wx=>∃Xp,s6 = P_ Xp/\LN w [(X,oK v),(Xx,.cells (pC (j:Int) (p:Int) x.pg.data x.pg.valid x.pg.dirty (t:Int) x.holds 0 0) 85 (0,0)),(Xp,.cells #[.string x.pg.data,I_ x.pg.valid,I_ x.pg.dirty] 83 (0,0))] [v] wx)
      case first=>
        go_wp2_with (refine cV rfl 83 (.tmp 6) (.tmp 63) rfl rfl (wc) #[.string x.pg.data,I_ x.pg.valid,I_ x.pg.dirty] rfl rfl 83 _ K1 dB rfl (eX) ?_)
        go_meet
        case rel=>exact ⟨wc,rfl,HB.out⟩
      case rest=>
        clear s HB K1 f2 f3 f4;obtain ⟨Xp,rfl,hl⟩:=hcut;have s:=H_ hl;clear hl
        go_upto_region 5 with fail
        have n:=s.bk _ _ jQ;have L:=a_ n 5;have f7:=a_ n 7;have K:=a_ n 8;simp only[zl] at L f7 K;clear n;have n:=s.bk _ _ jB;obtain ⟨p0,Q,O⟩:=cL n;clear n;have b2:=fun w'=>nB x.pg.data x.pg.valid x.pg.dirty w' HU.ok.pg;have bw:bits .and .i64 0 x.pg.valid=0:=by obtain q | q | q | q:=nL HU.ok.pg.v <;> rw [q] <;> decide
        have bx:bits .andNot .i64 0 x.pg.valid=0:=by obtain q | q | q | q:=nL HU.ok.pg.v <;> rw [q] <;> decide
        go_cut [102] from 64 to 102 (fun s102 wx=>s102 = .bool false/\q_ wc wx)
        case first=>
          have lX:=p_ (s.bk _ _ jQ);have lP:=p_ (s.bk _ _ jB)
          go_wp2_with (go_at_call 123;refine CM (b2 _) ?_;rintro en w3 ⟨rfl,r⟩;replace L:=(c_ (r.block _ lX)).trans L;replace f7:=(c_ (r.block _ lX)).trans f7;replace K:=(c_ (r.block _ lX)).trans K;replace p0:=(c_ (r.block _ lP)).trans p0;replace Q:=(c_ (r.block _ lP)).trans Q;replace O:=(c_ (r.block _ lP)).trans O)
          go_meet
          case rel=>exact ⟨rfl,r⟩
        case rest=>
          obtain ⟨rfl,r⟩:=hcut;have s:=H_ (s.step r);clear r L f7 K p0 Q O b2 bw bx
          go_upto_region 7 with fail
          have hc:=show x_ _ _ v.a v.b v.c v.d v.e v.f v.g v.C from s.ck _ cO;rw [P.out.1] at hc;have n:=s.bk _ _ cO;have x0:=xV n;clear n;have n:=s.bk _ _ jQ;have f0:=xV n;clear n;rw [P.out.2.1] at x0;have af:=hc.files;rw [P.out.2.1] at af;obtain ⟨bf,ci,F,KB,kc,rfl,ae,N,k2,k3,k4,H⟩:=FlA.cells af HU.fl;have z0:=H 0 _ rfl;have z1:=H 1 _ rfl;have z2:=H 2 _ rfl;have z3:=H 3 _ rfl;have z4:=H 4 _ rfl;have z5:=H 5 _ rfl;have z6:=H 6 _ rfl;have z7:=H 7 _ rfl;have z8:=H 8 _ rfl;have z9:=H 9 _ rfl;have a6:=H 10 _ rfl;have a7:=H 11 _ rfl;have a8:=H 12 _ rfl;have a9:=H 13 _ rfl;have aa:=H 14 _ rfl;rw [Nat.add_zero] at z0;have b4:=fun w' (r:q_ wc w')=>iX kc N k2 k3 (k4.step r);have ac:=H_ (And.intro k2 (fun w' (r:q_ wc w')=>b4 w' r));obtain ⟨W9,ad⟩:=aZ wc;rw [<-ad] at ac;have B:=H_ (show q_ W9 wc by rw [ad];exact aI _ _);clear hc af H N k2 k3 k4 b4 ad;obtain ⟨N,G⟩:=s.box1 #[I_ 0,I_ 0,I_ 0,S_ none 0 0,I_ 0,I_ 0,I_ 0,I_ 0,I_ 0,I_ 0,I_ 0,I_ 0,I_ 0,I_ 0,I_ 0] #[I_ y.dev,I_ y.slot,I_ (F:Int),S_ KB (f_ F y.c).kids.length kc,I_ (f_ F y.c).val,I_ (f_ F y.c).marks,I_ y.size,I_ y.blocks,I_ y.ecnt,I_ y.eerr,I_ y.sseq,I_ y.ssize,I_ y.sblocks,I_ y.which,I_ y.seq] 64;have HB:=H_ (And.intro G (j_ (b_ (aI (wc) wc) (.cells #[I_ 0,I_ 0,I_ 0,S_ none 0 0,I_ 0,I_ 0,I_ 0,I_ 0,I_ 0,I_ 0,I_ 0,I_ 0,I_ 0,I_ 0,I_ 0] 64)) (aQ _) #[I_ y.dev,I_ y.slot,I_ (F:Int),S_ KB (f_ F y.c).kids.length kc,I_ (f_ F y.c).val,I_ (f_ F y.c).marks,I_ y.size,I_ y.blocks,I_ y.ecnt,I_ y.eerr,I_ y.sseq,I_ y.ssize,I_ y.sblocks,I_ y.which,I_ y.seq]))
          have K1:=H_ N;clear G N
          go_cut [7] from 103 to 108 (fun s7 wx=>∃Xf,s7 = P_ Xf/\LN w [(X,oK v),(Xx,.cells (pC (j:Int) (p:Int) x.pg.data x.pg.valid x.pg.dirty (t:Int) x.holds 0 0) 85 (0,0)),(Xp,.cells #[.string x.pg.data,I_ x.pg.valid,I_ x.pg.dirty] 83 (0,0)),(Xf,.cells #[I_ y.dev,I_ y.slot,I_ (F:Int),S_ KB (f_ F y.c).kids.length kc,I_ (f_ F y.c).val,I_ (f_ F y.c).marks,I_ y.size,I_ y.blocks,I_ y.ecnt,I_ y.eerr,I_ y.sseq,I_ y.ssize,I_ y.sblocks,I_ y.which,I_ y.seq] 64 (0,0))] [v] wx/\q_ wc wx)
          case first=>
            go_wp2_with (refine cV rfl 64 (.tmp 7) (.tmp 108) rfl rfl (wc) #[I_ y.dev,I_ y.slot,I_ (F:Int),S_ KB (f_ F y.c).kids.length kc,I_ (f_ F y.c).val,I_ (f_ F y.c).marks,I_ y.size,I_ y.blocks,I_ y.ecnt,I_ y.eerr,I_ y.sseq,I_ y.ssize,I_ y.sblocks,I_ y.which,I_ y.seq] rfl rfl 64 _ K1.out ep_ rfl (by simp [Value.oneCell']) ?_)
            go_meet
            case rel=>exact ⟨wc,rfl,HB.out⟩
          case rest=>
            clear s HB K1 x0 f0 ae z0 z1 z2 z3 z4 z5 z6 z7 z8 z9 a6 a7 a8 a9 aa;obtain ⟨Xf,rfl,hl,an⟩:=hcut;replace B:=lU B an;clear an;have s:=H_ hl;clear hl
            go_upto_region 8 with fail
            have n:=s.bk _ _ tI;have z0:=a_ n 0;have z1:=a_ n 1;have z2:=a_ n 2;have z3:=a_ n 3;have z4:=a_ n 4;have z5:=a_ n 5;have z6:=a_ n 6;have z7:=a_ n 7;have z8:=a_ n 8;have z9:=a_ n 9;have a6:=a_ n 10;have a7:=a_ n 11;have a8:=a_ n 12;have a9:=a_ n 13;have aa:=a_ n 14;simp only[zl] at z0 z1 z2 z3 z4 z5 z6 z7 z8 z9 a6 a7 a8 a9 aa;clear n;have n:=s.bk _ _ jQ;have I:=a_ n 1;simp only[zl] at I;clear n;have n:=s.bk _ _ jB;have Q:=a_ n 1;have O:=a_ n 2;simp only[zl] at Q O;clear n;have Y:=fun w'=>sQ y F KB kc p E.out.2.2.2.1 w';simp only[Fl.v,Fl.rowT,List.toArray] at Y;have M:=D.hole;rw [E.out.2.1] at M;have Z:=D.lo;rw [E.out.1] at Z;have hm:i64.wrap ((p:Int)*16)=(p:Int)*16:=fA O_
            go_cut [130] from 109 to 130 (fun s130 wx=>s130 = .bool false/\q_ wc wx)
            case first=>
              have lX:=p_ (s.bk _ _ jQ);have lP:=p_ (s.bk _ _ jB);have lF:=p_ (s.bk _ _ tI);have hd:(x.pg.dirty != 0)=false\/((x.pg.dirty != 0)=true/\¬(y.size<=(p:Int)*16)):=by
                by_cases q:x.pg.dirty=0
                · exact .inl (by simp [q])
                · exact .inr ⟨by simp [q],by have:=Z q;omega⟩
              clear Z
              cases hb9:aC y p
              all_goals
                rw [hb9] at Y M
                rcases hd with hd | ⟨hd,hsz⟩
                all_goals
                  by_cases ah:y.size<=(p:Int)*16
                  all_goals
                    first
                    | exact absurd ah hsz
                    | (first | (have bs:=M rfl;rw [bs] at Q) | skip
                       clear M hb9
                       go_wp2_with (go_at_call 137;refine CM (Y _) ?_;rintro en w3 ⟨rfl,r⟩;replace I:=(c_ (r.block _ lX)).trans I;replace Q:=(c_ (r.block _ lP)).trans Q;replace O:=(c_ (r.block _ lP)).trans O;replace z6:=(c_ (r.block _ lF)).trans z6)
                       go_meet
                       case rel=>exact ⟨rfl,r⟩)
            case rest=>
              obtain ⟨rfl,r⟩:=hcut;replace s:=H_ (s.step r);replace B:=lU B r;clear r I Q O Y M Z z0 z1 z2 z3 z4 z5 z6 z7 z8 z9 a6 a7 a8 a9 aa
              go_upto_region 11 with fail
              go_loopw [8] (fun s8 wx=>∃k:Nat,s8 = I_ (k:Int)/\k<=16/\q_ wc wx) (fun s8 _=>16 - (intOf s8).toNat)
              case atStart=>exact ⟨0,rfl,O_,aI _ _⟩
              case round=>
                obtain ⟨k,rfl,hk,r⟩:=hrel;have HQ:=H_ r;have A:=s.step r;clear r
                by_cases a0:k<16
                · have kl:(k:Int)<16:=O_
                  have n:=A.bk _ _ jQ;have I:=a_ n 1;simp only[zl] at I;clear n;have n:=A.bk _ _ jB;obtain ⟨p0,Q⟩:=cs2 n;clear n;have n:=A.bk _ _ tI;have z6:=a_ n 6;simp only[zl] at z6;clear n;clear A;have cd:i64.wrap ((p:Int)*16+(k:Int))=(p:Int)*16+(k:Int):=fA O_;have ay:x.pg.data.size=16:=HU.ok.pg.len;have hkd:k<x.pg.data.size:=O_
                  have a5:=D.zero k a0;rw [E.out.1] at a5;obtain ⟨bv,R⟩:=aZ (bt x.pg.valid (k / 8));rw [<-R] at a5;have bo:((k:Int).tdiv 8=0/\(k:Int) / 8=0/\(bits .and .i64 x.pg.valid 1 != 0)=bv)\/((k:Int).tdiv 8=1/\(k:Int) / 8=1/\(bits .and .i64 x.pg.valid 2 != 0)=bv):=by
                    by_cases q:k<8
                    · exact .inl ⟨by rw [tv_ O_];omega,O_,by rw [R,show k / 8=0 by omega];rfl⟩
                    · exact .inr ⟨by rw [tv_ O_];omega,O_,by rw [R,show k / 8=1 by omega];rfl⟩
                  have bd:y.size<=(p:Int)*16+(k:Int)->bv=true->(((x.pg.data[k]'hkd).toNat:Int) != 0)=false:=fun q1 q2=>by
                    have h1:=a5 q1 q2;have h2:x.pg.data[k]'hkd=0:=aP ((Array.getElem?_eq_getElem (xs:=x.pg.data.data) (i:=k) hkd).symm.trans h1);rw [h2]
                    rfl
                  clear a5 R ay
                  rcases bo with ⟨d1,d2,d3⟩ | ⟨d1,d2,d3⟩
                  all_goals
                    by_cases ah:y.size<=(p:Int)*16+(k:Int)
                    all_goals
                      cases bv
                      all_goals
                        first | (have ch:=bd ah rfl) | skip
                        clear bd
                        go_upto_region 13 with fail
                        go_quiet (fail);go_wp2;go_roundw
                        case rel=>exact ⟨k+1,by go_num,O_,below_drewN HQ.out nq⟩
                        case measure=>exact bH
                · obtain rfl:k=16:=O_
                  have s:=H_ A;replace B:=H_ (d_ B HQ);clear HQ A a0
                  rename World=>V
                  obtain ⟨db,U⟩:=aZ ((x.pg.dirty != 0));obtain ⟨mv,a3⟩:=aZ (if x.pg.dirty=0 then (0:Int) else 1);have aq:db=false/\mv=0\/db=true/\mv=1:=by
                    by_cases q:x.pg.dirty=0
                    · exact .inl ⟨by rw [U,q];rfl,by rw [a3,if_pos q]⟩
                    · exact .inr ⟨by rw [U];simp [q],by rw [a3,if_neg q]⟩
                  have bj:=H_ (D.mrk.trans a3.symm);clear a3
                  go_upto_region 16 with fail
                  have n:=s.bk _ _ jB;have O:=a_ n 2;simp only[zl] at O;clear n
                  go_cut [161] from 159 to 161 (fun s161 wx=>s161 = .bool db/\q_ V wx)
                  case first=>
                    go_wp2;go_meet
                    case rel=>exact ⟨by rw [U],aI _ _⟩
                  case rest=>
                    obtain ⟨rfl,r⟩:=hcut;replace s:=H_ (s.step r);replace B:=lU B r;clear r O U
                    go_upto_if 161 with fail
                    go_cut [9] (fun s9 wx=>s9 = I_ mv/\q_ wc wx)
                    case first=>
                      rcases aq with ⟨rfl,rfl⟩ | ⟨rfl,rfl⟩
                      all_goals
                        go_wp2;go_meet
                        case rel=>exact ⟨rfl,aI _ _⟩
                    case rest=>
                      obtain ⟨rfl,r⟩:=hcut;replace s:=H_ (s.step r);replace B:=lU B r;clear r aq;have n:=s.bk _ _ jQ;have K:=a_ n 8;simp only[zl] at K;clear n
                      go_upto_region 20 with fail
                      have n:=s.bk _ _ tI;have z2:=a_ n 2;have z3:=a_ n 3;have z4:=a_ n 4;have z5:=a_ n 5;simp only[zl] at z2 z3 z4 z5;clear n;have au:=ac.out.2 _ B
                      go_cut [10] from 169 to 171 (fun s10 wx=>EA wx gL s10 (aH 0 (4 ^ F) y.c)/\q_ wc wx)
                      case first=>
                        go_wp2_with (go_at_call 102;refine CM au ?_;rintro en w3 ⟨ve,rfl,ab,r⟩;have HE:=H_ (EA.of_own (S:=gL) ab (fun _ _=>trivial));have be:=H_ r;obtain ⟨A9,am,rfl,_,_,_⟩:=HE.out;clear ab r)
                        go_meet
                        case rel=>exact ⟨HE,be.out⟩
                      case rest=>
                        obtain ⟨ar,r⟩:=hcut;replace s:=H_ (s.step r);clear r K z2 z3 z4 z5 au;have ap:y.c p≠(0,0):=fun q=>by
                          have h1:=D.gt;rw [E.out.2.1,q] at h1;have h1:(0:Int)=(i:Int)+1:=h1;omega
                        have ak:=H_ (gi_ ac.out.1 ap);have bg:=H_ ar;obtain ⟨A9,am,rfl,_,bp,_⟩:=ar;unfold maxLen at bp;generalize hlst:aH 0 (4 ^ F) y.c=lst at *;clear ap hlst
                        go_upto_region 22 with fail
                        go_loopw [11] (fun s11 wx=>∃k:Nat,s11 = I_ (k:Int)/\k<=lst.length/\(∀(m:Nat) (q:En),m<k->lst[m]?=some q->q.1≠(p:Int))/\q_ wc wx) (fun s11 _=>lst.length - (intOf s11).toNat)
                        case atStart=>exact ⟨0,rfl,O_,fun m q hm=>by omega,aI _ _⟩
                        case round=>
                          obtain ⟨k,rfl,hk,b0,r⟩:=hrel;have al:=H_ b0;have HQ:=H_ r;have A:=s.step r;clear r b0
                          by_cases a0:k<lst.length
                          · obtain ⟨eb,eo,bz,ed,es,em,bn,_,_,c0,W,e0,e1,e2⟩:=(bg.step HQ.out).at_ a0
                            injection bn with ev1 _ ev3
                            subst ev1 ev3;have kl:(k:Int)<(lst.length:Int):=O_
                            have n:=A.bk _ _ jQ;have I:=a_ n 1;have L:=a_ n 5;simp only[zl] at I L;clear n;have n:=A.bk _ _ cO;have x4:=a_ n 4;simp only[zl] at x4;clear n;have bu:=I
                            by_cases a4:ed=(p:Int)
                            · have h1:=ak.out
                              obtain ⟨_,_,_,h1⟩:=h1;have h2:=h1 k _ W a4;injection h2 with h3 h4
                              injection h4 with h4 h5
                              have yX:=D.gt;rw [E.out.2.1] at yX;have aj:=bj.out;rw [E.out.2.1] at aj;have bm:es=(i:Int)+1:=h4.trans yX;have c8:bits .andNot .i64 em 4=mv:=by rw [h5];exact aj
                              subst a4 bm;have hc:=show x_ _ _ v.a v.b v.c v.d v.e v.f v.g v.C from A.ck _ cO;rw [P.out.1] at hc;have ai:=hc.lists;rw [P.out.2.2.2.2] at ai x4;have J:=D.lst;rw [E.out.2.2.1,Int.toNat_natCast] at J;obtain ⟨lb,lo,L1,n1,d1,L2,n2,d2,L3,n3,d3,rfl,_,cc,az,l0,l1,l2⟩:=LlA.cells ai J;have br:=bK J;have t2:(t:Int)<(C.lists.length:Int):=O_
                              have cb:C.lists.length<=100:=bi.lists.2;have aw:=fun w' (r:q_ wr w')=>kz_ ((i:Int)+1) (az.step r) D.mem;clear h1 h3 h4 h5 yX aj hc ai J br az W A
                              go_upto_region 24 with fail
                              go_quiet (fail)
                              go_wp2_with (go_at_call 162;refine CM (aw _ (below_drewN B_ _)) ?_;rintro en w3 ⟨rfl,r⟩)
                              go_ret;exact ⟨rfl,d_ (d_ s.iv (below_drewN HQ nq)) r⟩
                            · have bh:=H_ W
                              have d0:(ed == (p:Int))=false:=by simpa using a4
                              clear W A bu L x4
                              go_upto_region 24 with fail
                              go_quiet (fail);go_wp2;go_roundw
                              case rel=>
                                refine ⟨k+1,by go_num,O_,fun m q hm hq=>?_,below_drewN HQ.out nq⟩
                                by_cases a:m=k
                                · subst a
                                  obtain rfl:=aP (hq.symm.trans bh.out);exact a4
                                · exact al.out m q O_ hq
                              case measure=>exact bH
                          · exfalso
                            obtain ⟨k0,a1,a2,_⟩:=ak.out;exact al.out k0 _ O_ a2 rfl
end
section
def jr_ (P:Ck->Prop) (S:Nat->Prop) (w:World) (en:Ending) (w':World):Prop:=∃C a b c d e f g,P C/\en = .returned (.tuple #[cI a b c d e f g,I_ 0])/\x_ w' S a b c d e f g C/\q_ w w'
def SP.box (N:Nat) (o:Obj):SP:=⟨fun v w=>∃g,v = P_ g/\N<=g/\w.heap[g]?=some o,fun v w w' hb ⟨g,h1,h2,h3⟩=>⟨g,h1,h2,i_ h3 hb⟩⟩
def NwR (N n:Nat) (gs:List Gr) (v2 v5 v8:Value) (w:World):Prop:=LO qN 72 w N (fun _=>False) v2 gs/\LO sJ 119 w N (fun _=>False) v5 (List.replicate n vQ)/\LO M_ 3 w N (fun _=>False) v8 (List.replicate n 0)
def SP.nw (N n:Nat) (gs:List Gr) (vz:Value):SP:=⟨fun v w=>∃v2 v5 v8,v = .agg #[S_ none 0 0,S_ none 0 0,vz,v2,v5,v8,S_ none 0 0]/\NwR N n gs v2 v5 v8 w,fun v w w' hb ⟨v2,v5,v8,h1,h2,h3,h4⟩=>⟨v2,v5,v8,h1,h2.step hb,h3.step hb,h4.step hb⟩⟩
theorem iA_ {g:Nat} (h:w.ownsRow base 119 3 (S_ (some ⟨g,0,none⟩) n n) n (madeCells (Value.agg #[S_ none 0 0,S_ none 0 0,S_ none 0 0]).cells (n*3)).toList):LO sJ 119 w base (fun _=>False) (S_ (some ⟨g,0,none⟩) n n) (List.replicate n vQ):=by
 refine ⟨List.replicate n [S_ none 0 0,S_ none 0 0,S_ none 0 0],?_,?_⟩
 ·rw [rL_];have:=wL (S_ none 0 0) 3 n O_;rw [show (Value.agg #[S_ none 0 0,S_ none 0 0,S_ none 0 0]).cells=Array.replicate 3 (Value.slice none 0 0) from rfl,this] at h;exact h
 ·clear h
  induction n with
  | zero=>exact trivial
  | succ n ih=>exact ⟨⟨_,_,_,rfl,LA.nil _ _ _,LA.nil _ _ _,LA.nil _ _ _⟩,ih⟩
theorem ch_ {g:Nat} (h:w.ownsRow base 3 1 (S_ (some ⟨g,0,none⟩) n n) n (madeCells (Value.int i64 0).cells (n*1)).toList):LO M_ 3 w base (fun _=>False) (S_ (some ⟨g,0,none⟩) n n) (List.replicate n 0):=by
 refine ⟨List.replicate n [I_ 0],?_,?_⟩
 ·rw [rL_];have:=wL (I_ 0) 1 n O_;rw [show (Value.int i64 0).cells=Array.replicate 1 (Value.int i64 0) from rfl,this] at h;exact h
 ·clear h
  induction n with
  | zero=>exact trivial
  | succ n ih=>exact ⟨rfl,ih⟩
theorem LO.ne_box {R:RR α k} {t:TypeId} {L:List α} {cs:Array Value} {fr:Nat × Nat} (h:LO R e w base S v L) (hb:w.heap[Z]?=some (.cells cs t fr)) (hne:e≠t):v.ownBlock≠some Z:=by
 obtain ⟨rows,⟨_,h2⟩,_⟩:=h
 rcases h2 with ⟨rfl,_⟩ | ⟨g,cap,cur,rfl,_,hg,_⟩
 ·simp [Value.ownBlock]
 ·intro a;simp only[Value.ownBlock,Option.some.injEq] at a;subst a;rw [hg] at hb;injection hb with hb
  injection hb with _ hb _
  exact hne hb
theorem LO.laV {R:RR α k} {S':Nat->Prop} {L:List α} (h:LO R e w base S v L) (hS:∀b,b<w.heap.size->S b->S' b) (hb:∀b,v.ownBlock=some b->S' b):LA R w S' v L:=by
 obtain ⟨rows,w1,w2⟩:=h;rw [<-w2.len] at w1;exact ⟨rows,RW.of_own w1 w2.shp hb,w2.imp fun a r h=>R.wk _ _ _ _ _ (fun b hb h=>hS b hb h.1) h⟩
def NB (Z:Nat) (vf vr vz vg vl vc:Value) (wx:World):Prop:=wx.heap[Z]?=some (.cells #[vf,vr,vz,vg,vl,vc,S_ none 0 0] 30 (0,0))
structure NS (w:World) (S:Nat->Prop) (B Z:Nat) (zs:List Zn) (gs:List Gr) (n:Nat) (vz vg vl vc:Value) (vf vr:Value) (fs:List Fl) (nr:Nat) (wx:World):Prop where
 res:wx.heap[w.heap.size]?=some (cG)
 f:LO jG 64 wx B (fun _=>False) vf fs
 r:LO rM 85 wx B (fun _=>False) vr (List.replicate nr eI)
 fr:∀b,vf.ownBlock=some b->vr.ownBlock≠some b
 z:LA pE wx (fun z=>S z/\z<B/\z≠w.heap.size/\z≠Z) vz zs
 g:LA qN wx (fun z=>S z/\z<B/\z≠w.heap.size/\z≠Z) vg gs
 l:LA sJ wx (fun z=>S z/\z<B/\z≠w.heap.size/\z≠Z) vl (List.replicate n vQ)
 c:LA M_ wx (fun z=>S z/\z<B/\z≠w.heap.size/\z≠Z) vc (List.replicate n 0)
 bl:q_ w wx
 bb:w.heap.size<B/\Z<B/\B<=wx.heap.size
 zw:w.heap.size<Z
theorem eT_ {V x:World} {zs:List Zn} {vz vg vl vc:Value} (hS:∀z,w.heap.size<=z->S z) (hR:V.heap[w.heap.size]?=some (cG)) (hW:q_ w V) (hz:LA pE V (fun z=>S z/\z≠w.heap.size) vz zs) (hC:q_ V x) (hZ1:V.heap.size<=Z) (hZ:x.heap[Z]?=some (cG))
  (hg:LO qN 72 x (V) (fun _=>False) vg gs) (hl:LO sJ 119 x (V) (fun _=>False) vl (List.replicate n vQ)) (hc:LO M_ 3 x (V) (fun _=>False) vc (List.replicate n 0)) :
  NS w S (x) Z zs gs n vz vg vl vc (S_ none 0 0) (S_ none 0 0) [] 0 (x.setRow Z #[S_ none 0 0,S_ none 0 0,vz,vg,vl,vc,S_ none 0 0])/\NB Z (S_ none 0 0) (S_ none 0 0) vz vg vl vc (x.setRow Z #[S_ none 0 0,S_ none 0 0,vz,vg,vl,vc,S_ none 0 0]):=by
 have g:w.heap.size<V.heap.size:=p_ hR;have d:=p_ hZ;have c:q_ w x:=d_ hW hC;have up:∀{α:Type} {k:Nat} {R:RR α k} {e:TypeId} {v:Value} {L:List α},e≠30->LO R e x (V) (fun _=>False) v L->LA R (x.setRow Z #[S_ none 0 0,S_ none 0 0,vz,vg,vl,vc,S_ none 0 0]) (fun z=>S z/\z<x.heap.size/\z≠w.heap.size/\z≠Z) v L:=fun {α k R e v L} he h=>by
  have f:=h.ne_box hZ he;exact LA.kept (h.laV (fun _ _ h=>h.elim) (fun b a=>⟨hS b (by have:=(h.own a).1;omega),(h.own a).2,by have:=(h.own a).1;omega,fun e=>f (by rw [a,e])⟩)) (r_.of_setRow x Z _ (fun h=>h.2.2.2 rfl))
 refine ⟨⟨?_,LO.nil _ _ _ _ _,LO.nil _ _ _ _ _,fun b a=>(by cases a),?_,up bX hg,up bX hl,up bX hc,j_ c O_ _,⟨O_,d,by simp [World.setRow]⟩,O_⟩,setRow_heap _ _ _ _ _ _ hZ⟩
 ·exact (setRow_other _ _ _ _ O_).trans (i_ hR hC)
 ·exact LA.kept ((hz.weak (S':=fun z=>S z/\z<x.heap.size/\z≠w.heap.size/\z≠Z) (fun z i h=>⟨h.1,by have:=hC.size;omega,h.2,O_⟩)).step hC) (r_.of_setRow x Z _ (fun h=>h.2.2.2 rfl))
section
variable {w wx wy:World} {S:Nat->Prop} {B Z n:Nat} {zs:List Zn} {gs:List Gr} {vz vg vl vc vf vr:Value} {fs:List Fl} {nr:Nat}
theorem NS.step (h:NS w S B Z zs gs n vz vg vl vc vf vr fs nr wx) (hb:q_ wx wy):NS w S B Z zs gs n vz vg vl vc vf vr fs nr wy:=
 ⟨i_ h.res hb,h.f.step hb,h.r.step hb,h.fr,h.z.step hb,h.g.step hb,h.l.step hb,h.c.step hb,d_ h.bl hb,⟨h.bb.1,h.bb.2.1,dO h.bb.2.2 hb.size⟩,h.zw⟩
theorem NS.other (h:NS w S B Z zs gs n vz vg vl vc vf vr fs nr wx) {r:Option Nat} (hg:wx.grownBy wy r) (hr:∀b,r=some b->B<=b\/b=Z) {vf':Value} {fs':List Fl} {nr':Nat} (hf:LO jG 64 wy B (fun _=>False) vf' fs') (hr':LO rM 85 wy B (fun _=>False) vr' (List.replicate nr' eI)) (hfr:∀b,vf'.ownBlock=some b->vr'.ownBlock≠some b):NS w S B Z zs gs n vz vg vl vc vf' vr' fs' nr' wy:=by
 obtain ⟨i,j,k⟩:=h.bb;have d:=h.zw;have a:r_ (fun z=>S z/\z<B/\z≠w.heap.size/\z≠Z) wx wy:=⟨hg.size,fun z f hl=>hg.block z hl fun e=>by
  rcases hr z e.symm with h | h
  ·have:=f.2.1;omega
  ·exact f.2.2.2 h⟩
 refine ⟨(hg.block _ (p_ h.res) fun e=>?_).trans h.res,hf,hr',hfr,h.z.kept a,h.g.kept a,h.l.kept a,h.c.kept a,h.bl.grown hg h.bl.size (fun b m=>?_),⟨i,j,dO k hg.size⟩,d⟩
 ·rcases hr _ e.symm with h | h <;> omega
 ·rcases hr b m with h | h <;> omega
theorem NB.other (h:NB Z vf vr vz vg vl vc wx) {r:Option Nat} (hg:wx.grownBy wy r) (hr:r≠some Z):NB Z vf vr vz vg vl vc wy:=
 (hg.block _ (p_ h) (fun e=>hr e.symm)).trans h
theorem NS.push (h:NS w S B Z zs gs n vz vg vl vc vf vr fs nr wx) (hB:NB Z vf vr vz vg vl vc wx) (hg:wx.grownBy wy vr.ownBlock) (hown:LO rM 85 wy B (fun _=>False) vr' (List.replicate nr eI ++ [eI])) (hat:∀b,vr'.ownBlock=some b->vr.ownBlock=some b\/b=wx.heap.size) :
  NS w S B Z zs gs n vz vg vl vc vf vr' fs (nr+1) wy/\NB Z vf vr vz vg vl vc wy:=by
 have a:=h.bb;refine ⟨h.other hg (fun b a=> .inl (h.r.own a).1) (h.f.kept hg ?_) (by rw [List.replicate_succ'];exact hown) (fun b a e=>?_),hB.other hg (fun e=>by have:=(h.r.own e).1;omega)⟩
 ·cases hv:vr.ownBlock with
  | none=>exact .inl rfl
  | some b=>exact .inr ⟨b,rfl,fun h=>h,fun e=>h.fr b e hv⟩
 ·rcases hat b e with e | e
  ·exact h.fr b a e
  ·have:=(h.f.own a).2;omega
theorem NS.set1 (h:NS w S B Z zs gs n vz vg vl vc vf vr' fs nr wx) (hB:NB Z vf vr vz vg vl vc wx):NS w S B Z zs gs n vz vg vl vc vf vr' fs nr (wx.setCell ⟨Z,1,none⟩ vr')/\NB Z vf vr' vz vg vl vc (wx.setCell ⟨Z,1,none⟩ vr'):=by
 have a:=h.bb;have c:=v_ wx ⟨Z,1,none⟩ vr';exact ⟨h.other c (fun b a=> .inr (by injection a with a;exact a.symm)) (h.f.kept c (.inr ⟨Z,rfl,fun h=>h,fun e=>by have:=(h.f.own e).1;omega⟩)) (h.r.kept c (.inr ⟨Z,rfl,fun h=>h,fun e=>by have:=(h.r.own e).1;omega⟩)) h.fr,R_ hB vr'⟩
theorem NS.cache (h:NS w S B Z zs gs n vz vg vl vc vf vr fs nr wx) (hS:∀z,w.heap.size<=z->S z):x_ wx (fun z=>S z/\z≠w.heap.size) vf vr vz vg vl vc (S_ none 0 0) ⟨fs,List.replicate nr eI,zs,gs,List.replicate n vQ,List.replicate n 0,[]⟩:=by
 have d:=h.bb;have up:∀z,z<wx.heap.size->(S z/\z<B/\z≠w.heap.size/\z≠Z)->S z/\z≠w.heap.size:=fun z _ h=>⟨h.1,h.2.2.1⟩;exact ⟨h.f.laV (fun _ _ h=>h.elim) (fun b a=>⟨hS b (by have:=(h.f.own a).1;omega),by have:=(h.f.own a).1;omega⟩),h.r.laV (fun _ _ h=>h.elim) (fun b a=>⟨hS b (by have:=(h.r.own a).1;omega),by have:=(h.r.own a).1;omega⟩),h.z.weak up,h.g.weak up,h.l.weak up,h.c.weak up,LA.nil _ _ _⟩
end
theorem ec_ {Ls:List Pl} {sz:List Int} {v1 v2 v3:Value} (h1:LA PlR w S v1 Ls) (hP:tJ Ls) (h2:LA M_ w S v2 sz) (hz:tM sz) (h3:LA qN w S v3 gs) (hG:fY gs) (h0:∀g ∈ gs,g.charge=0) (hS:∀z,w.heap.size<=z->S z) :
  C_ 28 #[v1,v2,v3] w (jr_ (fun C=>C=uN Ls sz gs) S w):=by
 have an:=fun w' (n:q_ w w')=>aD_ (h1.step n) hP;have am:=fun w' (n:q_ w w')=>lC (h3.step n) hG;have ap:=fun w' (n:q_ w w') (a2:w.heap.size<w'.heap.size)=>iW_ (fun z=>S z/\z≠w.heap.size) ((h2.weak (fun z hz h=>⟨h,O_⟩)).step n) hz (fun z (hz':w'.heap.size<=z)=>⟨hS z O_,O_⟩);obtain ⟨A1,c1,rfl,q1,q2⟩:=h1.form;obtain ⟨A3,c3,rfl,q3,q4⟩:=h3.form;obtain ⟨H1,H3,H0⟩:=eT h1 h3 h0;have br:=hP.few;have bq:gs.length<=4:=hG.few;clear h1 h2 h3 h0;have HR:=H_ (g_ w (cG));have HW:=H_ (b_ (aI (w) w) (cG));go_enter func28,ntmps28
 go_upto_region 1 with fail
 generalize w.alloc (cG)=W1 at HR HW
 go_upto_region 3 with (first
  | (go_at_call 81;refine CM (an _ HW) ?_;rintro e w1 ⟨rfl,ag⟩;obtain ⟨ab,a4⟩:=gZ HR HW ag;clear ag)
  | (go_at_call 82;refine CM (am _ a4) ?_;rintro e w2 ⟨rfl,ah⟩;obtain ⟨ac,ae⟩:=gZ ab a4 ah;clear ah))
 clear HR HW ab a4 an am;go_wp2
 go_loopw [8] (fun i wx=>∃k:Nat,i = I_ k/\k<=gs.length/\q_ w wx/\wx.heap[w.heap.size]?=some (cG)) (fun i _=>gs.length - (intOf i).toNat)
 case atStart=>exact ⟨0,rfl,O_,ae.out,ac.out⟩
 case round=>
  clear ac ae;obtain ⟨k,rfl,hk,n,hr⟩:=hrel;have L:=H_ n;have HR:=H_ hr;clear n hr
  by_cases a2:k<gs.length
  ·obtain ⟨g,U⟩:∃g,gs[k]?=some g:=⟨_,cU a2⟩;obtain ⟨b,o,rfl,a9,y0,y1,y2⟩:=GrA.cells (H3.step L.out) U;have ak:=H0 g (fF U);rw [ak] at y2;have k1:(k:Int)<(gs.length:Int):=O_
   clear U ak y0 y1;go_wp2;go_roundw
   case rel=>exact ⟨k+1,by go_num,O_,L.out,HR.out⟩
   case measure=>exact bH
  ·obtain rfl:k=gs.length:=O_
   go_upto_region 11 with (first
    | (go_at_call 83;refine CM (ap _ L.out (p_ HR)) ?_;rintro e w3 ⟨vz,rfl,ao,ai⟩;obtain ⟨ad,a5⟩:=gZ HR L ai;have a6:=H_ ao;clear ai ao))
   clear L HR ap;obtain ⟨bm,bd,b9,ba,bc⟩:=info_parts cf_;obtain ⟨be,b8,b5,b6,b7⟩:=info_parts uI;obtain ⟨E,J,G,rfl⟩:=a6.cap
   go_cut [11] (fun s11 wx=>∃(B Z:Nat) (Q R P:Value),s11 = P_ Z/\NS w S B Z (bC 1 sz) gs gs.length (S_ E J G) Q R P (S_ none 0 0) (S_ none 0 0) [] 0 wx/\NB Z (S_ none 0 0) (S_ none 0 0) (S_ E J G) Q R P wx)
   case first=>
    obtain ⟨V,hV⟩:=aZ w3;subst hV;refine T_ 11 84 [SP.eq (S_ E J G),SP.eq (S_ A3 gs.length c3),SP.lo qN 72 (V) (fun _=>False) gs,SP.eq (S_ A3 gs.length c3),SP.eq (I_ (gs.length:Int)),SP.lo sJ 119 (V) (fun _=>False) (List.replicate gs.length vQ),SP.eq (S_ A3 gs.length c3),SP.eq (I_ (gs.length:Int)),SP.lo M_ 3 (V) (fun _=>False) (List.replicate gs.length 0),SP.nw (V) gs.length gs (S_ E J G),SP.box (V) (cG)] s_ s_ rfl ?_;simp only[vK];refine qC fun v0=>qC fun v1=>?_;simp only[ly];refine e_ (fun x a s K t=>?_) (fun v2=>?_)
    ·obtain rfl:v1=_:=s 1 s_;have m:q_ V x:=a;refine aO (ops:=#[]) rfl (cN qN b5_ rfl _ _ rfl rfl _ S gs rfl ((H3.step a5.out).step m) O_ fun v' w' A U=>?_);have n:=(aI (x) x).grown U (aQ _) (fun b n=>by cases n);exact t _ _ (d_ m n) n ⟨(A.weak (fun _ _ h=>h)).base_le m.size,by have:=n.size;have:=m.size;omega⟩
    simp only[ly];refine qC fun v3=>qC fun v4=>?_;simp only[ly];refine e_ (fun x a s K t=>?_) (fun v5=>?_)
    ·obtain rfl:v4=_:=s 4 s_;have m:q_ V x:=a;refine aO (ops:=#[]) rfl (wpList_make_full x rfl (.tmp 49) (.tmp 49) 27 rfl (x) 119 bm (Value.agg #[S_ none 0 0,S_ none 0 0,S_ none 0 0]) 3 underlying27 bd b9 ba .i64 .i64 gs.length gs.length gs.length rfl rfl rfl rfl (by rw [bc];omega) (by unfold maxLen;omega) (aQ _) fun w' A U=>?_);have n:=(aI (x) x).grown U (aQ _) (fun b n=>by cases n);exact t _ _ (d_ m n) n ⟨(iA_ A).base_le m.size,by have:=n.size;have:=m.size;omega⟩
    simp only[ly];refine qC fun v6=>qC fun v7=>?_;simp only[ly];refine e_ (fun x a s K t=>?_) (fun v8=>?_)
    ·obtain rfl:v7=_:=s 7 s_;have m:q_ V x:=a;refine aO (ops:=#[]) rfl (wpList_make_full x rfl (.tmp 52) (.tmp 52) 22 rfl (x) 3 be (Value.int i64 0) 1 underlying22 b8 b5 b6 .i64 .i64 gs.length gs.length gs.length rfl rfl rfl rfl (by rw [b7];omega) (by unfold maxLen;omega) (aQ _) fun w' A U=>?_);have n:=(aI (x) x).grown U (aQ _) (fun b n=>by cases n);exact t _ _ (d_ m n) n ⟨(ch_ A).base_le m.size,by have:=n.size;have:=m.size;omega⟩
    simp only[ly];refine e_ (fun x a s K t=>?_) (fun v9=>?_)
    ·obtain rfl:v0=_:=s 0 s_;obtain ⟨g2,_⟩:=s 2 s_;obtain ⟨g5,_⟩:=s 5 s_;obtain ⟨g8,_⟩:=s 8 s_;obtain ⟨B2,n2,k2,e2⟩:=g2.cap;obtain ⟨B5,n5,k5,e5⟩:=g5.cap;obtain ⟨B8,n8,k8,e8⟩:=g8.cap;subst e2 e5 e8;go_simp;exact t _ _ a B_ ⟨_,_,_,rfl,g2,g5,g8⟩
    simp only[ly];refine e_ (fun x a s K t=>?_) (fun v10=>?_)
    ·have m:q_ V x:=a;go_simp;exact t _ _ (b_ m _) (b_ B_ _) ⟨_,rfl,m.size,heap_alloc_new _ _⟩
    simp only[ly];refine aA ?_;intro x a hG;obtain ⟨bv,bw,bx,e9,g2,g5,g8⟩:=hG 9 O_;obtain rfl:v9=_:=e9;obtain ⟨Z,ay,b2,hZ⟩:=hG 10 O_;obtain rfl:v10=_:=ay;have m:q_ V x:=a;obtain ⟨HC,HZ,ar,au,av⟩:=h5_ m hZ g2 g5 g8;obtain ⟨B2,n2,k2,e2⟩:=g2.cap;obtain ⟨B5,n5,k5,e5⟩:=g5.cap;obtain ⟨B8,n8,k8,e8⟩:=g8.cap;subst e2 e5 e8;clear hG a m hZ g2 g5 g8
    go_wp2_with (refine aJ rfl (.tmp 11) (.tmp 54) rfl rfl rfl rfl HZ rfl ?_)
    go_meet
    case rel=>exact ⟨x,Z,_,_,_,rfl,eT_ hS ad a5 a6 HC b2 HZ ar au av⟩
   case rest=>
    clear ad a5 a6;obtain ⟨B,Z,Q,R,P,rfl,y,D⟩:=hcut;have O:=H_ y;have L:=H_ D;clear y D
    go_upto_region 12 with fail
    go_wp2
    go_loopw [12] (fun s12 wx=>∃(k:Nat) (vf:Value),s12 = I_ k/\k<=Ls.length/\NS w S B Z (bC 1 sz) gs gs.length (S_ E J G) Q R P vf (S_ none 0 0) ((Ls.take k).map gT) 0 wx/\NB Z vf (S_ none 0 0) (S_ E J G) Q R P wx) (fun s12 _=>Ls.length - (intOf s12).toNat)
    case atStart=>exact ⟨0,_,rfl,O_,O.out,L.out⟩
    case round=>
     clear O L;obtain ⟨k,vf,rfl,hk,y,D⟩:=hrel;obtain ⟨F1,f2,f3,rfl⟩:=y.f.cap;have O:=H_ y;have L:=H_ D;clear y D
     by_cases a2:k<Ls.length
     ·obtain ⟨p,I⟩:∃p,Ls[k]?=some p:=⟨_,cU a2⟩;obtain ⟨b,o,rfl,b3,p0,p1⟩:=PlA.cells H1.out I;have ax:=H_ I;have k1:(k:Int)<(Ls.length:Int):=O_
      clear I
      go_upto_region 15 with fail
      refine yT 84 8 10 (fun i=>decide (i<=7)) (fun x=>NS w S B Z (bC 1 sz) gs gs.length (S_ E J G) Q R P (S_ F1 f2 f3) (S_ none 0 0) ((Ls.take k).map gT) 0 x/\NB Z (S_ F1 f2 f3) (S_ none 0 0) (S_ E J G) Q R P x) (fun v x=>NS w S B Z (bC 1 sz) gs gs.length (S_ E J G) Q R P v (S_ none 0 0) ((Ls.take (k+1)).map gT) 0 x/\NB Z (S_ F1 f2 f3) (S_ none 0 0) (S_ E J G) Q R P x) (fun v x=>NS w S B Z (bC 1 sz) gs gs.length (S_ E J G) Q R P v (S_ none 0 0) ((Ls.take (k+1)).map gT) 0 x/\NB Z v (S_ none 0 0) (S_ E J G) Q R P x)
       [PF.eq (P_ Z),PF.eq (S_ F1 f2 f3),PF.eq (S_ (some ⟨b,o,none⟩) Ls.length c1),PF.eq (I_ (k:Int)),PF.eq (.pointer (some ⟨b,o+k*2,none⟩)),PF.eq (.agg #[I_ p.dev,I_ p.slot]),PF.eq (.agg #[I_ p.dev,I_ p.slot,I_ 0,S_ none 0 0,I_ 0,I_ 0,I_ 0,I_ 0,I_ 0,I_ 0,I_ 0,I_ 0,I_ 0,I_ 0,I_ 0]),PF.p0 (SP.blk 1 #[I_ p.dev,I_ p.slot,I_ 0,S_ none 0 0,I_ 0,I_ 0,I_ 0,I_ 0,I_ 0,I_ 0,I_ 0,I_ 0,I_ 0,I_ 0,I_ 0] 64),PF.res,PF.eq (P_ Z),PF.any] s_ s_ rfl ⟨O.step (B_.drew),L.other (gP _ 1 none) z_⟩ s_ (fun _ _=>trivial) ?_
      refine h_ (fun g d xw W I a s K t=>?_) (fun v0=>?_)
      ·skip
       go_simp;exact t g _ xw (a.pure 0 rfl rfl) (fun _ _ h=>h) rfl
      simp only[ly];refine h_ (fun g d xw W I a s K t=>?_) (fun v1=>?_)
      ·obtain rfl:v0=_:=s 0 s_;have H:=(a.c0 (a.n0 (nds I rfl))).2;unfold NB at H;have x0:=xV H;clear H;go_simp;exact t g _ xw (a.pure 1 rfl rfl) (fun _ _ h=>h) rfl
      simp only[ly];refine h_ (fun g d xw W I a s K t=>?_) (fun v2=>?_)
      ·skip
       go_simp;exact t g _ xw (a.pure 2 rfl rfl) (fun _ _ h=>h) rfl
      simp only[ly];refine h_ (fun g d xw W I a s K t=>?_) (fun v3=>?_)
      ·skip
       go_simp;exact t g _ xw (a.pure 3 rfl rfl) (fun _ _ h=>h) rfl
      simp only[ly];refine h_ (fun g d xw W I a s K t=>?_) (fun v4=>?_)
      ·obtain rfl:v2=_:=s 2 s_;obtain rfl:v3=_:=s 3 s_;go_simp;exact t g _ xw (a.pure 4 rfl rfl) (fun _ _ h=>h) rfl
      simp only[ly];refine h_ (fun g d xw W I a s K t=>?_) (fun v5=>?_)
      ·obtain rfl:v4=_:=s 4 s_;have a9:=(a.c0 (a.n0 (nds I rfl))).1.bl;obtain ⟨l0,l1⟩:=kt2 (a9.block _ b3) p0 p1;clear a9;go_simp;exact t g _ xw (a.pure 5 rfl rfl) (fun _ _ h=>h) rfl
      simp only[ly];refine h_ (fun g d xw W I a s K t=>?_) (fun v6=>?_)
      ·obtain rfl:v5=_:=s 5 s_;go_simp;exact t g _ xw (a.pure 6 rfl rfl) (fun _ _ h=>h) rfl
      simp only[ly];refine h_ (fun g d xw W I a s K t=>?_) (fun v7=>?_)
      ·obtain rfl:v6=_:=s 6 s_;obtain rfl:g=none:=a.n0 (nds I rfl);obtain ⟨y,D⟩:=a.c0 rfl;go_simp;exact t none _ _ (a.step 7 rfl rfl ⟨y.step (b_ B_ _),D.other (gA_ _ _ none) z_⟩) (fun j u h=>GF.keep (.inl ⟨rfl,rfl,b_ B_ _⟩) j u h) (fun _=>⟨_,rfl,heap_alloc_new _ _⟩)
      simp only[ly];refine h_ (fun g d xw W I a s K t=>?_) (fun v8=>?_)
      ·obtain rfl:g=none:=a.n0 W;obtain ⟨y,D⟩:=a.c0 rfl;obtain rfl:v1=_:=s 1 s_;obtain ⟨gb,e7,aj⟩:=s 7 s_ rfl;obtain rfl:v7=_:=e7;refine aO (ops:=#[]) rfl (U_ eo_ rfl (.tmp 62) (.tmp 68) rfl (fun _=>False) rfl y.f y.bb.2.2 (by simp;omega) _ rfl aj (gT p) (c8_) (fun v' w' A U bp=>?_));refine t (some (v',false)) v' w' (a.app rfl ⟨?_,D.other U (fun e=>by have:=(y.f.own e).1;have:=y.bb;omega)⟩) (fun j u h=>GF.keep (.inr ⟨z_,fun v p e=>by cases e⟩) j u h) ⟨false,rfl⟩;refine y.other U (fun b n=> .inl (y.f.own n).1) ?_ (LO.nil _ _ _ _ _) (fun b _ e=>by cases e);rw [aR ax.out,List.map_append];exact A
      simp only[ly];refine h_ (fun g d xw W I a s K t=>?_) (fun v9=>?_)
      ·skip
       go_simp;exact t g _ xw (a.pure 9 rfl rfl) (fun _ _ h=>h) rfl
      simp only[ly];refine h_ (fun g d xw W I a s K t=>?_) (fun v10=>?_)
      ·obtain ⟨pp,eg⟩:=s 8 s_;obtain rfl:v9=_:=s 9 s_;subst eg;have e2:pp=false:=by
        cases pp with
        | false=>rfl
        | true=>exact absurd rfl (a.n1 W v8)
       subst e2;obtain ⟨y,D⟩:=a.c1 v8 rfl;obtain ⟨G1,a7,a8,rfl⟩:=y.f.cap;have H:=D;unfold NB at H;have x0:=a_ H 0;have fz:=t_ H 0;simp only[zl] at x0;go_simp;exact t (some (S_ G1 a7 a8,true)) undef _ (a.sto rfl ⟨y.other (v_ xw ⟨Z,0,none⟩ (S_ G1 a7 a8)) (fun b n=> .inr (by injection n with n;exact n.symm)) (y.f.kept (v_ xw ⟨Z,0,none⟩ (S_ G1 a7 a8)) (.inr ⟨Z,rfl,fun h=>h,fun e=>by have:=(y.f.own e).1;have:=y.bb;omega⟩)) (LO.nil _ _ _ _ _) (fun b _ e=>by cases e),R_ H _⟩) (fun j u h=>GF.keep (.inr ⟨z_,fun v p e=>⟨true,by cases e;rfl⟩⟩) j u h) trivial
      simp only[ly];refine dD ?_;intro g d wz X a hG;obtain ⟨v,rfl⟩:=a.fin (X 10 z_);obtain ⟨y,D⟩:=a.c2 v rfl;clear hG X;go_wp2;go_roundw
      case rel=>exact ⟨k+1,v,by go_num,O_,y,D⟩
      case measure=>exact bH
     ·obtain rfl:k=Ls.length:=O_
      rw [List.take_length] at O;obtain ⟨nn,aa⟩:=aZ (eM (bC 1 sz));have bn:nn<=64:=by have:=iI sz 1 hz.each;have:=hz.all;omega
      have aq:=H_ (show ∀w' vr q,NS w S B Z (bC 1 sz) gs gs.length (S_ E J G) Q R P (S_ F1 f2 f3) vr (Ls.map gT) q w'->C_ 84 #[S_ E J G] w' (sB nn w') from fun w' vr q h=>by rw [aa];exact hk_ h.z hz.zones);have aw:=H_ aa;clear aa;go_wp2
      go_loopw [13] (fun s13 wx=>∃(q:Nat) (vr:Value),s13 = I_ q/\q<=nn/\NS w S B Z (bC 1 sz) gs gs.length (S_ E J G) Q R P (S_ F1 f2 f3) vr (Ls.map gT) q wx/\NB Z (S_ F1 f2 f3) vr (S_ E J G) Q R P wx) (fun s13 _=>nn - (intOf s13).toNat)
      case atStart=>exact ⟨0,_,rfl,O_,O.out,L.out⟩
      case round=>
       clear O L;obtain ⟨q,vr,rfl,hq,y,D⟩:=hrel;obtain ⟨G1,g2,g3,rfl⟩:=y.r.cap;have al:=aq _ _ _ y;have O:=H_ y;have L:=H_ D;clear y
       by_cases bs:q<nn
       ·have bu:(q:Int)<(nn:Int):=O_
        unfold NB at D;clear D
        go_wp2_with (first
         | (go_at_call 84;refine CM al ?_;rintro e w5 ⟨rfl,N⟩;have F:=H_ (O.step N);have a0:=H_ (L.other (bV N none) z_);have M:=a0.out;unfold NB at M;have x1:=a_ M 1;simp only[zl] at x1;clear N M)
         | (at_builtin;(refine U_ eq_ rfl (.tmp 78) (.tmp 80) rfl (fun _=>False) rfl (F.r.alloc _) (by have:=F.bb;simp;omega) (by simp;omega) (pC (-1) 0 ⟨#[]⟩ 0 0 0 0 0 0) rfl (l_ _ _ _ rfl) eI rfl ?_);intro v4 w4 Y b4 af;obtain ⟨G4,h4,i4,rfl⟩:=Y.cap;have a3:=H_ ((F.step (b_ B_ _)).push (a0.other (gA_ _ _ none) z_) b4 Y af);have a1:=a3.out.2;unfold NB at a1;have z1:=a_ a1 1;have fz:=t_ a1 1;simp only[zl] at z1;clear a1))
        go_roundw
        case rel=>
         obtain ⟨r1,r2⟩:=a3.out.1.set1 a3.out.2;exact ⟨q+1,_,by go_num,O_,r1,r2⟩
        case measure=>exact bH
       ·obtain rfl:q=nn:=O_
        unfold NB at D;clear D;have bo:=H_ (O.cache hS)
        go_wp2_with (first
         | (go_at_call 84;refine CM al ?_;rintro e w5 ⟨rfl,N⟩;have F:=H_ (O.step N);have a0:=H_ (L.other (bV N none) z_);have M:=a0.out;unfold NB at M;obtain ⟨x0,x1,x2,x3,x4,x5,x6⟩:=aF M;obtain ⟨az,b0,b1,rfl⟩:=O.g.cap;obtain ⟨bi,bj,bk,rfl⟩:=O.l.cap;obtain ⟨bf,bg,bh,rfl⟩:=O.c.cap;clear N M)
         | (refine aJ rfl (.tmp 6) (.tmp 83) rfl rfl rfl rfl F.res rfl ?_))
        show bodyPost prog f28 _ _ _ _
        refine bodyPost_ret (bQ rfl rfl rfl (setRow_heap _ _ _ _ _ _ F.res)) rfl ?_;refine ⟨uN Ls sz gs,_,_,_,_,_,_,_,rfl,rfl,?_,j_ F.bl (aQ _) _⟩;have:=((F.cache hS).kept (r_.of_setRow w5 (w) (E_ F1 f2 f3 G1 g2 g3 E J G az b0 b1 bi bj bk bf bg bh none 0 0) (fun h=>h.2 rfl))).weak (S':=S) (fun z _ h=>h.1);unfold uN;rw [<-aw.out];exact this
end
section
theorem gV_:(prog.info? 53).map (fun i=>(i.zero,i.size,i.bytes))=some (some (.agg #[I_ 0,I_ 0]),2,16):=by kernel_rfl
theorem jX_:rY prog 70 53 2:=by
 obtain ⟨i,h1,h2,h3,h4⟩:=info_parts gV_;exact ⟨i,_,16,underlying70,h1,h2,h3,h4,rfl,O_,O_⟩
def yK (y:Fl):Pl:=⟨y.dev,y.slot⟩
def eN (c:Cn):Nat:=((List.range 256).filter (fun p=>decide (0<(c p).1))).length
def vN (L:List Fl):Nat:=(L.map (fun y=>eN y.c)).sum
def fW (L:List Fr):Nat:=(L.filter (fun x=>x.file != -1)).length
theorem cX_ {L:List Fl} (h:L[k]?=some y):vN (L.take (k+1))=vN (L.take k)+eN y.c:=by
 unfold vN;rw [List.take_add_one,h];simp
theorem vG (h:L[k]?=some x):fW (L.take (k+1))=fW (L.take k)+if x.file=-1 then 0 else 1:=by
 unfold fW;rw [List.take_add_one,h,Option.toList_some,List.filter_append,aL_]
 by_cases q:x.file=-1
 ·simp [q]
 ·simp [q]
theorem gf_ {c:Cn} (ht:X_ h c):((aH 0 (4 ^ h) c).filter (fun q=>decide (0<q.2.1))).length=eN c:=by
 have a:4 ^ h<=256:=show 4 ^ h<=4 ^ 4 from Nat.pow_le_pow_right O_ ht.1;unfold eN aH;obtain ⟨d,f⟩:∃d,256=4 ^ h+d:=⟨256 - 4 ^ h,O_⟩;rw [f,List.range_add,List.filter_append,aL_];have g:(List.map (4 ^ h+·) (List.range d)).filter (fun p=>decide (0<(c p).1))=[]:=by
  rw [List.filter_eq_nil_iff];intro p a;rw [List.mem_map] at a;obtain ⟨q,_,rfl⟩:=a;rw [ht.2.1 _ O_];simp
 rw [g,List.length_nil,Nat.add_zero];generalize List.range (4 ^ h)=R
 induction R with
 | nil=>rfl
 | cons p R ih=>
  rw [List.filterMap_cons,List.filter_cons]
  by_cases q:c p=(0,0)
  ·rw [if_pos q,q]
   simpa using ih
  ·rw [if_neg q]
   dsimp only
   rw [List.filter_cons]
   by_cases b:0<(c p).1
   ·simp only[b,decide_true,if_true,cL_];rw [ih]
   ·simp only[b,decide_false,if_false,Bool.false_eq_true];exact ih
theorem jG_ (c:Cn):eN c<=256:=dO (List.length_filter_le _ _) z_
theorem gh_ {L:List Fl} (h:L.length<=k):vN L<=256*k:=by
 refine dO ?_ (Nat.mul_le_mul_left 256 h);unfold vN;clear h
 induction L with
 | nil=>simp
 | cons y L ih=>
  have:=jG_ y.c;simp only[List.map_cons,List.sum_cons,cL_];omega
def One (w:World) (B:Nat) (u:Int):Prop:=LW M_ w (fun _=>False) B [u]
theorem One.mk_ {g:Nat} (h:w.ownsRow base 3 1 (S_ (some ⟨g,0,none⟩) 1 1) 1 (madeCells (Value.int i64 0).cells (1*1)).toList):One w g 0:=by
 have a:LO M_ 3 w base (fun _=>False) (S_ (some ⟨g,0,none⟩) 1 1) [0]:=ch_ h;obtain ⟨c,cap,e,_,_,_,b⟩:=a.lw z_;injection e with e1
 injection e1 with e1
 injection e1 with e1
 subst e1;exact b.weak (fun h=>h) (fun _ _ h=>h.1)
theorem One.cell {u:Int} (h:One w B u):w.cell? ⟨B,0,none⟩=some (I_ u)/\w.frozen? ⟨B,0,none⟩=false:=by
 obtain ⟨r,hr,hc⟩:=LW.at_ h (i:=0) rfl;have hr:r=[I_ u]:=hr;subst hr;exact ⟨hc 0 _ rfl,(LW.slot h (i:=0) (p:=0) z_ O_).2⟩
theorem One.set {u:Int} (h:One w B u) (u':Int):One (w.setCell ⟨B,0,none⟩ (I_ u')) B u':=
 LW.setOne (i:=0) (p:=0) h rfl O_ rfl (fun r hr=>by
  have hr:r=[I_ u]:=hr;subst hr
  rfl)
theorem One.step {w':World} {u:Int} (h:One w B u) (hb:q_ w w'):One w' B u:=LW.step h hb
structure hn_ (C:Ck):Prop where
 inv:cE 2 1 1 C
 pts:C.ptes=[]
 file:∀(j:Nat) (y:Fl),C.files[j]?=some y->dH_ y
 pl:tJ (C.files.map yK)
 frame:∀(i:Nat) (x:Fr),C.frames[i]?=some x->(x=eI/\bG_ C.zones ((i:Int)+1)=false)\/(x.file≠-1/\bG_ C.zones ((i:Int)+1)=true/\x.tenant=0/\∃j y l,bO_ C i x j y l)
 ls:∃l g,C.lists=[l]/\C.groups=[g]/\C.clocks=[0]/\g.charge=(fW C.frames:Int)/\(l.act.length:Int)+(l.ina.length:Int)=(fW C.frames:Int)
 ent:vN C.files=fW C.frames
theorem f7_ {c e f g:Value} (h:x_ w S a b c d e f g C) (ok:hn_ C):C_ 36 #[cI a b c d e f g] w (cP true w):=by
 obtain ⟨l0,g0,ao,am,an,a4,Y⟩:=ok.ls;obtain ⟨A1,c1,rfl,_,_⟩:=h.files.form;obtain ⟨A2,c2,rfl,_,_⟩:=h.frames.form;obtain ⟨Z,c3,rfl,_,_⟩:=h.zones.form;obtain ⟨A4,c4,rfl,_,_⟩:=h.groups.form;obtain ⟨A5,c5,rfl,_,_⟩:=h.lists.form;obtain ⟨A6,c6,rfl,_,_⟩:=h.clocks.form;obtain ⟨A7,c7,rfl,_,_⟩:=h.ptes.form;rw [show C.groups.length=1 by rw [am];rfl,show C.lists.length=1 by rw [ao];rfl,show C.clocks.length=1 by rw [an];rfl,show C.ptes.length=0 by rw [ok.pts];rfl] at h ⊢;have H:=H_ h;have A:=H_ ok;have cw:=H_ (And.intro ao (And.intro am (And.intro an (And.intro a4 Y))));have br:=H_ (show C.files.length=2 from ok.inv.nf);have d0:C.files.length<=100:=by rw [br.out];omega
 have ct:C.frames.length<=64:=ok.inv.nr.2;have c0:=H_ (show C.zones.length=1 from ok.inv.nz);have d9:C.zones.length<=100:=by rw [c0.out];omega
 clear h ok ao am an a4 Y;have b7:=H_ (g_ w (.cells (E_ A1 C.files.length c1 A2 C.frames.length c2 Z C.zones.length c3 A4 1 c4 A5 1 c5 A6 1 c6 A7 0 c7) 30));have b6:=H_ (b_ (aI (w) w) (.cells (E_ A1 C.files.length c1 A2 C.frames.length c2 Z C.zones.length c3 A4 1 c4 A5 1 c5 A6 1 c6 A7 0 c7) 30));go_enter func36,ntmps36
 go_upto_region 3 with fail
 generalize w.alloc _=W0 at b7 b6
 go_loopw [3,4] (fun s3 s4 wx=>∃k:Nat,s4 = I_ (k:Int)/\k<=C.files.length/\LO PlR 53 wx (w+1) (fun _=>False) s3 ((C.files.map yK).take k)/\q_ w wx/\aW wx (w) (E_ A1 C.files.length c1 A2 C.frames.length c2 Z C.zones.length c3 A4 1 c4 A5 1 c5 A6 1 c6 A7 0 c7) 30) (fun _ s4 _=>C.files.length - (intOf s4).toNat)
 case atStart=>exact ⟨0,rfl,O_,LO.nil _ _ _ _ _,b6.out,b7.out⟩
 case round=>
  obtain ⟨k,rfl,hk,ho,n,s⟩:=hrel;obtain ⟨HO,p,r⟩:=eT ho n s;clear ho n s;obtain ⟨x0,E,F,G,I,J,K⟩:=aF r.out
  by_cases D:k<C.files.length
  ·obtain ⟨y,hy⟩:∃y,C.files[k]?=some y:=⟨_,cU D⟩;obtain ⟨bf,of,kt,KB,kc,rfl,al,_,_,_,_,L⟩:=FlA.cells (H.files.step p.out) hy;have z0:=L 0 _ rfl;have z1:=L 1 _ rfl;rw [Nat.add_zero] at z0;have kl:(k:Int)<(C.files.length:Int):=O_
   have HY:=H_ (show (C.files.map yK).take (k+1)=(C.files.map yK).take k ++ [yK y] by rw [List.take_add_one,gP_,hy];rfl);clear L hy
   go_wp2_with (at_builtin;(refine U_ jX_ rfl (.tmp 25) (.tmp 32) rfl (fun _=>False) rfl (HO.alloc _) (by have:=p_ r;simp;omega) (by rw [List.length_take];omega) #[I_ y.dev,I_ y.slot] rfl (l_ _ _ _ rfl) (yK y) rfl ?_);intro v4 w4 P a8 cs)
   go_roundw
   case rel=>exact ⟨k+1,by go_num,O_,by rw [HY.out];exact P,(b_ p _).grown a8 (b_ p _).size (fun b n=>by have:=(HO.own n).1;omega),(a8.block _ (p_ (m_ r.out _)) (fun e=>by have:=(HO.own e.symm).1;omega)).trans (m_ r.out _)⟩
   case measure=>exact bH
  ·obtain rfl:k=C.files.length:=O_
   have bm:=fun w' (n:q_ wr w')=>aD_ ((show LA PlR wr gL _ (C.files.map yK) by
    have h1:=HO.la (S':=gL) (fun _ _ h=>h.elim) (fun _ _=>trivial)
    rwa [tL_ z_] at h1).step n) A.pl
   have bj:=fun w' (n:q_ w w')=>lC (H.groups.step n) A.inv.gok;have bp:=fun w' (n:q_ w w')=>iG (H.zones.step n) A.inv.zok;have bn:=fun w' (n:q_ w w')=>uV (H.ptes.step n) A.inv.pok;clear D
   rename World=>V
   go_upto_region 6 with fail
   go_cut [72] from 34 to 72 (fun s72 wx=>s72 = .bool false/\q_ w wx/\aW wx (w) (E_ A1 C.files.length c1 A2 C.frames.length c2 Z C.zones.length c3 A4 1 c4 A5 1 c5 A6 1 c6 A7 0 c7) 30)
   case first=>
    go_wp2_with (first
     | (go_at_call 81;refine CM (bm _ B_) ?_;rintro e w3 ⟨rfl,n⟩;obtain ⟨U,a3⟩:=gZ r p n;clear n x0 E F G I J K;obtain ⟨x0,E,F,G,I,J,K⟩:=aF U.out)
     | (go_at_call 82;refine CM (bj _ a3) ?_;rintro e w4 ⟨rfl,n⟩;obtain ⟨W,R⟩:=gZ U a3 n;clear n x0 E F G I J K;obtain ⟨x0,E,F,G,I,J,K⟩:=aF W.out)
     | (go_at_call 99;refine CM (bp _ R) ?_;rintro e w5 ⟨rfl,n⟩;obtain ⟨a7,a6⟩:=gZ W R n;clear n x0 E F G I J K;obtain ⟨x0,E,F,G,I,J,K⟩:=aF a7.out)
     | (go_at_call 100;refine CM (bn _ a6) ?_;rintro e w6 ⟨rfl,n⟩;obtain ⟨b8,bs⟩:=gZ a7 a6 n;clear n x0 E F G I J K;obtain ⟨x0,E,F,G,I,J,K⟩:=aF b8.out))
    go_meet
    case rel=>exact ⟨rfl,bs,b8⟩
   case rest=>
    clear HO p r x0 E F G I J K bm bj bp bn;obtain ⟨rfl,n,s⟩:=hcut;have p:=H_ n;have r:=H_ s;clear n s
    go_upto_region 10 with fail
    go_loopw [5,6] (fun s5 s6 wx=>∃k:Nat,s6 = I_ (k:Int)/\k<=C.zones.length/\s5 = I_ (nP (C.zones.take k) - 1)/\q_ w wx/\aW wx (w) (E_ A1 C.files.length c1 A2 C.frames.length c2 Z C.zones.length c3 A4 1 c4 A5 1 c5 A6 1 c6 A7 0 c7) 30) (fun _ s6 _=>C.zones.length - (intOf s6).toNat)
    case atStart=>exact ⟨0,rfl,O_,rfl,p.out,r.out⟩
    case round=>
     clear p r;obtain ⟨k,rfl,hk,rfl,n,s⟩:=hrel;have p:=H_ n;have r:=H_ s;clear n s;obtain ⟨x0,E,F,G,I,J,K⟩:=aF r.out
     by_cases D:k<C.zones.length
     ·obtain ⟨z,hz⟩:∃z,C.zones[k]?=some z:=⟨_,cU D⟩;obtain ⟨zb,zo,A',cap',rfl,da,_,_,_,z0,z1,_⟩:=ZnA.cells (H.zones.step p.out) hz;have kl:(k:Int)<(C.zones.length:Int):=O_
      have h1:=A.inv.zok.nx (k+1) O_;have h2:=A.inv.zok.nx k O_;have h3:nP (C.zones.take (k+1))=nP (C.zones.take k)+z.size:=by rw [aR hz,mH]
      have HN:=H_ (show nP (C.zones.take k) - 1+z.size=nP (C.zones.take (k+1)) - 1 by rw [h3];omega);have d8:i64.wrap (nP (C.zones.take k) - 1+z.size)=nP (C.zones.take k) - 1+z.size:=fA O_;generalize nP (C.zones.take k) - 1=sv at *;clear h1 h2 h3 hz z0;go_wp2;go_roundw
      case rel=>exact ⟨k+1,by go_num,O_,by rw [<-HN.out],p.out,r.out⟩
      case measure=>exact bH
     ·obtain rfl:k=C.zones.length:=O_
      rw [List.take_length,show nP C.zones - 1=(C.frames.length:Int) by have:=A.inv.zsum;omega];clear D
      rename World=>V
      go_upto_region 17 with fail
      go_loopw [7,8] (fun s7 s8 wx=>∃k:Nat,s8 = I_ (k:Int)/\k<=C.files.length/\s7 = I_ (vN (C.files.take k):Int)/\q_ w wx/\aW wx (w) (E_ A1 C.files.length c1 A2 C.frames.length c2 Z C.zones.length c3 A4 1 c4 A5 1 c5 A6 1 c6 A7 0 c7) 30) (fun _ s8 _=>C.files.length - (intOf s8).toNat)
      case atStart=>exact ⟨0,rfl,O_,rfl,p.out,r.out⟩
      case round=>
       clear p r x0 E F G I J K;obtain ⟨k,rfl,hk,rfl,n,s⟩:=hrel;have p:=H_ n;have r:=H_ s;clear n s;obtain ⟨x0,E,F,G,I,J,K⟩:=aF r.out
       by_cases D:k<C.files.length
       ·obtain ⟨y,hy⟩:∃y,C.files[k]?=some y:=⟨_,cU D⟩;obtain ⟨bf,of,kt,KB,kc,rfl,al,k1,k2,k3,k4,L⟩:=FlA.cells (H.files.step p.out) hy;have z0:=L 0 _ rfl;have z1:=L 1 _ rfl;have z2:=L 2 _ rfl;have z3:=L 3 _ rfl;have z4:=L 4 _ rfl;have z5:=L 5 _ rfl;have z6:=L 6 _ rfl;have z7:=L 7 _ rfl;have z8:=L 8 _ rfl;have z9:=L 9 _ rfl;have cl:=L 10 _ rfl;have cm:=L 11 _ rfl;have co:=L 12 _ rfl;have cp:=L 13 _ rfl;have cq:=L 14 _ rfl;rw [Nat.add_zero] at z0;have kl:(k:Int)<(C.files.length:Int):=O_
        have a5:=im_ kc k1 k2 k3 k4 (A.file k y hy);have au:=fun w' (n:q_ wr w')=>iX kc k1 k2 k3 (k4.step n);have ax:=H_ (gf_ k2);have ay:=H_ (cX_ hy);have c9:vN (C.files.take k)<=256*k:=gh_ (List.length_take_le _ _);simp only[Fl.v,Fl.rowT,List.toArray] at a5;have aq:(aH 0 (4 ^ kt) y.c).length<=256:=dO (jV 0 (4 ^ kt) y.c) (show 4 ^ kt<=4 ^ 4 from Nat.pow_le_pow_right O_ k2.1);generalize aH 0 (4 ^ kt) y.c=lst at au ax aq;clear L k1 k2 k3 k4 hy
        go_upto_region 21 with (go_at_call 101;refine CM a5 ?_;rintro e w3 ⟨rfl,n⟩;have U:=lJ r n;have aw:=H_ n;have a3:=lU p n;clear x0 E F G I J K;obtain ⟨x0,E,F,G,I,J,K⟩:=aF U.out;have ck:=kt4 (n.block _ al) z2 z3 z4 z5;clear z2 z3 z4 z5;obtain ⟨z2,z3,z4,z5⟩:=ck;clear n z0 z1 z6 z7 z8 z9 cl cm co cp cq)
        go_cut [9] from 107 to 113 (fun s9 wx=>EA wx gL s9 lst/\q_ w wx/\aW wx (w) (E_ (some ⟨bf,of,none⟩) C.files.length c1 A2 C.frames.length c2 Z C.zones.length c3 A4 1 c4 A5 1 c5 A6 1 c6 A7 0 c7) 30)
        case first=>
         go_wp2_with (go_at_call 102;refine CM (au _ aw.out) ?_;rintro e w4 ⟨ve,rfl,aj,n⟩;have HE:=H_ (EA.of_own (S:=gL) aj (fun _ _=>trivial));obtain ⟨W,R⟩:=gZ U a3 n;obtain ⟨A9,ba,rfl,_,_,_⟩:=HE.out;clear aj n)
         go_meet
         case rel=>exact ⟨HE,R,W⟩
        case rest=>
         clear r p U a3 aw x0 E F G I J K z2 z3 z4 z5 au a5 al;obtain ⟨bd,n,s⟩:=hcut;obtain ⟨bq,bu,bx⟩:=eT bd n s;obtain ⟨A9,ba,rfl,_,cf,_⟩:=bd;unfold maxLen at cf;obtain ⟨en,bg⟩:=aZ (vN (C.files.take k));rw [<-bg] at ay c9 ⊢;clear n s bg
         go_upto_region 23 with fail
         go_loopw [7,10] (fun s7 s10 wx=>∃m:Nat,s10 = I_ (m:Int)/\m<=lst.length/\s7 = I_ ((en+((lst.take m).filter (fun q=>decide (0<q.2.1))).length:Nat):Int)/\q_ wc wx) (fun _ s10 _=>lst.length - (intOf s10).toNat)
         case atStart=>exact ⟨0,rfl,O_,z_,aI _ _⟩
         case round=>
          obtain ⟨m,rfl,hm,rfl,n⟩:=hrel;have HQ:=H_ n;clear n
          by_cases cd:m<lst.length
          ·obtain ⟨eb,eo,cr,ed,es,em,cb,_,_,cz,be,e0,e1,e2⟩:=(bq.step HQ.out).at_ cd;injection cb with ev1 _ ev3
           subst ev1 ev3;have ml:(m:Int)<(lst.length:Int):=O_
           have bh:((lst.take (m+1)).filter (fun q=>decide (0<q.2.1))).length=((lst.take m).filter (fun q=>decide (0<q.2.1))).length+if 0<es then 1 else 0:=by
            rw [List.take_add_one,be,Option.toList_some,List.filter_append,aL_]
            by_cases q:0<es <;> simp [q]
           have d5:((lst.take m).filter (fun q=>decide (0<q.2.1))).length<=m:=dO (List.length_filter_le _ _) (List.length_take_le _ _);have az:=H_ bh;generalize ((lst.take m).filter (fun q=>decide (0<q.2.1))).length=cn at *;clear be e0 e2 bh
           by_cases hp:0<es
           ·go_wp2;go_roundw
            case rel=>exact ⟨m+1,by go_num,O_,by rw [az.out,if_pos hp];go_num,HQ.out⟩
            case measure=>exact bH
           ·go_wp2;go_roundw
            case rel=>exact ⟨m+1,by go_num,O_,by rw [az.out,if_neg hp];rfl,HQ⟩
            case measure=>exact bH
          ·obtain rfl:m=lst.length:=O_
           rw [List.take_length,ax.out,<-ay.out];go_wp2;go_roundw
           case rel=>exact ⟨k+1,by go_num,O_,rfl,d_ bu.out HQ.out,i_ bx.out HQ.out⟩
           case measure=>exact bH
       ·obtain rfl:k=C.files.length:=O_
        rw [List.take_length,A.ent];clear D
        rename World=>V
        have ak:fW C.frames<=C.frames.length:=List.length_filter_le _ _;have av:∀q:Nat,fW (C.frames.take q)<=q:=fun q=>dO (List.length_filter_le _ _) (List.length_take_le _ _)
        go_upto_region 28 with fail
        go_cut [12] from 128 to 131 (fun s12 wx=>∃B,s12 = S_ (some ⟨B,0,none⟩) 1 1/\w.heap.size<B/\One wx B 0/\q_ w wx/\aW wx (w) (E_ A1 C.files.length c1 A2 C.frames.length c2 Z C.zones.length c3 A4 1 c4 A5 1 c5 A6 1 c6 A7 0 c7) 30)
        case first=>
         have N:=p_ r;obtain ⟨i0,hi,ch,ci,cj⟩:=info_parts uI
         go_wp2_with (refine wpList_make_full V rfl (.tmp 130) (.tmp 130) 22 rfl (V) 3 i0 (I_ 0) 1 underlying22 hi ch ci .i64 .i64 1 1 1 rfl rfl rfl rfl (by rw [cj];omega) (by unfold maxLen;omega) (aQ _) ?_;intro w4 P a8)
         have bc:=(aI (V) V).grown a8 (aQ _) (fun b n=>by cases n);go_meet
         case rel=>exact ⟨V,rfl,N,One.mk_ P,d_ p bc,i_ r bc⟩
        case rest=>
         clear p r x0 E F G I J K;obtain ⟨B,rfl,cy,u,n,s⟩:=hcut;obtain ⟨p,r,t⟩:=eT n s u;clear n s u
         go_upto_region 30 with fail
         go_loopw [11,13] (fun s11 s13 wx=>∃k:Nat,s13 = I_ ((k:Int)+1)/\k<=C.frames.length/\s11 = I_ (fW (C.frames.take k):Int)/\One wx B (fW (C.frames.take k):Int)/\q_ w wx/\aW wx (w) (E_ A1 C.files.length c1 A2 C.frames.length c2 Z C.zones.length c3 A4 1 c4 A5 1 c5 A6 1 c6 A7 0 c7) 30) (fun _ s13 _=>C.frames.length+1 - (intOf s13).toNat)
         case atStart=>exact ⟨0,rfl,O_,rfl,t.out,p.out,r.out⟩
         case round=>
          clear p r t;obtain ⟨k,rfl,hk,rfl,u,n,s⟩:=hrel;obtain ⟨p,r,t⟩:=eT n s u;clear n s u;obtain ⟨x0,E,F,G,I,J,K⟩:=aF r.out
          by_cases D:k<C.frames.length
          ·obtain ⟨x,s⟩:∃x,C.frames[k]?=some x:=⟨_,cU D⟩;have a2:=H_ (vG s);have ae:=av k;obtain ⟨us,bo⟩:=aZ (fW (C.frames.take k));rw [<-bo] at t a2 ae ⊢;clear bo av;obtain ⟨bb,o,rfl,ca,y0,y1,y2,y3,y4,y5,y6,y7,y8⟩:=FrA.cells (H.frames.step p.out) s;have kl:(k:Int)+1<=(C.frames.length:Int):=O_
           have db:(k:Int)<(C.frames.length:Int):=O_
           have ad:=fun w' (n:q_ w w')=>hb_ ((k:Int)+1) (H.zones.step n);have N:=p_ r;have O:B<wr.heap.size:=LW.lt t.out;have bw:=H_ s;have a0:=H_ (show q_ w ((wr.alloc (.cells (pC 0 0 ⟨#[]⟩ 0 0 0 0 0 0) 85)).setRow (wr) (fG x.file x))/\((wr.alloc (.cells (pC 0 0 ⟨#[]⟩ 0 0 0 0 0 0) 85)).setRow (wr) (fG x.file x)).heap[w.heap.size]?=some (.cells (E_ A1 C.files.length c1 (some ⟨bb,o,none⟩) C.frames.length c2 Z C.zones.length c3 A4 1 c4 A5 1 c5 A6 1 c6 A7 0 c7) 30 (0,0))/\One ((wr.alloc (.cells (pC 0 0 ⟨#[]⟩ 0 0 0 0 0 0) 85)).setRow (wr) (fG x.file x)) B us/\((wr.alloc (.cells (pC 0 0 ⟨#[]⟩ 0 0 0 0 0 0) 85)).setRow (wr) (fG x.file x)).heap[wr.heap.size]?=some (oF x) from by
            have h1:q_ wr ((wr.alloc (.cells (pC 0 0 ⟨#[]⟩ 0 0 0 0 0 0) 85)).setRow (wr) (fG x.file x)):=j_ (b_ B_ _) (aQ _) _;exact ⟨d_ p h1,i_ r h1,t.step h1,setRow_heap _ _ _ _ _ _ (l_ _ _ _ rfl)⟩)
           clear s
           go_upto_region 32 with fail
           go_cut [14] from 137 to 142 (fun s14 wx=>∃Q,s14 = P_ Q/\wx.heap[Q]?=some (oF x)/\One wx B us/\q_ w wx/\aW wx (w) (E_ A1 C.files.length c1 (some ⟨bb,o,none⟩) C.frames.length c2 Z C.zones.length c3 A4 1 c4 A5 1 c5 A6 1 c6 A7 0 c7) 30)
           case first=>
            go_wp2_with (refine cV rfl 85 (.tmp 14) (.tmp 142) rfl rfl (wr) (fG x.file x) rfl rfl 85 _ (l_ _ _ _ rfl) lA rfl (by simp [Value.oneCell']) ?_)
            go_meet
            case rel=>exact ⟨_,rfl,a0.out.2.2.2,a0.out.2.2.1,a0.out.1,a0.out.2.1⟩
           case rest=>
            clear a0 p r t x0 E F G I J K y0 y1 y2 y3 y4 y5 y6 y7 y8 ca N O;obtain ⟨Q,rfl,hq,u,n,s⟩:=hcut;obtain ⟨HQ,p,r,t⟩:=sP hq n s u;have N:=p_ s;have c8:=p_ hq;obtain ⟨x0,E,F,G,I,J,K⟩:=aF r.out
            rcases A.frame k x bw.out with ⟨hxn,htn⟩ | ⟨hxf,htn,hxt,j,y,l,hfo⟩
            ·subst hxn;simp only[htn] at ad;have M:=H_ (show fW (C.frames.take (k+1))=us from a2.trans (by rw [if_pos (show eI.file=-1 from rfl)];rfl));simp only[eI] at hq;obtain ⟨f0,f1,f2,f3,f4,f5,f6,f7,f8⟩:=sE hq;clear hq u n s htn a2
             go_wp2_with (go_at_call 103;refine CM (ad _ p) ?_;rintro e w3 ⟨rfl,rfl⟩)
             go_roundw
             case rel=>exact ⟨k+1,by go_num,O_,by rw [M.out],by rw [M.out];exact t,p,r⟩
             case measure=>exact bH
            ·simp only[htn] at ad;have M:=H_ (show fW (C.frames.take (k+1))=us+1 from a2.trans (by rw [if_neg hxf]));obtain ⟨f0,f1,f2,f3,f4,f5,f6,f7,f8⟩:=sE hq;have a5:=fun w' (n:q_ w w')=>ie_ (H.step n) A.inv.ok hfo;have d4:(x.file == -1)=false:=by simpa using hxf
             rw [hxt] at f5;clear hq u n s htn a2 hxf hfo hxt
             go_upto_region 38 with (first
              | (go_at_call 103;refine CM (ad _ p) ?_;rintro e w3 ⟨rfl,rfl⟩)
              | (go_at_call 104;refine CM (a5 _ p) ?_;rintro e w4 ⟨rfl,n⟩;obtain ⟨W,R⟩:=gZ r p n;have a1:=H_ (t.step n);replace f5:=(c_ (n.block _ c8)).trans f5;clear n))
             obtain ⟨o0,o1⟩:=a1.cell;have O:=LW.lt a1.out;have a6:=H_ (bA R ⟨B,0,none⟩ (I_ ((us:Int)+1)) (by show w.heap.size<=B;omega));have a7:=H_ ((jO w4 ⟨B,0,none⟩ (I_ ((us:Int)+1)) (w) (by show w.heap.size≠B;omega)).trans W.out);have b5:=H_ (a1.set ((us:Int)+1));have cv:us<=64:=O_
             go_wp2;go_roundw
             case rel=>exact ⟨k+1,by go_num,O_,by rw [M.out];go_num,by rw [M.out];exact b5,a6,a7⟩
             case measure=>exact bH
          ·obtain rfl:k=C.frames.length:=O_
           rw [List.take_length] at t ⊢;clear D av
           rename World=>V
           obtain ⟨l1,g1,ap,bi,bk,a4,Y⟩:=A.ls;have ce:=fun w' (n:q_ w w')=>H.lists.step n;obtain ⟨lb,lo,L1,n1,d1,L2,n2,d2,L3,n3,d3,rfl,cg,ac,ab,ag,ah,ai⟩:=LlA.cells (H.lists.step p.out) (i:=0) (x:=l1) (by rw [ap];rfl);clear cg;obtain ⟨gb,cx,rfl,a9,_,_,X⟩:=GrA.cells (H.groups.step p.out) (i:=0) (g:=g1) (by rw [bi];rfl);obtain ⟨kb,ko,cu,cc,_,_,aa,_,af⟩:=IL.cell (H.clocks.step p.out) (i:=0) (x:=0) (by rw [bk];rfl);injection cc with e1 e2 e3
           subst e1 e3;obtain ⟨P1,p1,e4,_,_⟩:=ab.1.form;injection e4 with h1 h2 h3
           subst h1 h2 h3;obtain ⟨P2,p2,e5,_,_⟩:=ab.2.1.form;injection e5 with h1 h2 h3
           subst h1 h2 h3;rw [a4] at X;rw [Nat.zero_mul,Nat.add_zero] at X ag ah ai;rw [Nat.add_zero] at af;have lok:=A.inv.lok 0 l1 (by rw [ap];rfl);obtain ⟨o0,_⟩:=t.cell;obtain ⟨un,ae⟩:=aZ (fW C.frames);rw [<-ae] at X o0 Y ak ⊢;have d7:i64.wrap ((l1.act.length:Int)+(l1.ina.length:Int))=(un:Int):=by rw [fA O_];exact Y
           have d6:(l1.act.length:Int)<=64/\(l1.ina.length:Int)<=64:=O_
           have ar:=fun w' (n:q_ V w')=>lD (ab.step n) lok;have O:=LW.lt t.out;have N:=p_ r;clear e2 ap bi bk a4 Y ab lok ce ae t ak
           go_upto_region 43 with fail
           go_loopw [15] (fun s15 wx=>∃k:Int,s15 = I_ k/\(0<=k/\k<=1)/\q_ V wx) (fun s15 _=>1 - (intOf s15).toNat)
           case atStart=>exact ⟨0,rfl,O_,aI _ _⟩
           case round=>
            obtain ⟨k,rfl,hk,n⟩:=hrel;have HQ:=H_ n;have b9:=lJ r n;clear x0 E F G I J K;obtain ⟨x0,E,F,G,I,J,K⟩:=aF b9.out;obtain rfl | rfl:k=0\/k=1:=O_
            ·obtain ⟨m0,m1,m2⟩:=kt3 (n.block _ ac) ag ah ai;have m3:=(c_ (n.block _ a9)).trans X;have m4:=(c_ (n.block _ aa)).trans af;have m5:=(c_ (n.block _ O)).trans o0;have b0:=iS ac n.size;have b1:=iS a9 n.size;have b2:=iS aa n.size;have b3:=iS O n.size;have b4:=iS N n.size;have bl:=fun z=>ar (ext wr z) (d_ n (n_ wr z));have xe:=aG wr;clear ag ah ai X af o0 ac a9 aa O N n ar
             go_upto_region 45 with fail
             go_cut [242] from 185 to 242 (fun s242 wx=>s242 = .bool false/\q_ wr wx)
             case first=>
              refine y_ s_ s_ ?_
              repeat (go_big_quiet_step (first | (with_reducible exact aB (bl _))))
              refine wpQuiet_nil ?_;rintro w' ⟨z,rfl⟩;have bv:=H_ (n_ wr z);clear xe bl;go_wp2;go_meet
              case rel=>exact ⟨rfl,bv⟩
             case rest=>
              obtain ⟨rfl,n⟩:=hcut;go_wp2;go_roundw
              case rel=>exact ⟨1,rfl,O_,d_ HQ.out n⟩
              case measure=>simp [intOf]
            ·rename World=>V2
             clear ag ah ai X af o0 ac a9 aa O N n ar
             go_upto_region 48 with fail
             go_loopw [16] (fun s16 wx=>s16 = I_ 0/\q_ V2 wx) (fun _ _=>0)
             case atStart=>exact ⟨rfl,aI _ _⟩
             case round=>
              obtain ⟨rfl,n⟩:=hrel;have bz:=lJ b9 n;clear x0 E F G I J K;obtain ⟨x0,E,F,G,I,J,K⟩:=aF bz.out;go_wp2;go_ret;exact ⟨rfl,d_ (d_ p HQ) n⟩
end
section
def du_ (L:List Fr) (i:Nat):Bool:=match L[i]? with | some x=>x.file != -1 | none=>false
theorem fx_:du_ L i=true↔∃x,L[i]?=some x/\x.file≠-1:=by
 unfold du_
 cases h:L[i]? with
 | none=>simp
 | some x=>simp
theorem rX (L:List Fr):∀k,k<=L.length->fW (L.take k)=((List.range k).filter (du_ L)).length
 | 0,_=>by simp [fW]
 | k+1,hk=>by
  have hx:L[k]?=some L[k]:=cU O_;rw [vG hx,rX L k O_,List.range_succ,List.filter_append,aL_]
  congr 1
  have hu:du_ L k=(L[k].file != -1):=by unfold du_;rw [hx]
  by_cases q:L[k].file=-1
  ·simp [hu,q]
  ·simp [hu,q]
def fy_ (L:List Fr):List Int:=((List.range L.length).filter (du_ L)).map (fun i:Nat=>(i:Int)+1)
theorem aQ_ (L:List Fr):(fy_ L).length=fW L:=by
 unfold fy_;rw [mL_,<-rX L L.length (aQ _),List.take_length]
theorem wP {β:Type} {f:α->β} {l:List α} (h:l.Nodup) (hf:∀a ∈ l,∀b ∈ l,f a=f b->a=b):(l.map f).Nodup:=by
 unfold List.Nodup at *;rw [List.pairwise_map];rw [List.pairwise_iff_getElem] at h ⊢;intro i j hi hj hij e;exact h i j hi hj hij (hf _ (gM_ hi) _ (gM_ hj) e)
theorem vF:(fy_ L).Nodup:=wP (List.Pairwise.filter _ List.nodup_range) (fun a _ b _ e=>by omega)
theorem aR_ {n:Int}:n ∈ fy_ L↔∃(i:Nat) (x:Fr),n=(i:Int)+1/\L[i]?=some x/\x.file≠-1:=by
 unfold fy_;rw [List.mem_map]
 constructor
 ·rintro ⟨i,a,rfl⟩;obtain ⟨x,h1,h2⟩:=fx_.1 (List.mem_filter.1 a).2;exact ⟨i,x,rfl,h1,h2⟩
 ·rintro ⟨i,x,rfl,h1,h2⟩;exact ⟨i,List.mem_filter.2 ⟨List.mem_range.2 (bK h1),fx_.2 ⟨x,h1,h2⟩⟩,rfl⟩
def ft_ (c:Cn):List Int:=((List.range 256).filter (fun p=>decide (0<(c p).1))).map (fun p=>(c p).1)
theorem aP_ (c:Cn):(ft_ c).length=eN c:=by unfold ft_ eN;rw [mL_]
theorem iP {c:Cn} (hp:p<256):D_ c (p:Int)=(c p).1:=by
 unfold D_;rw [if_pos (show gG (p:Int)=true by unfold gG;simp;omega),Int.toNat_natCast]
theorem gv_ {L:List α} (h:L.length=1):∃a,L=[a]:=by
 match L,h with
 | [a],_=>exact ⟨a,rfl⟩
section
variable {D:List UInt8} {C:Ck}
theorem Ig.chk (h:Ig D C):hn_ C:=by
 obtain ⟨e,d,hs⟩:=h;obtain ⟨l,g,q1,q2,q3,q4⟩:=d.ls;have lok:=d.inv.lok 0 l (by rw [q1];rfl);obtain ⟨r,s,t⟩:∃r s,C.files=[r,s]:=by
  have:=d.inv.nf
  match hL:C.files,this with
  | [a,b],_=>exact ⟨a,b,rfl⟩
 have w:C.files[0]?=some r:=by rw [t];rfl
 have A:C.files[1]?=some s:=by rw [t];rfl
 obtain ⟨f0,_⟩:=d.fl 0 r w;obtain ⟨f1,_⟩:=d.fl 1 s A;have J:(l.act ++ l.ina).length=fW C.frames:=by
  rw [<-aQ_];refine qA lok.dup (vF) (fun n=>?_);rw [aR_]
  constructor
  ·intro hn;have:=lok.rng n hn;obtain ⟨i,rfl⟩:∃i:Nat,n=(i:Int)+1:=⟨(n - 1).toNat,O_⟩;obtain ⟨x,a,b⟩:=(q4 i).1 hn;exact ⟨i,x,rfl,a,b⟩
  ·rintro ⟨i,x,rfl,a,b⟩;exact (q4 i).2 ⟨x,a,b⟩
 have u:∀(j:Nat) (y:Fl),C.files[j]?=some y->∀n,n ∈ ft_ y.c↔∃(i:Nat) (x:Fr),n=(i:Int)+1/\C.frames[i]?=some x/\x.file=(j:Int):=fun j y v n=>by
  unfold ft_;rw [List.mem_map]
  constructor
  ·rintro ⟨p,F,rfl⟩;have o:=List.mem_filter.1 F;have K:=List.mem_range.1 o.1;have M:0<(y.c p).1:=by simpa using o.2
   obtain ⟨i,x,a,b,c,_⟩:=d.inv.find j y p v (by rw [iP K];exact M);rw [iP K] at a;exact ⟨i,x,a,b,c⟩
  ·rintro ⟨i,x,rfl,a,b⟩;obtain ⟨S,v0,f,hv⟩:=d.inv.used a (by rw [b];omega);have X:S=j:=by have:=f.ix;omega
   subst X;obtain rfl:v0=y:=aP (f.fl.symm.trans v);have F:=f.ok.page;obtain ⟨p,Z⟩:∃p:Nat,x.page=(p:Int):=⟨x.page.toNat,O_⟩;rw [Z,iP O_] at hv;exact ⟨p,List.mem_filter.2 ⟨List.mem_range.2 O_,by simp;omega⟩,hv⟩
 have P:∀(j:Nat) (y:Fl),C.files[j]?=some y->(ft_ y.c).Nodup:=fun j y v=>by
  refine wP (List.Pairwise.filter _ List.nodup_range) (fun p F q hq he=>?_);have o:=List.mem_filter.1 F;have N:=List.mem_filter.1 hq;have L:=List.mem_range.1 o.1;have O:=List.mem_range.1 N.1;obtain ⟨i,x,a,b,_,c⟩:=d.inv.find j y p v (by rw [iP L];simpa using o.2);obtain ⟨Q,R,a2,U,_,c2⟩:=d.inv.find j y q v (by rw [iP O];simpa using N.2);rw [iP L] at a;rw [iP O] at a2;have m:Q=i:=O_
  subst m;obtain rfl:R=x:=aP (U.symm.trans b);omega
 have I:vN C.files=fW C.frames:=by
  rw [t,<-aQ_]
  show eN r.c+(eN s.c+0)=_
  rw [Nat.add_zero,<-aP_,<-aP_,<-aL_];refine qA ?_ (vF) (fun n=>?_)
  ·refine List.nodup_append.2 ⟨P 0 r w,P 1 s A,fun a ha b V he=>?_⟩;subst he;obtain ⟨i,x,a1,a2,a3⟩:=(u 0 r w a).1 ha;obtain ⟨Q,R,b1,U,b3⟩:=(u 1 s A a).1 V;have m:Q=i:=O_
   subst m;obtain rfl:R=x:=aP (U.symm.trans a2);omega
  ·rw [List.mem_append,u 0 r w,u 1 s A,aR_]
   constructor
   ·rintro (⟨i,x,a,b,c⟩ | ⟨i,x,a,b,c⟩)
    ·exact ⟨i,x,a,b,O_⟩
    ·exact ⟨i,x,a,b,O_⟩
   ·rintro ⟨i,x,a,b,c⟩;obtain ⟨S,v0,f,_⟩:=d.inv.used b c;have hj:=bK f.fl;have h2:=d.inv.nf;have:=f.ix;obtain rfl | rfl:S=0\/S=1:=O_
    ·exact .inl ⟨i,x,a,b,O_⟩
    ·exact .inr ⟨i,x,a,b,O_⟩
 refine ⟨d.inv,d.pts,fun j y v=>?_,?_,fun i x H=>?_,⟨l,g,q1,q2,?_,by rw [q3,J],by rw [<-J,aL_];omega⟩,I⟩
 ·obtain ⟨⟨_,_,b3,b4,b5⟩,b6⟩:=d.fl j y v;have B:=d.inv.file j y v;obtain ⟨s1,s2,s3,s4,s5⟩:=B.st;exact ⟨B.size,s1,fun p F E=>b6 p F (by rw [<-hs j y v];exact E),⟨b3,b4⟩,s5,s4,b5,s2,s3⟩
 ·rw [t]
  show tJ [⟨r.dev,r.slot⟩,⟨s.dev,s.slot⟩]
  rw [f0.1,f0.2.1,f1.1,f1.2.1];exact bJ_
 ·by_cases hf:x.file=-1
  ·refine .inl ⟨d.no i x H hf,?_⟩;obtain ⟨z,hz,Y⟩:=d.free i x H hf;obtain ⟨k,B⟩:=List.getElem?_of_mem hz;exact cw_ B Y
  ·obtain ⟨j,y,f,hv⟩:=d.inv.used H hf;obtain ⟨a1,a2⟩:=d.fr _ _ _ _ f;have G:x.tenant=0:=by have:=d.inv.ten i x H;have:=f.ok.tenant;omega
   have F:=f.ok.page;refine .inr ⟨hf,aM_ (fun k z _ hz Y=>?_),G,j,y,l,?_⟩
   ·obtain ⟨Q,R,c1,c2,c3⟩:=d.inv.free k z hz _ Y;have m:Q=i:=O_
    subst m;obtain rfl:R=x:=aP (c2.symm.trans H);exact hf c3
   ·refine ⟨f,a1.rd,a1.wr,a1.hole,fun hd=>by rw [hs j y f.fl];exact a1.lo hd,fun b V E W=>a1.zero b V (by rw [<-hs j y f.fl];exact E) W,a2.2,?_,by rw [G,q1];rfl,by rw [G,q2];simp,(q4 i).2 ⟨x,H,hf⟩⟩;have h1:D_ y.c x.page=(y.c x.page.toNat).1:=by
     unfold D_;rw [if_pos (mI f.ok)]
    rw [<-h1];exact hv
 ·obtain ⟨k,B⟩:=gv_ d.inv.nk;rw [B,d.clk k (by rw [B];exact .head _)]
end
end
end Go.Proofs.YtehfhnbpnaiogaaGreatDoor
