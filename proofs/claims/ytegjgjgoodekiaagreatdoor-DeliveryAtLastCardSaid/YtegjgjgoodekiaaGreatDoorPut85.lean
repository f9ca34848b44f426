/- timetableref40.Put: its contract: the event laid in, in new memory. -/
import Derived.Test.YtegjgjgoodekiaaGreatDoorQk13
import Derived.Test.YtegjgjgoodekiaaGreatDoorQk12
import Derived.Test.YtegjgjgoodekiaaGreatDoorQk9
import Derived.Deep.CutBlock
open Go.Value renaming int->ja,string->jc,slice->jd
open Go.IntKind renaming i64->jb
open Go.Ending renaming returned->jh
open Go.Obj renaming cells->ji
open List renaming length_append->xa,length_drop->xb,length_take->xc,append_assoc->xd,length_cons->xf,length_nil->xg
open Nat renaming le_refl->xe
namespace Go.Proofs.YtegjgjgoodekiaaGreatDoor
open Go.RowKit
theorem ML(a b:ByteArray)(c:Bool)(h:A4 a b=c):Op.bytesLess a.toList b.toList=c:=h
set_option maxHeartbeats 16000000 in
set_option maxRecDepth 100000 in
theorem UG(e:Ev)(p E:Option Addr)(k1 k2:Nat)(ao:Option Addr)(c:Nat)(ts:List (Ev × Value × Value))(B:Nat)(w:World)(hB:B<=w.heap.size)(hS:Fv B w ao ts)(aj:ao=none->c=0)(aJ:ts.length<=c)(hn:ts.length<=1000000)(_hT:Kj B w (e,(jd p e.days.ex.length k1),(jd E e.days.xt.length k2))):
    Calls Tryz.prog 39 #[jd ao ts.length c,AW e (jd p e.days.ex.length k1) (jd E e.days.xt.length k2)] w fun x w'=> ∃u,x=jh u/\w'.ownsRow w.heap.size 61 13 u (Cx (e,(jd p e.days.ex.length k1),(jd E e.days.xt.length k2)) ts).length (Ap (Cx (e,(jd p e.days.ex.length k1),(jd E e.days.xt.length k2)) ts))/\Below w.heap.size w w':=by
  obtain⟨i0,hi,Y,X,Z⟩:=info_parts Lv;obtain⟨w0,ab⟩: ∃w0,w0=w.alloc (ji (Ae e (jd p e.days.ex.length k1) (jd E e.days.xt.length k2)) 61):=⟨_,rfl⟩
  have aD:w0.heap.size=w.heap.size+1:=by rw[ab];simp
  have al:=Lh (show Af w.heap.size (Ae e (jd p e.days.ex.length k1) (jd E e.days.xt.length k2)) 61 w0 from by rw[ab];exact Af.new w _ _);have aa:=Lh (show Below w.heap.size w w0 from by rw[ab];exact Aa w _);have aw:=Lh (hS.below (aa.o.mono hB));obtain⟨n,hne⟩: ∃n,n=ts.length:=⟨_,rfl⟩
  rw[<-hne]at hn aJ ⊢;have O:=Lh hne;have aX:=Lh aD;have ah:w.heap.size<w0.heap.size:=by omega
  have ak:B<=w0.heap.size:=by omega
  clear hne hS _hT aD;unfold AW;unfold Ae at ab ⊢;have az:=Lh ab;clear ab;go_enter Tryz.func39,Tryz.ntmps39;go_upto_region 1 with(fail);rw[<-az.o];clear az;go_upto_block 0 with fail
  go_cut [5] (fun s5 wx=> ∃k:Nat,s5=ja jb k/\k<=n/\Hid (Gm (e,(jd p e.days.ex.length k1),(jd E e.days.xt.length k2)) ts k)/\Hid (k=n∨ ∃s,ts[k]?=some s/\A4 s.1.uid e.uid=false)/\Hid (Below w0.heap.size w0 wx))
  case first=>
    go_wp2_with fail;go_loopw [5] (fun iv wr=> ∃k:Nat,iv=ja jb k/\k<=n/\Hid (Gm (e,(jd p e.days.ex.length k1),(jd E e.days.xt.length k2)) ts k)/\Hid (Below w0.heap.size w0 wr)) (fun iv _=>n - (intOf iv).toNat)
    case atStart=>exact⟨0,rfl,Nat.zero_le _,Lh (fun j s h=>absurd h (Nat.not_lt_zero _)),Lh (Below.refl _ _)⟩
    case round=>
      obtain⟨k,rfl,hk,HA,R⟩:=hrel;by_cases ay:k<n
      · have af:(k:Int)<n:=by omega
        obtain⟨s,hs⟩: ∃s,ts[k]?=some s:=⟨_,List.getElem?_eq_getElem (by rw[<-O.o];exact ay)⟩
        have aG:=aw.o.below (R.o.mono ak);obtain⟨bo,oo,av,aO,ag⟩: ∃b o,ao=some ⟨b,o,none⟩/\b<B/\ ∀(j:Nat) (u:Value),(Ap ts)[j]?=some u->wr.cell? ⟨b,o+j,none⟩=some u:=by
          rcases aG.at' with h | h
          · rw[h]at hs;simp at hs
          · exact h
        subst av;have c0:=(Mj ag k _ hs).c0;have y0:wr.cell? ⟨w.heap.size,0,none⟩=some (jc e.uid):=Af.cell (al.o.below R.o ah) 0;have HS:=Lh hs;clear ag aG;by_cases hl:A4 s.1.uid e.uid=true
        · have hb:=ML _ _ _ hl;have ae:=Lh (show Gm (e,(jd p e.days.ex.length k1),(jd E e.days.xt.length k2)) ts (k+1)from fun j u hj hu=>by
            rcases Nat.lt_or_eq_of_le (Nat.le_of_lt_succ hj)with h | h
            · exact HA.o j u h hu
            · subst h;rw[HS.o]at hu;cases hu;exact hl)
          clear hl hs;go_wp2_with fail;go_quiet (fail)
          go_wp2_with fail;go_roundw
          case rel=>exact⟨k+1,by go_num,by omega,ae,Lh (below_drewN R.o _)⟩
          case measure=>simp[intOf];omega
        · have hl:A4 s.1.uid e.uid=false:=by simpa using hl
          have hb:=ML _ _ _ hl;have HC:=Lh (show k=n∨ ∃s,ts[k]?=some s/\A4 s.1.uid e.uid=false from .inr ⟨s,HS.o,hl⟩);clear hl hs;go_wp2_with fail;go_quiet (fail)
          go_wp2_with fail;go_meet;exact⟨k,rfl,hk,HA,HC,Lh (below_drewN R.o _)⟩
      · have af: ¬(k:Int)<n:=by omega
        have ac:k=n:=by omega
        have HC:=Lh (show k=n∨ ∃s,ts[k]?=some s/\A4 s.1.uid e.uid=false from .inl ac);clear ac;go_wp2_with fail;go_quiet (fail)
        go_wp2_with fail;go_meet;exact⟨k,rfl,hk,HA,HC,Lh (below_drewN R.o _)⟩
  case rest=>
    obtain⟨k,rfl,hk,HA,HC,R⟩:=hcut;have aB:=R.o.size;have HB:=Lh (al.o.below R.o ah);have HG:=Lh (aw.o.below (R.o.mono ak));have aI:B<=wc.heap.size:=by omega
    have ap:=Lh (show(ts.take k).length=k from by rw[xc,<-O.o];omega);have aC:=Lh (show k<=ts.length from by rw[<-O.o];exact hk);have aV:(k:Int)<=n:=by omega
    have aU:(k:Int)<=c:=by omega
    go_wp2_with fail;go_cut [6] (fun s6 wx=> ∃v6,s6=v6/\Hid (wx.ownsRow w0.heap.size 61 13 v6 (k+1) (Ap (ts.take k)++(Ae e (jd p e.days.ex.length k1) (jd E e.days.xt.length k2)).toList))/\Hid (Below w0.heap.size w0 wx))
    case first=>
      have aW:=fun x (qz:gB wc x)=>((Made.mk qz).blk HB.o).ev.all
      refine AH GR.below 6 [gE _,gE _,gE _,fun _ u x=> ∃(v3:Value),u=v3/\x.ownsRow w0.heap.size 61 13 v3 k (Ap (ts.take k)),gE _,fun _ u x=> ∃(g:Nat),u=jd (some ⟨g,0,none⟩) 1 1/\wc.heap.size<=g/\Af g (Ae e (jd p e.days.ex.length k1) (jd E e.days.xt.length k2)) 61 x] rfl EA ⟨qE,qE,qE,by
        intro v x qz h QQ K;have HS:=Lh (Made.mk qz);simp only[A2,A1]at h;obtain⟨⟨_,e2,_⟩, -⟩:=h;simp only[e2]at K ⊢;go_wp2_with (at_builtin;refine A5 rfl (.const (jd none 0 0)) (.tmp 25) 39 rfl w0.heap.size i0 _ 160 Tryz.underlying39 hi Y X Z rfl (jd none 0 0) 0 [] rfl (World.ownsRow_nil _ _ _ _) B ao c (ts.take k) (by rw[ap.o];rfl) ((HG.o.below (HS.o.below.mono aI)).take k aC.o) aj (by rw[ap.o];unfold maxLen;omega) (by rw[ap.o];omega) (by have:=HS.o.below.size;omega) ?_);intro v3 x1 ai A _;have aL:gB x x1:=(⟨A.os,A.tape,A.output,A.size,fun j hj=>A.block j hj (by simp[Value.ownBlock])⟩)
        have aM:=Lh (show x1.ownsRow w0.heap.size 61 13 v3 k (Ap (ts.take k))from by simpa[Nat.min_eq_left aC.o]using ai);clear ai A;go_wp2_with fail;exact K _ _ ⟨_,rfl,aM.o⟩ (.inr aL),
        qE,by
        intro v x qz h QQ K;have HS:=Lh (Made.mk qz);simp only[A2,A1]at h;obtain⟨⟨_,e4,_⟩, -⟩:=h;simp only[e4]at K ⊢;go_wp2_with fail;exact K _ _ ⟨_,rfl,HS.o.below.size,Af.new x _ _⟩ (.inr (Aa x _)),
        trivial⟩ ?_
      intro v x qz h;have HS:=Lh (Made.mk qz);simp only[Dt,Nat.reduceAdd]at h;obtain⟨-, -, -,⟨aS,⟨aZ,e3,U⟩,z3⟩, -,⟨ba,⟨g5,e5,aA,V⟩,z5⟩, -⟩:=h;have U:=Ay U z3;have V:=V.below z5 V.lt;refine DE fun QQ aF=>?_
      have HQ:=Lh aF;clear aF;simp only[e3,e5,Ci];go_wp2_with (at_builtin;refine wpList_append_own_at _ rfl (.tmp 26) (.tmp 28) 39 rfl w0.heap.size 61 i0 _ 13 160 Tryz.underlying39 hi Y X Z rfl (by decide) _ _ _ rfl U ⟨g5,0,none⟩ 1 1 _ rfl rfl (Bd V) (CB _ _ _ _ _ _ _) (by unfold maxLen;omega) (by omega) (by have:=HS.o.below.size;omega) ?_);intro v' x8 D A _ aP;have F:=Lh (Ak (R.o.trans (HS.o.below.mono aB)) U (xe _) (by have:=HS.o.below.size;omega) A);have J:=Lh D;clear A D aP U aA V;go_wp2_with fail;rw[HQ.o];refine Cm (fun x=> ∃v6,(_:Value)=v6/\x.ownsRow w0.heap.size 61 13 v6 (k+1) (Ap (ts.take k)++(Ae e (jd p e.days.ex.length k1) (jd E e.days.xt.length k2)).toList)/\Below w0.heap.size w0 x) (by exact⟨_,rfl,J.o,F.o⟩) ?_;clear HQ;intro x am;obtain⟨v6,⟨⟩,p1,E⟩:=am;go_wp2_with fail;go_meet;exact⟨_,rfl,Lh p1,Lh E⟩
    case rest=>
      clear HB HG R aB aI;obtain⟨v6,rfl,HR,R⟩:=hcut;have M:=R.o.size;have HG:=Lh (aw.o.below (R.o.mono ak));have y0:wc.cell? ⟨w.heap.size,0,none⟩=some (jc e.uid):=Af.cell (al.o.below R.o ah) 0;go_wp2_with fail;rcases HC.o with ac | ⟨s,hs,hl⟩
      · have af: ¬(k:Int)<n:=by omega
        have T:=Lh (show Cx (e,(jd p e.days.ex.length k1),(jd E e.days.xt.length k2)) ts=ts.take k++(e,(jd p e.days.ex.length k1),(jd E e.days.xt.length k2))::ts.drop k from by
          have h:k=ts.length:=by rw[<-O.o];exact ac
          rw[h,List.take_length,List.drop_length];exact IZ (e,(jd p e.days.ex.length k1),(jd E e.days.xt.length k2)) ts (by rw[<-h];exact HA.o))
        have HE:=Lh (show ts.drop k=[]from List.drop_eq_nil_of_le (by rw[<-O.o];omega));go_quiet (fail)
        cases ao with
        | none=>
          have aK:=aj rfl;subst aK;have aN:n=0:=by omega
          subst aN;have aQ:k=0:=by omega
          subst aQ;clear ac;have H:0+1+0<=maxLen:=by unfold maxLen;omega
          have G:(0+1+0)*160<=140737488355328:=by omega
          go_wp2_with (at_builtin;refine A5 rfl (.tmp 46) (.tmp 49) 39 rfl w0.heap.size i0 _ 160 Tryz.underlying39 hi Y X Z rfl _ (0+1) _ rfl HR.o B none 0 [] rfl (Fv.nil _ _ _) (by intro h;first | rfl | cases h) H G M ?_);intro v' x8 D A _;have F:=Lh (Ak R.o HR.o (xe _) M ⟨A.os,A.tape,A.output,A.size,A.block⟩);have J:=Lh D;clear A D;go_wp2_with fail;go_ret;refine⟨v',rfl,?_,aa.o.trans (F.o.mono (by omega))⟩;rw[T.o,AR,show(e,(jd p e.days.ex.length k1),(jd E e.days.xt.length k2))::ts.drop 0=[(e,(jd p e.days.ex.length k1),(jd E e.days.xt.length k2))]++ts.drop 0 from rfl,AR,BA,<-xd,xa,xa,xc,xb,Nat.min_eq_left (by rw[<-O.o];omega)];have h:=Ab J.o (show w.heap.size<=w0.heap.size by omega);rw[HE.o];have hN:=O.o;refine(cast ?_ h);congr 1
          all_goals first
            | (simp only[xf,xg];omega)
            | (have hq:n=0:=by omega
               simp[Ap,hq])
        | some ad=>
          obtain⟨bo,oo,sp⟩:=ad;by_cases ax:c=k
          · subst ax;have H:c+1+0<=maxLen:=by unfold maxLen;omega
            have G:(c+1+0)*160<=140737488355328:=by omega
            go_wp2_with (at_builtin;refine A5 rfl (.tmp 46) (.tmp 49) 39 rfl w0.heap.size i0 _ 160 Tryz.underlying39 hi Y X Z rfl _ (c+1) _ rfl HR.o B _ _ [] rfl (Fv.nil _ _ _) (by intro h;first | rfl | cases h) H G M ?_);intro v' x8 D A _;have F:=Lh (Ak R.o HR.o (xe _) M ⟨A.os,A.tape,A.output,A.size,A.block⟩);have J:=Lh D;clear A D;go_wp2_with fail;go_ret;refine⟨v',rfl,?_,aa.o.trans (F.o.mono (by omega))⟩;rw[T.o,AR,show(e,(jd p e.days.ex.length k1),(jd E e.days.xt.length k2))::ts.drop c=[(e,(jd p e.days.ex.length k1),(jd E e.days.xt.length k2))]++ts.drop c from rfl,AR,BA,<-xd,xa,xa,xc,xb,Nat.min_eq_left (by rw[<-O.o];omega)];have h:=Ab J.o (show w.heap.size<=w0.heap.size by omega);rw[HE.o];have hN:=O.o;refine(cast ?_ h);congr 1
            all_goals first
              | (simp only[xf,xg];omega)
              | (have hq:n=c:=by omega
                 simp[Ap,hq])
          · have aE:k<c:=by omega
            have H:k+1+0<=maxLen:=by unfold maxLen;omega
            have G:(k+1+0)*160<=140737488355328:=by omega
            go_wp2_with (at_builtin;refine A5 rfl (.tmp 46) (.tmp 49) 39 rfl w0.heap.size i0 _ 160 Tryz.underlying39 hi Y X Z rfl _ (k+1) _ rfl HR.o B _ _ [] rfl (Fv.nil _ _ _) (by intro h;first | rfl | cases h) H G M ?_);intro v' x8 D A _;have F:=Lh (Ak R.o HR.o (xe _) M ⟨A.os,A.tape,A.output,A.size,A.block⟩);have J:=Lh D;clear A D;go_wp2_with fail;go_ret;refine⟨v',rfl,?_,aa.o.trans (F.o.mono (by omega))⟩;rw[T.o,AR,show(e,(jd p e.days.ex.length k1),(jd E e.days.xt.length k2))::ts.drop k=[(e,(jd p e.days.ex.length k1),(jd E e.days.xt.length k2))]++ts.drop k from rfl,AR,BA,<-xd,xa,xa,xc,xb,Nat.min_eq_left (by rw[<-O.o];omega)];have h:=Ab J.o (show w.heap.size<=w0.heap.size by omega);rw[HE.o];have hN:=O.o;refine(cast ?_ h);congr 1
            all_goals first
              | (simp only[xf,xg];omega)
              | (have hq:n=k:=by omega
                 simp[Ap,hq])
      · have ay:k<n:=by rw[O.o];exact(List.getElem?_eq_some_iff.1 hs).1
        have af:(k:Int)<n:=by omega
        obtain⟨bo,oo,av,aO,ag⟩: ∃b o,ao=some ⟨b,o,none⟩/\b<B/\ ∀(j:Nat) (u:Value),(Ap ts)[j]?=some u->wc.cell? ⟨b,o+j,none⟩=some u:=by
          rcases HG.o.at' with h | h
          · rw[h]at hs;simp at hs
          · exact h
        subst av;have c0:=(Mj ag k _ hs).c0;have HS:=Lh hs;have aH:=Lh hl;clear ag hl hs;by_cases he:s.1.uid=e.uid
        · have hb:(s.1.uid.toList==e.uid.toList)=true:=by rw[he];simp
          have T:=Lh (show Cx (e,(jd p e.days.ex.length k1),(jd E e.days.xt.length k2)) ts=ts.take k++(e,(jd p e.days.ex.length k1),(jd E e.days.xt.length k2))::ts.drop (k+1)from G0 (e,(jd p e.days.ex.length k1),(jd E e.days.xt.length k2)) ts k s HA.o HS.o aH.o he);clear he;go_quiet (fail);have aR:((k:Int)+1).toNat=k+1:=by omega
          have a7:IntKind.i64.wrap ((k:Int)+1)=(k:Int)+1:=by rw[IntKind.wrap_i64];omega
          have a8:(0:Int)<=(k:Int)+1:=by omega
          have aY:(k:Int)+1<=n:=by omega
          have a6:k+1<=n:=by omega
          by_cases ax:c=k+1
          · have HE:=Lh (show ts.drop (k+1)=[]from List.drop_eq_nil_of_le (by rw[<-O.o];omega));have aT:n=k+1:=by omega
            have H:k+1+0<=maxLen:=by unfold maxLen;omega
            have G:(k+1+0)*160<=140737488355328:=by omega
            go_wp2_with (at_builtin;refine A5 rfl (.tmp 46) (.tmp 49) 39 rfl w0.heap.size i0 _ 160 Tryz.underlying39 hi Y X Z rfl _ (k+1) _ rfl HR.o B _ _ [] rfl (Fv.nil _ _ _) (by intro h;first | rfl | cases h) H G M ?_);intro v' x8 D A _;have F:=Lh (Ak R.o HR.o (xe _) M ⟨A.os,A.tape,A.output,A.size,A.block⟩);have J:=Lh D;clear A D;go_wp2_with fail;go_ret;refine⟨v',rfl,?_,aa.o.trans (F.o.mono (by omega))⟩;rw[T.o,AR,show(e,(jd p e.days.ex.length k1),(jd E e.days.xt.length k2))::ts.drop (k+1)=[(e,(jd p e.days.ex.length k1),(jd E e.days.xt.length k2))]++ts.drop (k+1)from rfl,AR,BA,<-xd,xa,xa,xc,xb,Nat.min_eq_left (by rw[<-O.o];omega)];have h:=Ab J.o (show w.heap.size<=w0.heap.size by omega);rw[HE.o];have hN:=O.o;refine(cast ?_ h);congr 1
            all_goals first
              | (simp only[xf,xg];omega)
              | simp[Ap]
          · have aE:k+1<c:=by omega
            have H:k+1+(ts.drop (k+1)).length<=maxLen:=by rw[xb,<-O.o];unfold maxLen;omega
            have G:(k+1+(ts.drop (k+1)).length)*160<=140737488355328:=by rw[xb,<-O.o];omega
            have ar:=Lh H;have ae:=Lh G;have aq:=Lh (show(ts.drop (k+1)).length=n - (k+1)from by rw[xb,<-O.o]);clear H G;have au:=Lh (HG.o.drop (k+1) (by rw[<-O.o];omega));go_wp2_with (at_builtin;refine A5 rfl (.tmp 46) (.tmp 49) 39 rfl w0.heap.size i0 _ 160 Tryz.underlying39 hi Y X Z rfl _ (k+1) _ rfl HR.o B (some ⟨bo,oo+(k+1)*13,none⟩) (c - (k+1)) (ts.drop (k+1)) (by rw[aq.o];rfl) (au.o.below (below_drewN (Below.refl _ _) _)) (by intro h;cases h) ar.o ae.o M ?_);intro v' x8 D A _;have F:=Lh (Ak R.o HR.o (xe _) M ⟨A.os,A.tape,A.output,A.size,A.block⟩);have J:=Lh D;clear A D;go_wp2_with fail;go_ret;refine⟨v',rfl,?_,aa.o.trans (F.o.mono (by omega))⟩;rw[T.o,AR,show(e,(jd p e.days.ex.length k1),(jd E e.days.xt.length k2))::ts.drop (k+1)=[(e,(jd p e.days.ex.length k1),(jd E e.days.xt.length k2))]++ts.drop (k+1)from rfl,AR,BA,<-xd,xa,xa,xc,xb,Nat.min_eq_left (by rw[<-O.o];omega)];have h:=Ab J.o (show w.heap.size<=w0.heap.size by omega);exact h
        · have hb:(s.1.uid.toList==e.uid.toList)=false:=by
            rw[beq_eq_false_iff_ne];intro h;rw[Lib.toList_data,Lib.toList_data]at h;exact he (ByteArray.ext (Array.toList_inj.mp h))
          have T:=Lh (show Cx (e,(jd p e.days.ex.length k1),(jd E e.days.xt.length k2)) ts=ts.take k++(e,(jd p e.days.ex.length k1),(jd E e.days.xt.length k2))::ts.drop k from IX (e,(jd p e.days.ex.length k1),(jd E e.days.xt.length k2)) ts k s HA.o HS.o aH.o he);clear he;have ax: ¬c=k:=by omega
          go_quiet (fail)
          have H:k+1+(ts.drop k).length<=maxLen:=by rw[xb,<-O.o];unfold maxLen;omega
          have G:(k+1+(ts.drop k).length)*160<=140737488355328:=by rw[xb,<-O.o];omega
          have ar:=Lh H;have ae:=Lh G;have aq:=Lh (show(ts.drop k).length=n - k from by rw[xb,<-O.o]);clear H G;have au:=Lh (HG.o.drop k (by rw[<-O.o];omega));go_wp2_with (at_builtin;refine A5 rfl (.tmp 46) (.tmp 49) 39 rfl w0.heap.size i0 _ 160 Tryz.underlying39 hi Y X Z rfl _ (k+1) _ rfl HR.o B (some ⟨bo,oo+k*13,none⟩) (c - k) (ts.drop k) (by rw[aq.o];rfl) (au.o.below (below_drewN (Below.refl _ _) _)) (by intro h;cases h) ar.o ae.o M ?_);intro v' x8 D A _;have F:=Lh (Ak R.o HR.o (xe _) M ⟨A.os,A.tape,A.output,A.size,A.block⟩);have J:=Lh D;clear A D;go_wp2_with fail;go_ret;refine⟨v',rfl,?_,aa.o.trans (F.o.mono (by omega))⟩;rw[T.o,AR,show(e,(jd p e.days.ex.length k1),(jd E e.days.xt.length k2))::ts.drop k=[(e,(jd p e.days.ex.length k1),(jd E e.days.xt.length k2))]++ts.drop k from rfl,AR,BA,<-xd,xa,xa,xc,xb,Nat.min_eq_left (by rw[<-O.o];omega)];have h:=Ab J.o (show w.heap.size<=w0.heap.size by omega);exact h
