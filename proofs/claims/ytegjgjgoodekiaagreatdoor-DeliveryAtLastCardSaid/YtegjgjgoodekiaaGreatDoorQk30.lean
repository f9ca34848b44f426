/- Deliveries: Valid. Condition: none. Deliveries: the map of the steps. No function of the program in sight. Condition: none. Deliveries: a method of the machine. Condition: none. Deliveries: a method of the machine. Condition: none. Deliveries: a method of the machine. Condition: none. Deliveries: a method of the machine. Condition: none. Deliveries: a method of the machine. Condition: none. -/
import Derived.Test.YtegjgjgoodekiaaGreatDoorQk29
import Derived.Maps.OwnOps
import Derived.Maps.Views
open Go.Value renaming int->ja,string->jc,slice->jd,bool->je,pointer->jf,tuple->jg
open Go.IntKind renaming i64->jb
open Go.Ending renaming returned->jh
open Go.Obj renaming cells->ji
open List renaming getElem?_eq_getElem->xa,length_map->xc,mem_of_getElem?->xd,take_succ_eq_append_getElem->xh,getElem?_eq_some_iff->xi,take_of_length_le->xj
open Nat renaming le_trans->xb,zero_add->xf,le_refl->xg,zero_le->xk
open Int renaming toNat_natCast->xe
set_option maxRecDepth 100000
set_option maxHeartbeats 40000000
namespace Go.Proofs.YtegjgjgoodekiaaGreatDoor
open Go.RowKit
theorem CE{W:A3}(h: ¬BF W):FR W=false:=by
 cases hv:FR W
 ·rfl
 ·exact absurd ((CN W).1 hv) h
theorem DU(k:Nat)(m:Hl):CM k m=true ↔ 0<=m.rd/\m.rd<(k:Int)/\(m.ans=true∨m.body=⟨#[]⟩):=by
 unfold CM;simp only[Bool.and_eq_true,Bool.or_eq_true,decide_eq_true_eq]
theorem LV(W:A3)(aw ar:Option Addr)(cw cr:Nat)(xs:List BZ)(w:World)(hA:Pr w.heap.size w W aw cw ar cr xs)(hG:Eu w)(ba:W.way.length<=4611686018427387903)(aM:W.rds.length<=4611686018427387903)(ay: ∀x∈xs,x.ts.length<=4611686018427387903):
  Calls Tryz.prog 21 #[.agg (DD W aw cw ar cr)] w fun e w'=>e=jh (je (FR W))/\Below w.heap.size w w':=by
 obtain⟨W0,Z⟩: ∃W0,W0=w.alloc (ji #[jc W.zone,jc W.cur,jd aw W.way.length cw,jd ar W.rds.length cr] 32):=⟨_,rfl⟩
 obtain⟨P,hP⟩: ∃P,P=w.heap.size:=⟨_,rfl⟩
 have D:=Lh (show Below w.heap.size w W0 from by rw[Z];exact Aa w _);have R:=Lh (show Af P (DD W aw cw ar cr) 32 W0 from by rw[Z,hP];exact Af.new w _ _);have HA:=Lh hA;have aE:=Lh (hG.made D.o);have aP:=Lh ay;have aT:=Lh (show xs.length=W.rds.length from by rw[<-hA.rmap,xc]);obtain⟨n,hn⟩: ∃n,n=W.way.length:=⟨_,rfl⟩
 obtain⟨m,hm⟩: ∃m,m=W.rds.length:=⟨_,rfl⟩
 have HN:=Lh hn;have HM:=Lh hm;unfold DD;rw[<-hn]at Z ba ⊢;rw[<-hm]at Z aM ⊢;have c0:W0.cell? ⟨P,0,none⟩=some (jc W.zone):=R.o.cell 0;have c1:W0.cell? ⟨P,1,none⟩=some (jc W.cur):=R.o.cell 1;have c2:W0.cell? ⟨P,2,none⟩=some (jd aw n cw):=by rw[hn];exact R.o.cell 2
 have c3:W0.cell? ⟨P,3,none⟩=some (jd ar m cr):=by rw[hm];exact R.o.cell 3
 have Y:=Lh (BV W.zone);obtain⟨C,hC⟩: ∃C,C=Tt.code W.zone.data.toList:=⟨_,rfl⟩
 have HC:=Lh hC;rw[<-hC]at Y;clear hA hG ay hn hm hC;go_enter Tryz.func21,Tryz.ntmps21;go_upto_region 1 with(fail);rw[<-Z,<-hP];have bc:=Lh hP;clear Z hP;cases C
 ·have F:=Lh (CE (W:=W) (fun h=>by have:=h.zone;rw[<-HC.o]at this;cases this));go_wp2_with fail;refine(Y.o _).mono ?_;rintro e w1 ⟨rfl,U⟩;rw[U];clear U w1;go_wp2_with fail;go_ret;exact⟨Ag F.o.symm,D.o⟩
 ·by_cases J:64<(n:Int)
  ·have aK:decide (64<(n:Int))=true:=decide_eq_true J;have F:=Lh (CE (W:=W) (fun h=>by have:=h.way;have:=HN.o;omega));go_wp2_with fail;refine(Y.o _).mono ?_;rintro e w1 ⟨rfl,U⟩;rw[U];clear U w1;go_wp2_with fail;go_ret;exact⟨Ag F.o.symm,D.o⟩
  ·have aK:decide (64<(n:Int))=false:=decide_eq_false J;by_cases h2:(m:Int)<1
   ·have aL:decide ((m:Int)<1)=true:=decide_eq_true h2;have F:=Lh (CE (W:=W) (fun h=>by have:=h.one;have:=HM.o;omega));go_wp2_with fail;refine(Y.o _).mono ?_;rintro e w1 ⟨rfl,U⟩;rw[U];clear U w1;go_wp2_with fail;go_ret;exact⟨Ag F.o.symm,D.o⟩
   ·have aL:decide ((m:Int)<1)=false:=decide_eq_false h2;by_cases h3:24<(m:Int)
    ·have a6:decide (24<(m:Int))=true:=decide_eq_true h3;have F:=Lh (CE (W:=W) (fun h=>by have:=h.few;have:=HM.o;omega));go_wp2_with fail;refine(Y.o _).mono ?_;rintro e w1 ⟨rfl,U⟩;rw[U];clear U w1;go_wp2_with fail;go_ret;exact⟨Ag F.o.symm,D.o⟩
    ·have a6:decide (24<(m:Int))=false:=decide_eq_false h3;go_upto_if 33 with(first | (go_at_call 18;refine(Y.o _).mono ?_;rintro e w1 ⟨rfl,U⟩;rw[U];clear U w1))
     go_cut []from 33 to 43 (fun wx=>Hid (Below W0.heap.size W0 wx)/\Hid (W.cur=⟨#[]⟩∨(Al W.cur W.zone).2=0))
     case first=>
      by_cases aa:W.cur=⟨#[]⟩
      ·have hne:W.cur.toList.isEmpty=true:=by rw[aa,Lib.toList_data];rfl
       rw[hne];clear hne;have aq:=Lh aa;clear aa;go_wp2_with fail;go_meet;exact⟨Lh (Below.refl _ _),Lh (.inl aq.o)⟩
      ·have hne:W.cur.toList.isEmpty=false:=Fi aa;rw[hne];have aq:=Lh aa;have aR:=Lh (N3 W.cur W.zone HC.o.symm W0 aE.o);clear aa;go_wp2_with fail;refine aR.o.mono ?_;rintro e w1 ⟨pu,cu,ts,rfl, -, -,hb1⟩;obtain⟨E,hE⟩: ∃E,E=(Al W.cur W.zone).2:=⟨_,rfl⟩
       rw[<-hE];have aC:=Lh hE;clear hE;by_cases ai:E=0
       ·subst ai;have au:=hb1.alloc hb1.size (ji #[Value.string (Al W.cur W.zone).1.1,ja jb (Al W.cur W.zone).1.2.1,Value.slice pu ts.length cu] 41);go_wp2_with fail;go_meet;exact⟨Lh au,Lh (.inr aC.o.symm)⟩
       ·have bf:(E==0)=false:=by simp[ai]
        have F:=Lh (CE (W:=W) (fun h=>by
         rcases h.cur with h | h
         ·exact aq.o h
         ·rw[<-aC.o]at h;exact ai h))
        have au:=D.o.trans ((hb1.alloc hb1.size (ji #[Value.string (Al W.cur W.zone).1.1,ja jb (Al W.cur W.zone).1.2.1,Value.slice pu ts.length cu] 41)).mono D.o.size);go_wp2_with fail;go_ret;exact⟨Ag F.o.symm,au⟩
     case rest=>
      obtain⟨am,aZ⟩:=hcut;have O:=Lh (R.o.below am.o R.o.lt);have ab:=Lh (D.o.trans (am.o.mono D.o.size));obtain⟨W1,aH⟩: ∃W1,W1=wc:=⟨_,rfl⟩
      rw[<-aH]at O ab ⊢;clear aH c0 c1 c2 c3 R D am aE;have c2:W1.cell? ⟨P,2,none⟩=some (jd aw n cw):=by rw[HN.o];exact O.o.cell 2
      go_wp2_with fail;go_loopw [47] (fun iv wr=> ∃(k:Nat),iv=ja jb k/\k<=n/\Hid ((W.way.take k).all (CM m)=true)/\Hid (Below W1.heap.size W1 wr)) (fun iv _=>n - (intOf iv).toNat)
      case atStart=>exact⟨0,rfl,xk _,Lh rfl,Lh (Below.refl _ _)⟩
      case round=>
       obtain⟨k,rfl,hk,af,ac⟩:=hrel;have M:=Lh (ab.o.trans (ac.o.mono ab.o.size));have ax:=Lh (O.o.below ac.o O.o.lt);clear c2;by_cases aX:k<n
       ·have aG:(k:Int)<n:=by omega
        obtain⟨x,hx⟩: ∃x,W.way[k]?=some x:=⟨_,xa (by rw[<-HN.o];exact aX)⟩
        have ap:=Lh hx;have ag:=Lh (show W.way.take (k+1)=W.way.take k++[x]from by
         obtain⟨J,h2⟩:=xi.1 hx;rw[xh J,h2])
        obtain⟨gw,ow,al,aQ,hcell⟩:=Rd.get AV (HA.o.way.below M.o) hx;subst al;have k0:wr.cell? ⟨gw,ow+k*4,none⟩=some (ja jb x.rd):=hcell 0 _ (by omega) rfl;have k1:wr.cell? ⟨gw,ow+k*4+1,none⟩=some (je x.ans):=hcell 1 _ (by omega) rfl;have k2:wr.cell? ⟨gw,ow+k*4+2,none⟩=some (ja jb x.tag):=hcell 2 _ (by omega) rfl;have k3:wr.cell? ⟨gw,ow+k*4+3,none⟩=some (jc x.body):=hcell 3 _ (by omega) rfl;obtain⟨T,hT⟩: ∃T,T=wr.heap.size:=⟨_,rfl⟩
        obtain⟨X,hX⟩: ∃X,X=wr.alloc (ji #[ja jb x.rd,je x.ans,ja jb x.tag,jc x.body] 107):=⟨_,rfl⟩
        have G:=Lh (show Af T #[ja jb x.rd,je x.ans,ja jb x.tag,jc x.body] 107 X from by rw[hX,hT];exact Af.new wr _ _);have H:=Lh (show Below W1.heap.size W1 X from by rw[hX];exact ac.o.alloc ac.o.size _);have av:=Lh (ab.o.trans (H.o.mono ab.o.size));have aO:=Lh (O.o.below H.o O.o.lt);go_upto_region 10 with(fail);rw[<-hX,<-hT];clear hX hT hcell hx k0 k1 k2 k3;have t0:X.cell? ⟨T,0,none⟩=some (ja jb x.rd):=G.o.cell 0;have t1:X.cell? ⟨T,1,none⟩=some (je x.ans):=G.o.cell 1;have t3:X.cell? ⟨T,3,none⟩=some (jc x.body):=G.o.cell 3;have p3:X.cell? ⟨P,3,none⟩=some (jd ar m cr):=by rw[HM.o];exact aO.o.cell 3
        by_cases m1:x.rd<0
        ·have a7:decide (x.rd<0)=true:=decide_eq_true m1;have F:=Lh (CE (W:=W) (fun h=>by
          have J:=(DU _ x).1 (h.msg x (xd ap.o));rw[<-HM.o]at J;omega))
         go_wp2_with fail;go_ret;exact⟨Ag F.o.symm,av.o⟩
        ·have a7:decide (x.rd<0)=false:=decide_eq_false m1;by_cases m2:(m:Int)<=x.rd
         ·have aV:decide ((m:Int)<=x.rd)=true:=decide_eq_true m2;have F:=Lh (CE (W:=W) (fun h=>by
           have J:=(DU _ x).1 (h.msg x (xd ap.o));rw[<-HM.o]at J;omega))
          go_wp2_with fail;go_ret;exact⟨Ag F.o.symm,av.o⟩
         ·have aV:decide ((m:Int)<=x.rd)=false:=decide_eq_false m2;obtain⟨A,hA⟩: ∃A,A=x.ans:=⟨_,rfl⟩
          rw[<-hA]at t1;have aD:=Lh hA;clear hA;cases A
          ·by_cases m3:x.body=⟨#[]⟩
           ·rw[m3]at t3;have ak:=Lh m3;clear m3;have hall:=Lh (show(W.way.take (k+1)).all (CM m)=true from by rw[ag.o,List.all_append,af.o];simp only[List.all_cons,List.all_nil,Bool.and_true,Bool.true_and];exact(DU m x).2 ⟨by omega,by omega,.inr ak.o⟩);go_wp2_with fail;go_roundw
            case rel=>exact⟨k+1,by go_num,by omega,hall,H⟩
            case measure=>simp[intOf];omega
           ·have hne:x.body.toList.isEmpty=false:=Fi m3;have ak:=Lh m3;clear m3;have F:=Lh (CE (W:=W) (fun h=>by
             have J:=(DU _ x).1 (h.msg x (xd ap.o));rw[<-HM.o]at J;rcases J.2.2 with h2 | h2
             ·rw[<-aD.o]at h2;cases h2
             ·exact ak.o h2))
            go_wp2_with fail;go_ret;exact⟨Ag F.o.symm,av.o⟩
          ·skip
           have hall:=Lh (show(W.way.take (k+1)).all (CM m)=true from by rw[ag.o,List.all_append,af.o];simp only[List.all_cons,List.all_nil,Bool.and_true,Bool.true_and];exact(DU m x).2 ⟨by omega,by omega,.inl aD.o.symm⟩);go_wp2_with fail;go_roundw
           case rel=>exact⟨k+1,by go_num,by omega,hall,H⟩
           case measure=>simp[intOf];omega
       ·have aG: ¬(k:Int)<n:=by omega
        have aW:=Lh (show W.way.all (CM m)=true from by have h:=af.o;rw[xj (by rw[<-HN.o];omega)]at h;exact h);have p3:wr.cell? ⟨P,3,none⟩=some (jd ar m cr):=by rw[HM.o];exact ax.o.cell 3
        have a8:xs.length=m:=by rw[aT.o,HM.o]
        clear af;go_wp2_with fail;obtain⟨W2,aJ⟩: ∃W2,W2=wr:=⟨_,rfl⟩
        rw[<-aJ]at M ax ⊢;clear aJ p3 O ab ac;go_loopw [76] (fun iv wr=> ∃(k:Nat),iv=ja jb k/\k<=m/\Hid ((W.rds.take k).all (fun r=>Cw r.v r.es)=true)/\Hid (Below W2.heap.size W2 wr)) (fun iv _=>m - (intOf iv).toNat)
        case atStart=>exact⟨0,rfl,xk _,Lh rfl,Lh (Below.refl _ _)⟩
        case round=>
         obtain⟨k2,rfl,be,ah,ae⟩:=hrel;have V:=Lh (M.o.trans (ae.o.mono M.o.size));by_cases hlt2:k2<m
         ·have aj:(k2:Int)<m:=by omega
          obtain⟨x,hx⟩: ∃x,xs[k2]?=some x:=⟨_,xa (by rw[a8];exact hlt2)⟩
          have aA:=Lh (Fg HA.o.rmap hx);have ag:=Lh (show W.rds.take (k2+1)=W.rds.take k2++[x.r]from by
           obtain⟨J,h2⟩:=xi.1 aA.o;rw[xh J,h2])
          obtain⟨gw,ow,al,aQ,hcell⟩:=Rd.get Cs (HA.o.rds.row.below V.o) hx;have az:=Lh ((HA.o.rds.seg x (xd hx)).below V.o);have aU:=aP.o x (xd hx);subst al;have k0:wr.cell? ⟨gw,ow+k2*3,none⟩=some (ja jb x.v):=hcell 0 _ (by omega) rfl;have k1:wr.cell? ⟨gw,ow+k2*3+1,none⟩=some (ja jb x.tag):=hcell 1 _ (by omega) rfl;have aN:wr.cell? ⟨gw,ow+k2*3+2,none⟩=some (jd x.ao x.ts.length x.c):=hcell 2 _ (by omega) rfl;obtain⟨T,hT⟩: ∃T,T=wr.heap.size:=⟨_,rfl⟩
          obtain⟨X,hX⟩: ∃X,X=wr.alloc (ji #[ja jb x.v,ja jb x.tag,jd x.ao x.ts.length x.c] 47):=⟨_,rfl⟩
          have G:=Lh (show Af T #[ja jb x.v,ja jb x.tag,jd x.ao x.ts.length x.c] 47 X from by rw[hX,hT];exact Af.new wr _ _);have H:=Lh (show Below W2.heap.size W2 X from by rw[hX];exact ae.o.alloc ae.o.size _);have aS:=Lh (az.o.below (show Below w.heap.size wr X from by rw[hX];exact(Below.refl _ wr).alloc V.o.size _));have aB:Hid (Calls Tryz.prog 44 #[.agg #[ja jb x.v,ja jb x.tag,jd x.ao x.ts.length x.c]] X fun e w'=>e=jh (je (Cw x.v (x.ts.map (·.1))))/\Below X.heap.size X w'):=Lh (by
           have h:=ON x.v x.tag (x.ts.map (·.1)) x.ao x.c w.heap.size X (xb M.o.size H.o.size) aS.o.evs (by rw[xc];exact aU);rw[xc]at h;exact h)
          have t0:X.cell? ⟨T,0,none⟩=some (ja jb x.v):=G.o.cell 0;have t1:X.cell? ⟨T,1,none⟩=some (ja jb x.tag):=G.o.cell 1;have t2:X.cell? ⟨T,2,none⟩=some (jd x.ao x.ts.length x.c):=G.o.cell 2;go_upto_region 16 with(fail);rw[<-hX,<-hT];clear hX hT hcell hx k0 k1 aN az G;obtain⟨K,hK⟩: ∃K,K=Cw x.v (x.ts.map (·.1)):=⟨_,rfl⟩
          have HK:=Lh hK;rw[<-hK]at aB;clear hK;go_wp2_with fail;refine aB.o.mono ?_;rintro e w9 ⟨rfl,aF⟩;have aI:=Lh (H.o.trans (aF.mono H.o.size));clear aF;cases K
          ·have F:=Lh (CE (W:=W) (fun h=>by
            have J:=h.rds _ (xd aA.o);rw[show Cw x.r.v x.r.es=false from HK.o.symm]at J;cases J))
           go_wp2_with fail;go_ret;exact⟨Ag F.o.symm,M.o.trans (aI.o.mono M.o.size)⟩
          ·have hall:=Lh (show(W.rds.take (k2+1)).all (fun r=>Cw r.v r.es)=true from by
            rw[ag.o,List.all_append,ah.o];simp only[List.all_cons,List.all_nil,Bool.and_true,Bool.true_and];exact HK.o.symm)
           go_wp2_with fail;go_roundw
           case rel=>exact⟨k2+1,by go_num,by omega,hall,aI⟩
           case measure=>simp[intOf];omega
         ·have aj: ¬(k2:Int)<m:=by omega
          have aY:=Lh (show W.rds.all (fun r=>Cw r.v r.es)=true from by have h:=ah.o;rw[xj (by rw[<-HM.o];omega)]at h;exact h);have F:=Lh ((CN W).2 ⟨HC.o.symm,by have:=HN.o;omega,by have:=HM.o;omega,by have:=HM.o;omega,aZ.o,fun q hq=>by rw[<-HM.o];exact List.all_eq_true.1 aW.o q hq,fun r hr=>List.all_eq_true.1 aY.o r hr⟩);go_wp2_with fail;go_ret;exact⟨Ag F.o.symm,V.o⟩
open Go.RowKit Go.Maps
theorem R8:Keyed Tryz.prog 3:=int_keyed Tryz.underlying3
def Rf(v:Value):Option (DataW Value × List MemPlace):=some (.held v,[])
theorem Ry{v a:Value}{w:List MemPlace}(h:Rf v=some (.held a,w)):v=a:=by
 simp only[Rf,Option.some.injEq,Prod.mk.injEq,DataW.held.injEq]at h;exact h.1
theorem Wz{x:Int}(w: -9223372036854775808<=x)(A:x<=9223372036854775807):(Lit.int .i64 x).wf=true:=by
 simp[Lit.wf,IntKind.min,IntKind.max,IntKind.signed,IntKind.bits];omega
def He(k:Int):Value:=.func (.func (21+k).toNat) #[] #[]
def Gj(b n:Nat)(w:World):Prop:=∃D:DataW Value,w.ownsMap Tryz.prog 3 Rf b n D/\IsMap D/\(∀k:Int,1<=k->k<=n->(∀z,D.atKey (.int .i64 k) z=.held (He k))/\Maps.has D (.int .i64 k)=true)/\ ∀k:Int,(k<1∨n<k)->(∀z,D.atKey (.int .i64 k) z=z)/\Maps.has D (.int .i64 k)=false
theorem Gj.new(w:World):Gj w.heap.size 0 (w.alloc (.map #[] 0)):=
 ⟨.map [],World.ownsMap_made _ _ _ _,isMap_empty,fun k A D=>by omega,fun k _=>⟨fun z=>rfl,rfl⟩⟩
theorem Tp{w w':World}{b B:Nat}(h:w.mapTurned w' b)(F:B<=b):Below B w w':=by
 obtain⟨es,D,es',A,E,rfl⟩:=h;refine⟨rfl,rfl,rfl,?_,fun k hk=>?_⟩
 ·simp[ChangeMaps.setBlock]
 ·simp[ChangeMaps.setBlock,show b≠k by omega]
theorem Gj.put{b n:Nat}{w:World}(h:Gj b n w)(hn:n<7)(k:Int)(hk:k=n+1): ∃w',(Instr.mapUpdate 81 (.map (some b)) (ja jb k) (He k)).run Tryz.prog w=.ok () w'/\Gj b (n+1) w'/\ ∀B,B<=b->Below B w w':=by
 subst hk;obtain⟨D,R,F,M,T⟩:=h;obtain⟨w',E,J,U⟩:=R.store R8 Tryz.underlying81 (by unfold maxLen;omega) (keyOf_int_mk Tryz.underlying3 (Wz (x:=(n:Int)+1) (by omega) (by omega))) (show Rf (He ((n:Int)+1))=_ from rfl);refine⟨w',E,⟨_,J,F.put _ _,fun k H G=>?_,fun k hk=>?_⟩,fun B O=>Tp U O⟩
 ·by_cases A:k=(n:Int)+1
  ·subst A;exact⟨fun z=>atKey_put_same F (show WideAt.IsKeyLit (Lit.int .i64 ((n:Int)+1))from trivial) _ _,has_put_same F (show WideAt.IsKeyLit (Lit.int .i64 ((n:Int)+1))from trivial) _⟩
  ·have hne:Lit.int .i64 k≠Lit.int .i64 ((n:Int)+1):=fun e=>by simp only[Lit.int.injEq,true_and]at e;exact A e
   obtain⟨a1,a2⟩:=M k H (by push_cast at G;omega);exact⟨fun z=>by rw[atKey_put_other hne];exact a1 z,by rw[has_put_other hne];exact a2⟩
 ·have hne:Lit.int .i64 k≠Lit.int .i64 ((n:Int)+1):=fun e=>by simp only[Lit.int.injEq,true_and]at e;push_cast at hk;omega
  obtain⟨a1,a2⟩:=T k (by push_cast at hk;omega);exact⟨fun z=>by rw[atKey_put_other hne];exact a1 z,by rw[has_put_other hne];exact a2⟩
theorem Gj.look_yes{b n:Nat}{w:World}(h:Gj b n w)(hn:n<=7)(k:Int)(E:1<=k)(F:k<=n):(Instr.lookup 81 (.map (some b)) (ja jb k) true).run Tryz.prog w=.ok (jg #[He k,je true]) w:=by
 obtain⟨D,a1,a2,a3,a4⟩:=h;obtain⟨v,G,A,hv⟩:=a1.look_ok R8 Tryz.underlying81 (Tryz.zeroValue78 w) (show Rf Value.nilFunc=_ from rfl) (keyOf_int_mk Tryz.underlying3 (Wz (x:=k) (by omega) (by omega)));obtain⟨c1,c2⟩:=a3 k E F;rw[c1]at hv;rw[A,Ry hv,c2]
theorem Gj.look_no{b n:Nat}{w:World}(h:Gj b n w)(k:Int)(hk:k<1∨n<k)(E: -9223372036854775808<=k)(F:k<=9223372036854775807):(Instr.lookup 81 (.map (some b)) (ja jb k) true).run Tryz.prog w=.ok (jg #[Value.nilFunc,je false]) w:=by
 obtain⟨D,a1,a2,a3,a4⟩:=h;obtain⟨v,G,A,hv⟩:=a1.look_ok R8 Tryz.underlying81 (Tryz.zeroValue78 w) (show Rf Value.nilFunc=_ from rfl) (keyOf_int_mk Tryz.underlying3 (Wz (x:=k) E F));obtain⟨c1,c2⟩:=a4 k hk;rw[c1]at hv;rw[A,Ry hv,c2]
theorem Gj.all(w:World): ∃u1 u2 u3 u4 u5 u6 u7,(Instr.mapUpdate 81 (.map (some w.heap.size)) (ja jb 1) (He 1)).run Tryz.prog (w.alloc (.map #[] 0))=.ok () u1/\(Instr.mapUpdate 81 (.map (some w.heap.size)) (ja jb 2) (He 2)).run Tryz.prog u1=.ok () u2/\(Instr.mapUpdate 81 (.map (some w.heap.size)) (ja jb 3) (He 3)).run Tryz.prog u2=.ok () u3/\(Instr.mapUpdate 81 (.map (some w.heap.size)) (ja jb 4) (He 4)).run Tryz.prog u3=.ok () u4/\(Instr.mapUpdate 81 (.map (some w.heap.size)) (ja jb 5) (He 5)).run Tryz.prog u4=.ok () u5/\(Instr.mapUpdate 81 (.map (some w.heap.size)) (ja jb 6) (He 6)).run Tryz.prog u5=.ok () u6/\(Instr.mapUpdate 81 (.map (some w.heap.size)) (ja jb 7) (He 7)).run Tryz.prog u6=.ok () u7/\Gj w.heap.size 7 u7/\Below w.heap.size w u7:=by
 obtain⟨u1,r1,H,E⟩:=(Gj.new w).put (by decide) 1 (by decide);obtain⟨u2,r2,X,R⟩:=H.put (by decide) 2 (by decide);obtain⟨u3,r3,J,O⟩:=X.put (by decide) 3 (by decide);obtain⟨u4,r4,F,V⟩:=J.put (by decide) 4 (by decide);obtain⟨u5,r5,D,T⟩:=F.put (by decide) 5 (by decide);obtain⟨u6,r6,G,A⟩:=D.put (by decide) 6 (by decide);obtain⟨u7,r7,M,U⟩:=G.put (by decide) 7 (by decide);exact⟨u1,u2,u3,u4,u5,u6,u7,r1,r2,r3,r4,r5,r6,r7,M,((((((((Below.refl _ w).alloc (xg _) _).trans (E _ (xg _))).trans (R _ (xg _))).trans (O _ (xg _))).trans (V _ (xg _))).trans (T _ (xg _))).trans (A _ (xg _))).trans (U _ (xg _))⟩
theorem Wn(b lo:Nat)(W:A3)(ns:List Bt)(vw vr vn:Value)(xs:List BZ)(s:D7)(af:Option Addr)(cf:Nat)(w:World)(Z:Bi b lo w W ns vw vr vn xs)(hlo:lo<=w.heap.size)(hl:W.way.length<=64):
  Calls Tryz.prog 23 #[jf (some ⟨b,0,none⟩),DN s af cf] w (Ff b lo (((GM W s).1,ns),(GM W s).2) w):=by
 obtain⟨aw,cw,rfl,Y, -⟩:=Z.way.form;obtain⟨ar,cr,rfl,X, -⟩:=Z.rds.form;obtain⟨E,H⟩: ∃E,E=w.alloc (ji #[ja jb s.kind,ja jb s.pos,ja jb s.n,jc s.fn,ja jb s.fv,jd af s.es.length cf] 43):=⟨_,rfl⟩
 have F:=Lh (show Below w.heap.size w E from by rw[H];exact Aa w _);have D:=Lh (Z.made F.o);have A:=Lh (show Af w.heap.size #[ja jb s.kind,ja jb s.pos,ja jb s.n,jc s.fn,ja jb s.fv,jd af s.es.length cf] 43 E from by rw[H];exact Af.new w _ _);obtain⟨P,hP⟩: ∃P,P=w.heap.size:=⟨_,rfl⟩
 rw[<-hP]at A;have aB:P<E.heap.size:=A.o.lt;have az:b<E.heap.size:=D.o.box.lt;have c2:E.cell? ⟨b,2,none⟩=some (jd aw W.way.length cw):=D.o.box.cell 2;have c3:E.cell? ⟨b,3,none⟩=some (jd ar xs.length cr):=D.o.box.cell 3;have p1:E.cell? ⟨P,1,none⟩=some (ja jb s.pos):=A.o.cell 1;have p2:E.cell? ⟨P,2,none⟩=some (ja jb s.n):=A.o.cell 2;have M:=Lh hlo;have V:=Lh (xb hlo F.o.size);have aa:=Lh hl;have ab:=Lh (show xs.length=W.rds.length from by rw[<-Z.rmap,xc]);obtain⟨n,hn⟩: ∃n,n=W.way.length:=⟨_,rfl⟩
 have HN:=Lh hn;obtain⟨k,hk⟩: ∃k,k=xs.length:=⟨_,rfl⟩
 have HK:=Lh hk;rw[<-hn]at c2;rw[<-hk]at c3;obtain⟨i,hi⟩: ∃i,i=s.pos:=⟨_,rfl⟩
 have HI:=Lh hi;rw[<-hi]at p1;have ai:=Lh X;have aj:=Lh Y;unfold DN;rw[<-hi];have HA:=Lh (show GM W s=if i<0∨(k:Int)<=i then(W,3)else C6 W ⟨i,false,(W.rds.getD i.toNat ⟨0,0,[]⟩).tag,⟨#[]⟩⟩from by rw[hi,hk,ab.o];rfl);clear Z hlo hn hk hi hl X Y;go_enter Tryz.func23,Tryz.ntmps23;go_upto_region 1 with(fail);rw[HI.o,<-H,<-hP];clear H hP;rw[<-HI.o];by_cases h0:i<0
 ·have hd:decide (i<0)=true:=decide_eq_true h0;have HR:=Lh (show GM W s=(W,3)from by rw[HA.o,if_pos (.inl h0)]);go_quiet (fail);go_wp2_with fail;go_ret;rw[HR.o];exact⟨_,_,_,_,rfl,D.o.made (below_drewN (Below.refl _ _) _),below_drewN (F.o.mono M.o) _⟩
 ·obtain⟨j,rfl⟩: ∃j:Nat,i=j:=⟨i.toNat,by omega⟩
  have hd:decide ((j:Int)<0)=false:=decide_eq_false h0;by_cases h1:(k:Int)<=j
  ·have HR:=Lh (show GM W s=(W,3)from by rw[HA.o,if_pos (.inr h1)]);go_quiet (fail);go_wp2_with fail;go_ret;rw[HR.o];exact⟨_,_,_,_,rfl,D.o.made (below_drewN (Below.refl _ _) _),below_drewN (F.o.mono M.o) _⟩
  ·have h2:(j:Int)<k:=by omega
   obtain⟨x,hx⟩: ∃x,xs[j]?=some x:=⟨_,xa (by have:=HK.o;omega)⟩
   have ah:=Lh (show GM W s=C6 W ⟨j,false,x.tag,⟨#[]⟩⟩from by rw[HA.o,if_neg (by omega),xe,List.getD_eq_getElem?_getD,Fg D.o.rmap hx];rfl);have ag:=Lh hx;clear hx;go_quiet (fail)
   obtain⟨J,T⟩: ∃J,J=E.drewN nq:=⟨_,rfl⟩
   rw[<-T];have G:=Lh (show Below E.heap.size E J from by rw[T];exact below_drewN (Below.refl _ _) _);have R:=Lh (D.o.made G.o);clear T;go_upto_region 3 with(fail);obtain⟨g,o,am,U,hcell⟩:=Rd.get Cs (Rw.rd R.o.rds) ag.o;have t1:J.cell? ⟨g,o+j*3+1,none⟩=some (ja jb x.tag):=hcell 1 _ (by omega) rfl;subst am;have O:=R.o.box;have al:Hid (∀W',Below J.heap.size J W'->W'.cell? ⟨P,1,none⟩=some (ja jb j)/\W'.cell? ⟨b,3,none⟩=some (jd (some ⟨g,o,none⟩) k cr)/\W'.cell? ⟨g,o+j*3+1,none⟩=some (ja jb x.tag)):=Lh (fun W' h=>⟨by rw[HI.o];exact((A.o.below G.o A.o.lt).below h (Nat.lt_of_lt_of_le A.o.lt G.o.size)).cell 1,by rw[HK.o];exact(O.below h O.lt).cell 3,(h.cell (p:=⟨g,o+j*3+1,none⟩) U).trans t1⟩);have ae:Hid (Calls Tryz.prog 47 #[jf (some ⟨b,0,none⟩),.agg #[ja jb j,je false,ja jb x.tag,jc ⟨#[]⟩]] J.drew _):=Lh (OR b lo W ns (jd aw W.way.length cw) (jd (some ⟨g,o,none⟩) xs.length cr) vn xs ⟨j,false,x.tag,⟨#[]⟩⟩ J.drew (R.o.made (Ac (Below.refl _ _))) (xb V.o G.o.size) aa.o);have ac:=Lh (show Below lo w J.drew from Ac ((F.o.mono M.o).trans (G.o.mono V.o)));have ax:(0:Int)<=(j:Int):=by omega
   have av:j<k:=by omega
   clear hcell t1 c2 c3 p1 p2 hd h0 h1 O U;obtain⟨g0,g1,g2⟩:=al.o _ (Below.refl _ _);go_region_law (first | (go_simp;go_at_call 47;refine ae.o.mono ?_;rintro e w5 ⟨aA,aq,ay,au,rfl,ap,ak⟩))
   all_goals
    go_wp2_with fail;go_ret;rw[ah.o];exact⟨_,_,_,_,rfl,ap,ac.o.trans ak⟩
theorem Vf(b lo:Nat)(W:A3)(ns:List Bt)(vw vr vn:Value)(xs:List BZ)(s:D7)(af:Option Addr)(cf:Nat)(w:World)(Y:Bi b lo w W ns vw vr vn xs)(hlo:lo<=w.heap.size)(hl:W.way.length<=64):
  Calls Tryz.prog 26 #[jf (some ⟨b,0,none⟩),DN s af cf] w (Ff b lo (((DW W s).1,ns),(DW W s).2) w):=by
 obtain⟨aw,cw,rfl,X, -⟩:=Y.way.form;obtain⟨ar,cr,rfl,V, -⟩:=Y.rds.form;obtain⟨D,H⟩: ∃D,D=w.alloc (ji #[ja jb s.kind,ja jb s.pos,ja jb s.n,jc s.fn,ja jb s.fv,jd af s.es.length cf] 43):=⟨_,rfl⟩
 have G:=Lh (show Below w.heap.size w D from by rw[H];exact Aa w _);have A:=Lh (Y.made G.o);have E:=Lh (show Af w.heap.size #[ja jb s.kind,ja jb s.pos,ja jb s.n,jc s.fn,ja jb s.fv,jd af s.es.length cf] 43 D from by rw[H];exact Af.new w _ _);obtain⟨P,hP⟩: ∃P,P=w.heap.size:=⟨_,rfl⟩
 rw[<-hP]at E;have ax:P<D.heap.size:=E.o.lt;have av:b<D.heap.size:=A.o.box.lt;have c2:D.cell? ⟨b,2,none⟩=some (jd aw W.way.length cw):=A.o.box.cell 2;have c3:D.cell? ⟨b,3,none⟩=some (jd ar xs.length cr):=A.o.box.cell 3;have p1:D.cell? ⟨P,1,none⟩=some (ja jb s.pos):=E.o.cell 1;have p2:D.cell? ⟨P,2,none⟩=some (ja jb s.n):=E.o.cell 2;have O:=Lh hlo;have ag:=Lh (xb hlo G.o.size);have R:=Lh hl;have aq:=Lh (show xs.length=W.rds.length from by rw[<-Y.rmap,xc]);obtain⟨n,hn⟩: ∃n,n=W.way.length:=⟨_,rfl⟩
 have Z:=Lh hn;obtain⟨k,hk⟩: ∃k,k=xs.length:=⟨_,rfl⟩
 have HK:=Lh hk;rw[<-hn]at c2;rw[<-hk]at c3;obtain⟨i,hi⟩: ∃i,i=s.pos:=⟨_,rfl⟩
 have HI:=Lh hi;rw[<-hi]at p1;have aj:=Lh V;have al:=Lh X;unfold DN;rw[<-hi];have HA:=Lh (show DW W s=if decide (0<=i/\i<(n:Int))=false then(W,60)else({ W with way:=W.way.eraseIdx i.toNat },0)from by rw[hi,hn];rfl);have J:=Lh (Jo b W.zone W.cur aw n cw (jd ar xs.length cr) vn i D (by rw[hn];exact A.o.box));clear Y hlo hn hk hi hl V X;go_enter Tryz.func26,Tryz.ntmps26;go_upto_region 1 with(fail);rw[HI.o,<-H,<-hP];clear H hP;rw[<-HI.o];obtain⟨F,hF⟩: ∃F,F=decide (0<=i/\i<(n:Int)):=⟨_,rfl⟩
 have HF:=Lh hF;rw[<-hF]at HA J;clear hF;go_wp2_with fail;refine J.o.mono ?_;rintro e w1 ⟨rfl,hw⟩;rw[hw];clear hw w1;cases F
 ·have HR:=Lh (show DW W s=(W,60)from by rw[HA.o,if_pos rfl]);go_wp2_with fail;go_ret;rw[HR.o];exact⟨_,_,_,_,rfl,A.o,G.o.mono O.o⟩
 ·have ai:=of_decide_eq_true HF.o.symm;obtain⟨j,rfl⟩: ∃j:Nat,i=j:=⟨i.toNat,by omega⟩
  have ac:j<n:=by omega
  have HR:=Lh (show DW W s=({ W with way:=W.way.eraseIdx j },0)from by rw[HA.o,if_neg (by decide),xe]);obtain⟨g,cs,ak, -,T,hgb⟩:=Rw.own A.o.way (by rw[<-Z.o];omega);subst ak;have U:=Lh hgb;have ap:=Lh T;have ah:Hid (Calls Tryz.prog 50 #[jd (some ⟨g,0,none⟩) n cw,ja jb j,ja jb (j+1)] D.drew _):=Lh (by rw[Z.o];exact KY lo g cw W.way j D.drew A.o.way (by rw[<-Z.o];exact ac) (by have:=R.o;omega));have au:IntKind.i64.wrap ((j:Int)+1)=(j:Int)+1:=O8 j (by have:=R.o;have:=Z.o;omega);have f2:D.frozen? ⟨b,2,none⟩=false:=A.o.box.frozen 2;clear ai hgb T J;go_upto_region 3 with(fail);go_region_law (first | (go_simp;go_at_call 50;refine ah.o.mono ?_;rintro e w5 ⟨rfl,ae,M⟩;have aa:=Nv A.o.box.draw U.o.draw M;obtain⟨q2,z2⟩:=aa))
  all_goals
   have am:=Bi.ways (A.o.made (Ac (Below.refl _ _))) (AB.but U.o.draw M) ae;have ab:=(Ac (G.o.mono O.o)).trans (Pm M ap.o ag.o);go_wp2_with fail;go_ret;rw[HR.o];exact⟨_,_,_,_,rfl,am,ab.setCell (p:=⟨b,2,none⟩) A.o.ge _⟩
theorem RA(b lo:Nat)(W:A3)(ns:List Bt)(vw vr vn:Value)(xs:List BZ)(s:D7)(af:Option Addr)(cf:Nat)(w:World)(T:Bi b lo w W ns vw vr vn xs)(hlo:lo<=w.heap.size)(hl:W.way.length<=64):
  Calls Tryz.prog 27 #[jf (some ⟨b,0,none⟩),DN s af cf] w (Ff b lo (((Lm W s).1,ns),(Lm W s).2) w):=by
 obtain⟨aw,cw,rfl,R, -⟩:=T.way.form;obtain⟨Y,cr,rfl,O, -⟩:=T.rds.form;obtain⟨A,H⟩: ∃A,A=w.alloc (ji #[ja jb s.kind,ja jb s.pos,ja jb s.n,jc s.fn,ja jb s.fv,jd af s.es.length cf] 43):=⟨_,rfl⟩
 have G:=Lh (show Below w.heap.size w A from by rw[H];exact Aa w _);have D:=Lh (T.made G.o);have E:=Lh (show Af w.heap.size #[ja jb s.kind,ja jb s.pos,ja jb s.n,jc s.fn,ja jb s.fv,jd af s.es.length cf] 43 A from by rw[H];exact Af.new w _ _);obtain⟨P,hP⟩: ∃P,P=w.heap.size:=⟨_,rfl⟩
 rw[<-hP]at E;have aA:P<A.heap.size:=E.o.lt;have ay:b<A.heap.size:=D.o.box.lt;have c2:A.cell? ⟨b,2,none⟩=some (jd aw W.way.length cw):=D.o.box.cell 2;have c3:A.cell? ⟨b,3,none⟩=some (jd Y xs.length cr):=D.o.box.cell 3;have p1:A.cell? ⟨P,1,none⟩=some (ja jb s.pos):=E.o.cell 1;have p2:A.cell? ⟨P,2,none⟩=some (ja jb s.n):=E.o.cell 2;have M:=Lh hlo;have aa:=Lh (xb hlo G.o.size);have U:=Lh hl;have am:=Lh (show xs.length=W.rds.length from by rw[<-T.rmap,xc]);obtain⟨n,hn⟩: ∃n,n=W.way.length:=⟨_,rfl⟩
 have HN:=Lh hn;obtain⟨k,hk⟩: ∃k,k=xs.length:=⟨_,rfl⟩
 have HK:=Lh hk;rw[<-hn]at c2;rw[<-hk]at c3;obtain⟨i,hi⟩: ∃i,i=s.pos:=⟨_,rfl⟩
 have HI:=Lh hi;rw[<-hi]at p1;have ag:=Lh O;have ai:=Lh R;unfold DN;rw[<-hi];have V:=Lh (show Lm W s=if decide (0<=i/\i<(n:Int))=false then(W,60)else C6 W (W.way.getD i.toNat ⟨0,false,0,⟨#[]⟩⟩)from by rw[hi,hn];rfl);have J:=Lh (Jo b W.zone W.cur aw n cw (jd Y xs.length cr) vn i A (by rw[hn];exact D.o.box));clear T hlo hn hk hi hl O R;go_enter Tryz.func27,Tryz.ntmps27;go_upto_region 1 with(fail);rw[HI.o,<-H,<-hP];clear H hP;rw[<-HI.o];obtain⟨F,Z⟩: ∃F,F=decide (0<=i/\i<(n:Int)):=⟨_,rfl⟩
 have HF:=Lh Z;rw[<-Z]at V J;clear Z;go_wp2_with fail;refine J.o.mono ?_;rintro e w1 ⟨rfl,hw⟩;rw[hw];clear hw w1;cases F
 ·have HR:=Lh (show Lm W s=(W,60)from by rw[V.o,if_pos rfl]);go_wp2_with fail;go_ret;rw[HR.o];exact⟨_,_,_,_,rfl,D.o,G.o.mono M.o⟩
 ·have ae:=of_decide_eq_true HF.o.symm;obtain⟨j,rfl⟩: ∃j:Nat,i=j:=⟨i.toNat,by omega⟩
  have X:j<n:=by omega
  obtain⟨x,hx⟩: ∃x,W.way[j]?=some x:=⟨_,xa (by rw[<-HN.o];exact X)⟩
  have HR:=Lh (show Lm W s=C6 W x from by rw[V.o,if_neg (by decide),xe,List.getD_eq_getElem?_getD,hx];rfl);obtain⟨g,o,ah,al,hcell⟩:=Rd.get AV (Rw.rd D.o.way) hx;subst ah;have t0:A.cell? ⟨g,o+j*4,none⟩=some (ja jb x.rd):=hcell 0 _ (by omega) rfl;have t1:A.cell? ⟨g,o+j*4+1,none⟩=some (je x.ans):=hcell 1 _ (by omega) rfl;have t2:A.cell? ⟨g,o+j*4+2,none⟩=some (ja jb x.tag):=hcell 2 _ (by omega) rfl;have t3:A.cell? ⟨g,o+j*4+3,none⟩=some (jc x.body):=hcell 3 _ (by omega) rfl;have ac:Hid (Calls Tryz.prog 47 #[jf (some ⟨b,0,none⟩),.agg #[ja jb x.rd,je x.ans,ja jb x.tag,jc x.body]] A.drew _):=Lh (OR b lo W ns (jd (some ⟨g,o,none⟩) W.way.length cw) (jd Y xs.length cr) vn xs x A.drew (D.o.made (Ac (Below.refl _ _))) aa.o U.o);have ab:=Lh (show Below lo w A.drew from Ac (G.o.mono M.o));have au:(0:Int)<=(j:Int):=by omega
  have ax:(j:Int)<n:=by omega
  clear ae hcell hx J;go_upto_region 3 with(fail);go_region_law (first | (go_simp;go_at_call 47;refine ac.o.mono ?_;rintro e w5 ⟨az,ap,av,aq,rfl,ak,aj⟩))
  all_goals
   go_wp2_with fail;go_ret;rw[HR.o];exact⟨_,_,_,_,rfl,ak,ab.o.trans aj⟩
theorem Wk(b lo:Nat)(W:A3)(ns:List Bt)(vw vr vn:Value)(xs:List BZ)(s:D7)(af:Option Addr)(cf:Nat)(w:World)(hM:Bi b lo w W ns vw vr vn xs)(hlo:lo<=w.heap.size)(hl:W.way.length<=64):
  Calls Tryz.prog 28 #[jf (some ⟨b,0,none⟩),DN s af cf] w (Ff b lo (((Kf W s).1,ns),(Kf W s).2) w):=by
 obtain⟨aw,cw,rfl,am, -⟩:=hM.way.form;obtain⟨ar,cr,rfl,aj, -⟩:=hM.rds.form;obtain⟨E,T⟩: ∃E,E=w.alloc (ji #[ja jb s.kind,ja jb s.pos,ja jb s.n,jc s.fn,ja jb s.fv,jd af s.es.length cf] 43):=⟨_,rfl⟩
 have M:=Lh (show Below w.heap.size w E from by rw[T];exact Aa w _);have D:=Lh (hM.made M.o);have G:=Lh (show Af w.heap.size #[ja jb s.kind,ja jb s.pos,ja jb s.n,jc s.fn,ja jb s.fv,jd af s.es.length cf] 43 E from by rw[T];exact Af.new w _ _);obtain⟨P,hP⟩: ∃P,P=w.heap.size:=⟨_,rfl⟩
 rw[<-hP]at G;have aH:P<E.heap.size:=G.o.lt;have aG:b<E.heap.size:=D.o.box.lt;have c2:E.cell? ⟨b,2,none⟩=some (jd aw W.way.length cw):=D.o.box.cell 2;have c3:E.cell? ⟨b,3,none⟩=some (jd ar xs.length cr):=D.o.box.cell 3;have p1:E.cell? ⟨P,1,none⟩=some (ja jb s.pos):=G.o.cell 1;have p2:E.cell? ⟨P,2,none⟩=some (ja jb s.n):=G.o.cell 2;have Y:=Lh hlo;have ae:=Lh (xb hlo M.o.size);have aC:=Lh hl;have aD:=Lh (show xs.length=W.rds.length from by rw[<-hM.rmap,xc]);obtain⟨n,hn⟩: ∃n,n=W.way.length:=⟨_,rfl⟩
 have HN:=Lh hn;obtain⟨k,hk⟩: ∃k,k=xs.length:=⟨_,rfl⟩
 have HK:=Lh hk;rw[<-hn]at c2;rw[<-hk]at c3;obtain⟨i,hi⟩: ∃i,i=s.pos:=⟨_,rfl⟩
 have HI:=Lh hi;rw[<-hi]at p1;have ax:=Lh aj;have ay:=Lh am;unfold DN;rw[<-hi];have HA:=Lh (show Kf W s=if decide (0<=i/\i<(n:Int))=false then(W,60)else if(W.way.getD i.toNat ⟨0,false,0,⟨#[]⟩⟩).ans=false then(W,60)else({ W with way:=W.way.set i.toNat { W.way.getD i.toNat ⟨0,false,0,⟨#[]⟩⟩with body:=Ir (W.way.getD i.toNat ⟨0,false,0,⟨#[]⟩⟩).body s.n } },0)from by rw[hi,hn];rfl);have V:=Lh (fun q=>Jo b W.zone W.cur aw n cw (jd ar xs.length cr) vn i (E.drewN q) (by rw[hn];exact D.o.box));clear hM hlo hn hk hi hl aj am;go_enter Tryz.func28,Tryz.ntmps28;go_upto_region 1 with(fail);rw[HI.o,<-T,<-hP];clear T hP;rw[<-HI.o];obtain⟨F,hF⟩: ∃F,F=decide (0<=i/\i<(n:Int)):=⟨_,rfl⟩
 have HF:=Lh hF;rw[<-hF]at HA V;clear hF;cases F
 ·have HR:=Lh (show Kf W s=(W,60)from by rw[HA.o,if_pos rfl]);go_quiet ((go_at_call 48;exact Calls.quiet_of_same (V.o _)));go_wp2_with fail;go_ret;rw[HR.o];exact⟨_,_,_,_,rfl,D.o.made (below_drewN (Below.refl _ _) _),below_drewN (M.o.mono Y.o) _⟩
 ·have au:=of_decide_eq_true HF.o.symm;obtain⟨j,rfl⟩: ∃j:Nat,i=j:=⟨i.toNat,by omega⟩
  have aq:j<n:=by omega
  obtain⟨x,hx⟩: ∃x,W.way[j]?=some x:=⟨_,xa (by rw[<-HN.o];exact aq)⟩
  have ah:W.way.getD (j:Int).toNat ⟨0,false,0,⟨#[]⟩⟩=x:=by rw[xe,List.getD_eq_getElem?_getD,hx];rfl
  rw[ah,xe]at HA;obtain⟨g,cs,X, -,ai,hgb⟩:=Rw.own D.o.way (by rw[<-HN.o];omega);subst X;obtain⟨g',o',X,aB,hcell⟩:=Rd.get AV (Rw.rd D.o.way) hx;simp only[Option.some.injEq,Addr.mk.injEq,and_true]at X;obtain⟨rfl,rfl⟩:=X;have t1:E.cell? ⟨g,j*4+1,none⟩=some (je x.ans):=by have:=hcell 1 _ (by omega) rfl;rw[xf]at this;exact this
  have t3:E.cell? ⟨g,j*4+3,none⟩=some (jc x.body):=by have:=hcell 3 _ (by omega) rfl;rw[xf]at this;exact this
  have Z:=Lh hgb;have aA:=Lh ai;have av:=Lh hx;have aE:(0:Int)<=(j:Int):=by omega
  have aF:(j:Int)<n:=by omega
  obtain⟨A,hA⟩: ∃A,A=x.ans:=⟨_,rfl⟩
  have al:=Lh hA;rw[<-hA]at t1;clear au hcell hx hgb ai ah hA;cases A
  ·have HR:=Lh (show Kf W s=(W,60)from by rw[HA.o,if_neg (by decide),if_pos al.o.symm]);go_quiet ((go_at_call 48;exact Calls.quiet_of_same (V.o _)));go_wp2_with fail;go_ret;rw[HR.o];exact⟨_,_,_,_,rfl,D.o.made (below_drewN (Below.refl _ _) _),below_drewN (M.o.mono Y.o) _⟩
  ·have HR:=Lh (show Kf W s=({ W with way:=W.way.set j { x with body:=Ir x.body s.n } },0)from by rw[HA.o,if_neg (by decide),if_neg (by rw[<-al.o];decide)]);go_quiet ((go_at_call 48;exact Calls.quiet_of_same (V.o _)));obtain⟨O,aa⟩: ∃O,O=E.drewN nq:=⟨_,rfl⟩
   rw[<-aa];have H:=Lh (show Below E.heap.size E O from by rw[aa];exact below_drewN (Below.refl _ _) _);have ag:=Lh (D.o.made H.o);have U:=Lh (G.o.below H.o G.o.lt);have R:=Lh (Z.o.below H.o Z.o.lt);have d3:O.cell? ⟨g,j*4+3,none⟩=some (jc x.body):=(H.o.cell (p:=⟨g,j*4+3,none⟩) Z.o.lt).trans t3;have d2:O.cell? ⟨b,2,none⟩=some (jd (some ⟨g,0,none⟩) n cw):=by rw[HN.o];exact ag.o.box.cell 2
   have e1:O.cell? ⟨P,1,none⟩=some (ja jb j):=by rw[HI.o];exact U.o.cell 1
   have e2:O.cell? ⟨P,2,none⟩=some (ja jb s.n):=U.o.cell 2;have f3:O.frozen? ⟨g,j*4+3,none⟩=false:=R.o.frozen _;clear aa t1 t3 c2 p1 p2 c3;go_upto_region 3 with(fail);go_quiet (fail)
   obtain⟨W2,ab⟩: ∃W2,W2=O.drewN nq:=⟨_,rfl⟩
   rw[<-ab];have J:=Lh (show Below O.heap.size O W2 from by rw[ab];exact below_drewN (Below.refl _ _) _);have ac:=Lh (ag.o.made J.o);have ak:=Lh (R.o.below J.o R.o.lt);have k3:W2.cell? ⟨g,j*4+3,none⟩=some (jc x.body):=(J.o.cell (p:=⟨g,j*4+3,none⟩) R.o.lt).trans d3;have m2:W2.cell? ⟨P,2,none⟩=some (ja jb s.n):=(U.o.below J.o U.o.lt).cell 2;have z3:W2.frozen? ⟨g,j*4+3,none⟩=false:=ak.o.frozen _;clear ab d3 d2 e1 e2 f3;go_upto_region 4 with(fail);go_region
   all_goals
    have hp:=Rw.put AV ac.o.way (i:=j) (q:=3) (x':={ x with body:=Ir x.body s.n }) (u:=jc (Ir x.body s.n)) av.o (by omega) rfl;have az:=(ac.o.wayIn (AB.set (i:=j*4+3) (u:=jc (Ir x.body s.n)) ak.o) hp.1).made (Ac (Below.refl _ _));have ap:=Ac ((((M.o.mono Y.o).trans (H.o.mono ae.o)).trans (J.o.mono (xb ae.o H.o.size))).setCell (p:=⟨g,j*4+3,none⟩) aA.o (jc (Ir x.body s.n)));go_wp2_with fail;go_ret;rw[HR.o];exact⟨_,_,_,_,rfl,az,ap⟩
theorem Tz(b lo:Nat)(W:A3)(ns:List Bt)(vw vr vn:Value)(xs:List BZ)(s:D7)(af:Option Addr)(cf:Nat)(w:World)(hM:Bi b lo w W ns vw vr vn xs)(hlo:lo<=w.heap.size)(hl:W.way.length<=64)(hz:Tt.code W.zone.data.toList=true)(hcs:W.cur.size<=262144)(hG:Eu w):
  Calls Tryz.prog 24 #[jf (some ⟨b,0,none⟩),DN s af cf] w (Ff b lo (((Cb W s).1,ns),(Cb W s).2) w):=by
 obtain⟨aw,cw,rfl,aO, -⟩:=hM.way.form;obtain⟨ar,cr,rfl,aU, -⟩:=hM.rds.form;obtain⟨W0,aC⟩: ∃W0,W0=w.alloc (ji #[ja jb s.kind,ja jb s.pos,ja jb s.n,jc s.fn,ja jb s.fv,jd af s.es.length cf] 43):=⟨_,rfl⟩
 have ae:=Lh (show Below w.heap.size w W0 from by rw[aC];exact Aa w _);have U:=Lh (hM.made ae.o);have ac:=Lh (show Af w.heap.size #[ja jb s.kind,ja jb s.pos,ja jb s.n,jc s.fn,ja jb s.fv,jd af s.es.length cf] 43 W0 from by rw[aC];exact Af.new w _ _);obtain⟨P,hP⟩: ∃P,P=w.heap.size:=⟨_,rfl⟩
 rw[<-hP]at ac;have bh:P<W0.heap.size:=ac.o.lt;have bf:b<W0.heap.size:=U.o.box.lt;have c2:W0.cell? ⟨b,2,none⟩=some (jd aw W.way.length cw):=U.o.box.cell 2;have c3:W0.cell? ⟨b,3,none⟩=some (jd ar xs.length cr):=U.o.box.cell 3;have p1:W0.cell? ⟨P,1,none⟩=some (ja jb s.pos):=ac.o.cell 1;have p2:W0.cell? ⟨P,2,none⟩=some (ja jb s.n):=ac.o.cell 2;have aB:=Lh hlo;have aI:=Lh (xb hlo ae.o.size);have bj:=Lh hl;have bn:=Lh (show xs.length=W.rds.length from by rw[<-hM.rmap,xc]);obtain⟨n,hn⟩: ∃n,n=W.way.length:=⟨_,rfl⟩
 have HN:=Lh hn;obtain⟨k,hk⟩: ∃k,k=xs.length:=⟨_,rfl⟩
 have HK:=Lh hk;rw[<-hn]at c2;rw[<-hk]at c3;obtain⟨i,hi⟩: ∃i,i=s.pos:=⟨_,rfl⟩
 have HI:=Lh hi;rw[<-hi]at p1;have be:=Lh aU;have aX:=Lh aO;unfold DN;rw[<-hi];have HA:=Lh (show Cb W s=if decide (0<=i/\i<(n:Int))=false then(W,60)else if(W.way.getD i.toNat ⟨0,false,0,⟨#[]⟩⟩).ans=true then(W,60)else({ W with way:=W.way.set i.toNat (Cc W (W.way.getD i.toNat ⟨0,false,0,⟨#[]⟩⟩)) },0)from by rw[hi,hn];rfl);have av:=Lh (fun q=>Jo b W.zone W.cur aw n cw (jd ar xs.length cr) vn i (W0.drewN q) (by rw[hn];exact U.o.box));have HZ:=Lh hz;have bc:=Lh hcs;have aT:=Lh (hG.made ae.o);clear hz hcs hG;clear hM hlo hn hk hi hl aU aO;go_enter Tryz.func24,Tryz.ntmps24;go_upto_region 1 with(fail);rw[HI.o,<-aC,<-hP];clear aC hP;rw[<-HI.o];obtain⟨F,hF⟩: ∃F,F=decide (0<=i/\i<(n:Int)):=⟨_,rfl⟩
 have HF:=Lh hF;rw[<-hF]at HA av;clear hF;cases F
 ·have HR:=Lh (show Cb W s=(W,60)from by rw[HA.o,if_pos rfl]);go_quiet ((go_at_call 48;exact Calls.quiet_of_same (av.o _)));go_wp2_with fail;go_ret;rw[HR.o];exact⟨_,_,_,_,rfl,U.o.made (below_drewN (Below.refl _ _) _),below_drewN (ae.o.mono aB.o) _⟩
 ·have aW:=of_decide_eq_true HF.o.symm;obtain⟨j,rfl⟩: ∃j:Nat,i=j:=⟨i.toNat,by omega⟩
  have Z:j<n:=by omega
  obtain⟨x,hx⟩: ∃x,W.way[j]?=some x:=⟨_,xa (by rw[<-HN.o];exact Z)⟩
  have aQ:W.way.getD (j:Int).toNat ⟨0,false,0,⟨#[]⟩⟩=x:=by rw[xe,List.getD_eq_getElem?_getD,hx];rfl
  rw[aQ,xe]at HA;obtain⟨g,cs,V, -,aR,hgb⟩:=Rw.own U.o.way (by rw[<-HN.o];omega);subst V;obtain⟨g',o',V,bm,hcell⟩:=Rd.get AV (Rw.rd U.o.way) hx;simp only[Option.some.injEq,Addr.mk.injEq,and_true]at V;obtain⟨rfl,rfl⟩:=V;have t1:W0.cell? ⟨g,j*4+1,none⟩=some (je x.ans):=by have:=hcell 1 _ (by omega) rfl;rw[xf]at this;exact this
  have t2:W0.cell? ⟨g,j*4+2,none⟩=some (ja jb x.tag):=by have:=hcell 2 _ (by omega) rfl;rw[xf]at this;exact this
  have aL:=Lh t2;have aE:=Lh hgb;have X:=Lh aR;have aq:=Lh hx;have bk:(0:Int)<=(j:Int):=by omega
  have bo:(j:Int)<n:=by omega
  obtain⟨A,hA⟩: ∃A,A=x.ans:=⟨_,rfl⟩
  have aN:=Lh hA;rw[<-hA]at t1;clear aW hcell hx hgb aR aQ hA t2;cases A
  ·have HR:=Lh (show Cb W s=({ W with way:=W.way.set j (Cc W x) },0)from by rw[HA.o,if_neg (by decide),if_neg (by rw[<-aN.o];decide)]);go_quiet ((go_at_call 48;exact Calls.quiet_of_same (av.o _)));obtain⟨M,aK⟩: ∃M,M=W0.drewN nq:=⟨_,rfl⟩
   rw[<-aK];have aa:=Lh (show Below W0.heap.size W0 M from by rw[aK];exact below_drewN (Below.refl _ _) _);have T:=Lh (U.o.made aa.o);have aD:=Lh (ac.o.below aa.o ac.o.lt);have ap:=Lh (aE.o.below aa.o aE.o.lt);have a7:=Lh (aT.o.made aa.o);have aS:=Lh (show Below lo w M from(ae.o.mono aB.o).trans (aa.o.mono aI.o));have am:=Lh (xb aI.o aa.o.size);have aM:=Lh (show M.cell? ⟨g,j*4+2,none⟩=some (ja jb x.tag)from(aa.o.cell (p:=⟨g,j*4+2,none⟩) aE.o.lt).trans aL.o);have d1:M.cell? ⟨b,1,none⟩=some (jc W.cur):=T.o.box.cell 1;clear aK t1 c2 p1 p2 c3 av HA U ae ac aE aL aa aT aI aB bh bf;by_cases ag:W.cur=⟨#[]⟩
   ·have ah:=Lh (show J7 W=0 from if_pos ag);rw[ag]at d1;have bl:=Lh ag;clear ag;go_upto_region 6 with(fail)
    obtain⟨WX,ai⟩: ∃WX,WX=M:=⟨_,rfl⟩
    have E:=Lh (show Below M.heap.size M WX from by rw[ai];exact(Below.refl M.heap.size M));rw[<-ai];obtain⟨N,hN⟩: ∃N,N=(0:Int):=⟨_,rfl⟩
    rw[<-hN]at ah;rw[<-hN];have ay:=Lh (T.o.made E.o);have au:=Lh (aD.o.below E.o aD.o.lt);have ak:=Lh (ap.o.below E.o ap.o.lt);have y2:WX.cell? ⟨b,2,none⟩=some (jd (some ⟨g,0,none⟩) n cw):=by rw[HN.o];exact ay.o.box.cell 2
    have y1:WX.cell? ⟨P,1,none⟩=some (ja jb j):=by rw[HI.o];exact au.o.cell 1
    have aH:=Lh ((E.o.cell (p:=⟨g,j*4+2,none⟩) ap.o.lt).trans aM.o);clear ai hN d1;go_quiet (fail)
    obtain⟨R,aj⟩: ∃R,R=WX.drewN nq:=⟨_,rfl⟩
    rw[<-aj];have Y:=Lh (show Below WX.heap.size WX R from by rw[aj];exact below_drewN (Below.refl _ _) _);have G:=Lh (ay.o.made Y.o);have D:=Lh (ak.o.below Y.o ak.o.lt);have az:=Lh (show Below lo w R from(aS.o.trans (E.o.mono am.o)).trans (Y.o.mono (xb am.o E.o.size)));have k2:R.cell? ⟨g,j*4+2,none⟩=some (ja jb x.tag):=(Y.o.cell (p:=⟨g,j*4+2,none⟩) ak.o.lt).trans aH.o;have k1:R.cell? ⟨b,1,none⟩=some (jc W.cur):=G.o.box.cell 1;have z1:R.frozen? ⟨g,j*4+1,none⟩=false:=D.o.frozen _;have z2:R.frozen? ⟨g,j*4+2,none⟩=false:=D.o.frozen _;have z3:R.frozen? ⟨g,j*4+3,none⟩=false:=D.o.frozen _;obtain⟨aZ,aY,V, -,hcell⟩:=Rd.get AV (Rw.rd G.o.way) aq.o;simp only[Option.some.injEq,Addr.mk.injEq,and_true]at V;obtain⟨rfl,rfl⟩:=V;have k3:R.cell? ⟨g,j*4+3,none⟩=some (jc x.body):=by have:=hcell 3 _ (by omega) rfl;rw[xf]at this;exact this
    have k4:R.cell? ⟨g,j*4+1,none⟩=some (je x.ans):=by have:=hcell 1 _ (by omega) rfl;rw[xf]at this;exact this
    clear aj y1 y2 hcell;have bg:j<(W.way.set j { x with ans:=true }).length:=by rw[List.length_set,<-HN.o];exact Z
    by_cases H:x.tag=N
    ·have hq:(x.tag==N)=true:=by simp[H]
     have ab:=Lh (show Cc W x={ x with ans:=true,tag:=N } from by unfold Cc;rw[ah.o,if_pos H]);have p1:=Rw.put AV G.o.way (i:=j) (q:=1) (x':={ x with ans:=true }) (u:=je true) aq.o (by omega) rfl;have O:=G.o.wayIn (AB.set (i:=j*4+1) (u:=je true) D.o) p1.1;have J:=D.o.set (j*4+1) (je true);have p2:=Rw.put AV (show Rw BI 4 107 lo _ (jd (some ⟨g,0,none⟩) (W.way.set j { x with ans:=true }).length cw) _ from by rw[List.length_set];exact p1.1) (i:=j) (q:=2) (x:={ x with ans:=true }) (x':={ x with ans:=true,tag:=N }) (u:=ja jb N) (by rw[List.getElem?_set_self (by rw[<-HN.o];exact Z)]) (by omega) rfl;have aG:=Lh (O.wayIn (AB.set (i:=j*4+2) (u:=ja jb N) J) (by rw[List.length_set]at p2;exact p2.1));have al:=Lh ((az.o.setCell (p:=⟨g,j*4+1,none⟩) X.o (je true)).setCell (p:=⟨g,j*4+2,none⟩) X.o (ja jb N));clear p1 p2 O J H;go_wp2_with fail;go_ret;rw[HR.o,ab.o];exact⟨_,_,_,_,rfl,(by have h:=aG.o;simp only[List.set_set]at h;exact h),al.o⟩
    ·have hq:(x.tag==N)=false:=by simp[H]
     have ab:=Lh (show Cc W x={ x with ans:=true,tag:=N,body:=W.cur } from by unfold Cc;rw[ah.o,if_neg H]);have q1:=Rw.put AV G.o.way (i:=j) (q:=3) (x':={ x with body:=W.cur }) (u:=jc W.cur) aq.o (by omega) rfl;have O:=G.o.wayIn (AB.set (i:=j*4+3) (u:=jc W.cur) D.o) q1.1;have J:=D.o.set (j*4+3) (jc W.cur);have q2:=Rw.put AV (show Rw BI 4 107 lo _ (jd (some ⟨g,0,none⟩) (W.way.set j { x with body:=W.cur }).length cw) _ from by rw[List.length_set];exact q1.1) (i:=j) (q:=1) (x:={ x with body:=W.cur }) (x':={ x with body:=W.cur,ans:=true }) (u:=je true) (by rw[List.getElem?_set_self (by rw[<-HN.o];exact Z)]) (by omega) rfl;rw[List.set_set]at q2;have ax:=O.wayIn (AB.set (i:=j*4+1) (u:=je true) J) (by rw[List.length_set]at q2;exact q2.1);have aA:=J.set (j*4+1) (je true);have q3:=Rw.put AV (show Rw BI 4 107 lo _ (jd (some ⟨g,0,none⟩) (W.way.set j { x with body:=W.cur,ans:=true }).length cw) _ from by rw[List.length_set]at q2 ⊢;exact q2.1) (i:=j) (q:=2) (x:={ x with body:=W.cur,ans:=true }) (x':={ x with ans:=true,tag:=N,body:=W.cur }) (u:=ja jb N) (by rw[List.getElem?_set_self (by rw[<-HN.o];exact Z)]) (by omega) rfl;rw[List.set_set]at q3;have aJ:=Lh (ax.wayIn (AB.set (i:=j*4+2) (u:=ja jb N) aA) (by rw[List.length_set]at q3;exact q3.1));have al:=Lh (((az.o.setCell (p:=⟨g,j*4+3,none⟩) X.o (jc W.cur)).setCell (p:=⟨g,j*4+1,none⟩) X.o (je true)).setCell (p:=⟨g,j*4+2,none⟩) X.o (ja jb N));clear q1 q2 q3 O ax J aA H;go_wp2_with fail;go_ret;rw[HR.o,ab.o];exact⟨_,_,_,_,rfl,aJ.o,al.o⟩
   ·have hne:W.cur.toList.isEmpty=false:=Fi ag;have ah:=Lh (show J7 W=BH W.cur (DM W)from if_neg ag);clear ag;have aP:=Lh (I3 W.cur W.zone);have a8:Hid (∀q,Below M.heap.size M q->Calls Tryz.prog 46 #[jf (some ⟨b,0,none⟩)] q fun e w'=>e=jh (ja jb (DM W))/\Below q.heap.size q w'):=Lh (fun q (hq:Below M.heap.size M q)=>IH b W.zone W.cur (jd (some ⟨g,0,none⟩) W.way.length cw) (jd ar xs.length cr) vn q (T.o.box.below hq T.o.box.lt) HZ.o (a7.o.made hq));have aV:=Lh (fun q=>Ri W.cur (DM W) q aP.o.1 aP.o.2 bc.o);have aF:=Lh (fun q (hq:Below M.heap.size M q)=>(show q.cell? ⟨b,1,none⟩=some (jc W.cur)/\q.cell? ⟨b,0,none⟩=some (jc W.zone)from⟨(T.o.box.below hq T.o.box.lt).cell 1,(T.o.box.below hq T.o.box.lt).cell 0⟩));have bi:b<M.heap.size:=T.o.box.lt;go_upto_region 5 with(fail)
    go_region_held3 (fun W'=>W'.cell? ⟨b,1,none⟩=some (jc W.cur)/\W'.cell? ⟨b,0,none⟩=some (jc W.zone)) (first | exact aF.o _ (Below.refl _ _) | exact aF.o _ (Ac (Below.refl _ _)) | exact aF.o _ h5 | exact aF.o _ h6) (first | (go_at_call 46;(with_reducible refine(a8.o _ (Ac (Below.refl _ _))).mono ?_);rintro e w5 ⟨rfl,a6⟩;have h5:Below M.heap.size M w5:=(Ac (Below.refl _ M)).trans a6) | (go_at_call 49;(with_reducible refine(aV.o _).mono ?_);rintro e w6 ⟨rfl,ba⟩;have h6:Below M.heap.size M w6:=h5.trans (ba.mono h5.size)))
    go_upto_region 6 with(fail);obtain⟨WX,ai⟩: ∃WX,WX=w6:=⟨_,rfl⟩
    have E:=Lh (show Below M.heap.size M WX from by rw[ai];exact h6);rw[<-ai];obtain⟨N,hN⟩: ∃N,N=BH W.cur (DM W):=⟨_,rfl⟩
    rw[<-hN]at ah;rw[<-hN];have ay:=Lh (T.o.made E.o);have au:=Lh (aD.o.below E.o aD.o.lt);have ak:=Lh (ap.o.below E.o ap.o.lt);have y2:WX.cell? ⟨b,2,none⟩=some (jd (some ⟨g,0,none⟩) n cw):=by rw[HN.o];exact ay.o.box.cell 2
    have y1:WX.cell? ⟨P,1,none⟩=some (ja jb j):=by rw[HI.o];exact au.o.cell 1
    have aH:=Lh ((E.o.cell (p:=⟨g,j*4+2,none⟩) ap.o.lt).trans aM.o);clear ai hN d1;go_quiet (fail)
    obtain⟨R,aj⟩: ∃R,R=WX.drewN nq:=⟨_,rfl⟩
    rw[<-aj];have Y:=Lh (show Below WX.heap.size WX R from by rw[aj];exact below_drewN (Below.refl _ _) _);have G:=Lh (ay.o.made Y.o);have D:=Lh (ak.o.below Y.o ak.o.lt);have az:=Lh (show Below lo w R from(aS.o.trans (E.o.mono am.o)).trans (Y.o.mono (xb am.o E.o.size)));have k2:R.cell? ⟨g,j*4+2,none⟩=some (ja jb x.tag):=(Y.o.cell (p:=⟨g,j*4+2,none⟩) ak.o.lt).trans aH.o;have k1:R.cell? ⟨b,1,none⟩=some (jc W.cur):=G.o.box.cell 1;have z1:R.frozen? ⟨g,j*4+1,none⟩=false:=D.o.frozen _;have z2:R.frozen? ⟨g,j*4+2,none⟩=false:=D.o.frozen _;have z3:R.frozen? ⟨g,j*4+3,none⟩=false:=D.o.frozen _;obtain⟨aZ,aY,V, -,hcell⟩:=Rd.get AV (Rw.rd G.o.way) aq.o;simp only[Option.some.injEq,Addr.mk.injEq,and_true]at V;obtain⟨rfl,rfl⟩:=V;have k3:R.cell? ⟨g,j*4+3,none⟩=some (jc x.body):=by have:=hcell 3 _ (by omega) rfl;rw[xf]at this;exact this
    have k4:R.cell? ⟨g,j*4+1,none⟩=some (je x.ans):=by have:=hcell 1 _ (by omega) rfl;rw[xf]at this;exact this
    clear aj y1 y2 hcell;have bg:j<(W.way.set j { x with ans:=true }).length:=by rw[List.length_set,<-HN.o];exact Z
    by_cases H:x.tag=N
    ·have hq:(x.tag==N)=true:=by simp[H]
     have ab:=Lh (show Cc W x={ x with ans:=true,tag:=N } from by unfold Cc;rw[ah.o,if_pos H]);have p1:=Rw.put AV G.o.way (i:=j) (q:=1) (x':={ x with ans:=true }) (u:=je true) aq.o (by omega) rfl;have O:=G.o.wayIn (AB.set (i:=j*4+1) (u:=je true) D.o) p1.1;have J:=D.o.set (j*4+1) (je true);have p2:=Rw.put AV (show Rw BI 4 107 lo _ (jd (some ⟨g,0,none⟩) (W.way.set j { x with ans:=true }).length cw) _ from by rw[List.length_set];exact p1.1) (i:=j) (q:=2) (x:={ x with ans:=true }) (x':={ x with ans:=true,tag:=N }) (u:=ja jb N) (by rw[List.getElem?_set_self (by rw[<-HN.o];exact Z)]) (by omega) rfl;have aG:=Lh (O.wayIn (AB.set (i:=j*4+2) (u:=ja jb N) J) (by rw[List.length_set]at p2;exact p2.1));have al:=Lh ((az.o.setCell (p:=⟨g,j*4+1,none⟩) X.o (je true)).setCell (p:=⟨g,j*4+2,none⟩) X.o (ja jb N));clear p1 p2 O J H;go_wp2_with fail;go_ret;rw[HR.o,ab.o];exact⟨_,_,_,_,rfl,(by have h:=aG.o;simp only[List.set_set]at h;exact h),al.o⟩
    ·have hq:(x.tag==N)=false:=by simp[H]
     have ab:=Lh (show Cc W x={ x with ans:=true,tag:=N,body:=W.cur } from by unfold Cc;rw[ah.o,if_neg H]);have q1:=Rw.put AV G.o.way (i:=j) (q:=3) (x':={ x with body:=W.cur }) (u:=jc W.cur) aq.o (by omega) rfl;have O:=G.o.wayIn (AB.set (i:=j*4+3) (u:=jc W.cur) D.o) q1.1;have J:=D.o.set (j*4+3) (jc W.cur);have q2:=Rw.put AV (show Rw BI 4 107 lo _ (jd (some ⟨g,0,none⟩) (W.way.set j { x with body:=W.cur }).length cw) _ from by rw[List.length_set];exact q1.1) (i:=j) (q:=1) (x:={ x with body:=W.cur }) (x':={ x with body:=W.cur,ans:=true }) (u:=je true) (by rw[List.getElem?_set_self (by rw[<-HN.o];exact Z)]) (by omega) rfl;rw[List.set_set]at q2;have ax:=O.wayIn (AB.set (i:=j*4+1) (u:=je true) J) (by rw[List.length_set]at q2;exact q2.1);have aA:=J.set (j*4+1) (je true);have q3:=Rw.put AV (show Rw BI 4 107 lo _ (jd (some ⟨g,0,none⟩) (W.way.set j { x with body:=W.cur,ans:=true }).length cw) _ from by rw[List.length_set]at q2 ⊢;exact q2.1) (i:=j) (q:=2) (x:={ x with body:=W.cur,ans:=true }) (x':={ x with ans:=true,tag:=N,body:=W.cur }) (u:=ja jb N) (by rw[List.getElem?_set_self (by rw[<-HN.o];exact Z)]) (by omega) rfl;rw[List.set_set]at q3;have aJ:=Lh (ax.wayIn (AB.set (i:=j*4+2) (u:=ja jb N) aA) (by rw[List.length_set]at q3;exact q3.1));have al:=Lh (((az.o.setCell (p:=⟨g,j*4+3,none⟩) X.o (jc W.cur)).setCell (p:=⟨g,j*4+1,none⟩) X.o (je true)).setCell (p:=⟨g,j*4+2,none⟩) X.o (ja jb N));clear q1 q2 q3 O ax J aA H;go_wp2_with fail;go_ret;rw[HR.o,ab.o];exact⟨_,_,_,_,rfl,aJ.o,al.o⟩
  ·have HR:=Lh (show Cb W s=(W,60)from by rw[HA.o,if_neg (by decide),if_pos aN.o.symm]);go_quiet ((go_at_call 48;exact Calls.quiet_of_same (av.o _)));go_wp2_with fail;go_ret;rw[HR.o];exact⟨_,_,_,_,rfl,U.o.made (below_drewN (Below.refl _ _) _),below_drewN (ae.o.mono aB.o) _⟩
