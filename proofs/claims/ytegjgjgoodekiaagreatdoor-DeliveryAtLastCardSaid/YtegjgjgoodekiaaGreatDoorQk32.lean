/- Deliveries: Do. Condition: none. Deliveries: Run. Condition: none. Deliveries: New, with one reader; the errors compared. Condition: none. -/
import Derived.Test.YtegjgjgoodekiaaGreatDoorQk30
import Derived.Test.YtegjgjgoodekiaaGreatDoorQk31
import Derived.Maps.AppendAt
open Go.Value renaming int->ja,string->jc,slice->jd,bool->je,pointer->jf,tuple->jg
open Go.IntKind renaming i64->jb
open Go.Ending renaming returned->jh
open Go.Obj renaming cells->ji
open Nat renaming le_refl->xa,le_trans->xc,zero_le->xj
open List renaming take_succ_eq_append_getElem->xb,getElem?_eq_some_iff->xd,getElem?_eq_getElem->xe,take_of_length_le->xf,length_map->xg,map_cons->xh,map_nil->xi,map_toArray->xk
open Int renaming toNat_natCast->xl
open Go.World.ownsRow renaming cells->xm
open Option.some renaming inj->xn
set_option maxRecDepth 100000
set_option maxHeartbeats 40000000
namespace Go.Proofs.YtegjgjgoodekiaaGreatDoor
open Go.RowKit
def Lb:A3:=⟨⟨#[]⟩,⟨#[]⟩,[],[]⟩
def Cn(W:A3)(s:D7):(A3 × List Bt) × Int:=
 if s.kind=1 then(((DP W s).1,[]),(DP W s).2)
 else if s.kind=2 then(((GM W s).1,[]),(GM W s).2)
 else if s.kind=3 then(((Cb W s).1,[]),(Cb W s).2)
 else if s.kind=4 then JF W [] s
 else if s.kind=5 then(((DW W s).1,[]),(DW W s).2)
 else if s.kind=6 then(((Lm W s).1,[]),(Lm W s).2)
 else(((Kf W s).1,[]),(Kf W s).2)
def Ds(W:A3)(s:D7):(A3 × List Bt) × Int:=
 if FR W=false then((Lb,[]),1)
 else if s.kind<1∨7<s.kind then((Lb,[]),4)
 else if(Cn W s).2≠0 then((Lb,[]),(Cn W s).2)else Cn W s
structure Own (lo:Nat) (w:World) (W:A3) (ns:List Bt) (vw vr vn:Value) (xs:List BZ):Prop where
 way:Rw BI 4 107 lo w vw W.way
 rds:Rw NB 3 47 lo w vr xs
 nts:Rw BM 4 56 lo w vn ns
 evs: ∀x∈xs,Av lo w (jd x.ao x.ts.length x.c) x.ts
 rmap:xs.map BZ.r=W.rds
theorem Own.zero(lo:Nat)(w:World):Own lo w Lb [] (jd none 0 0) (jd none 0 0) (jd none 0 0) []:=⟨Rw.nil _ _ _ _ _,Rw.nil _ _ _ _ _,Rw.nil _ _ _ _ _,fun x h=>(by cases h),rfl⟩
theorem Own.made{lo:Nat}{w w':World}{W:A3}{E:List Bt}{vw A D:Value}{xs:List BZ}(h:Own lo w W E vw A D xs)(hb:Below w.heap.size w w'):Own lo w' W E vw A D xs:=
 ⟨h.way.made hb,h.rds.made hb,h.nts.made hb,fun x hx=>(h.evs x hx).made hb,h.rmap⟩
theorem Own.mono{lo lo':Nat}{w:World}{W:A3}{E:List Bt}{vw A D:Value}{xs:List BZ}(h:Own lo w W E vw A D xs)(hb:lo'<=lo):Own lo' w W E vw A D xs:=
 ⟨h.way.mono hb,h.rds.mono hb,h.nts.mono hb,fun x hx=>(h.evs x hx).mono hb,h.rmap⟩
theorem Own.box{lo R:Nat}{cs:Array Value}{w:World}{W:A3}{E:List Bt}{vw F D:Value}{xs:List BZ}(h:Own lo w W E vw F D xs)(A:Af R cs 32 w)(i:Nat)(u:Value):Own lo (w.setCell ⟨R,i,none⟩ u) W E vw F D xs:=
 ⟨h.way.set A (by decide) i u,h.rds.set A (by decide) i u,h.nts.set A (by decide) i u,fun x hx=>(h.evs x hx).set A (by decide) (by decide) i u,h.rmap⟩
theorem Own.code{lo R:Nat}{cs:Array Value}{w:World}{W:A3}{E:List Bt}{vw F D:Value}{xs:List BZ}(h:Own lo w W E vw F D xs)(A:Af R cs 33 w)(i:Nat)(u:Value):Own lo (w.setCell ⟨R,i,none⟩ u) W E vw F D xs:=
 ⟨h.way.set A (by decide) i u,h.rds.set A (by decide) i u,h.nts.set A (by decide) i u,fun x hx=>(h.evs x hx).set A (by decide) (by decide) i u,h.rmap⟩
theorem Own.told{lo:Nat}{w w':World}{W:A3}{G D:List Bt}{vw E F A:Value}{xs:List BZ}(h:Own lo w W G vw E F xs)(hk:AB 56 w w')(hr:Rw BM 4 56 lo w' A D):Own lo w' W D vw E A xs:=
 ⟨AG h.way hk (by decide),AG h.rds hk (by decide),hr,fun x hx=>(h.evs x hx).keptT hk (by decide) (by decide),h.rmap⟩
theorem Bi.own{b lo:Nat}{w:World}{W:A3}{E:List Bt}{vw A D:Value}{xs:List BZ}(h:Bi b lo w W E vw A D xs):Own lo w W E vw A D xs:=⟨h.way,h.rds,h.nts,h.evs,h.rmap⟩
theorem Own.wat{lo:Nat}{w:World}{W:A3}{A:List Bt}{vw E D:Value}{xs:List BZ}(h:Own lo w W A vw E D xs): ∃aw cw ar cr an cn,vw=jd aw W.way.length cw/\E=jd ar W.rds.length cr/\D=jd an A.length cn/\Pr w.heap.size w W aw cw ar cr xs/\Rd BM w.heap.size w an A/\(an=none->cn=0):=by
 obtain⟨aw,cw,e1,F,r1⟩:=h.way.form;obtain⟨ar,cr,e2,H,r2⟩:=h.rds.form;obtain⟨an,cn,J,G,r3⟩:=h.nts.form;have hl:xs.length=W.rds.length:=by rw[<-h.rmap,xg]
 rw[hl]at e2;exact⟨aw,cw,ar,cr,an,cn,e1,e2,J,⟨r1,F,⟨r2,fun x hx=>Av.sgE (h.evs x hx)⟩,H,h.rmap⟩,r3,G⟩
def Fw(W:A3)(vw vr:Value):Array Value:=#[jc W.zone,jc W.cur,vw,vr]
def WU(X:(A3 × List Bt) × Int)(w:World)(e:Ending)(w':World):Prop:=
 ∃vw vr vn xs,e=jh (jg #[.agg (Fw X.1.1 vw vr),vn,ja jb X.2])/\Own w.heap.size w' X.1.1 X.1.2 vw vr vn xs/\Below w.heap.size w w'
theorem GH{R lo:Nat}{c0 c1 c2 c3:Value}{w w0:World}(h:Af R #[c0,c1,c2,c3] 32 w)(hb:Below lo w0 w)(hl:lo<=R)(a0 a1 a2 a3:Value): ∃Y,Y=(((w.setCell ⟨R,0,none⟩ a0).setCell ⟨R,1,none⟩ a1).setCell ⟨R,2,none⟩ a2).setCell ⟨R,3,none⟩ a3/\Af R #[a0,a1,a2,a3] 32 Y/\Below lo w0 Y/\Below R w Y/\Y.heap.size=w.heap.size:=
 ⟨_,rfl,(((h.set 0 a0).set 1 a1).set 2 a2).set 3 a3,(((hb.setCell (p:=⟨R,0,none⟩) hl a0).setCell (p:=⟨R,1,none⟩) hl a1).setCell (p:=⟨R,2,none⟩) hl a2).setCell (p:=⟨R,3,none⟩) hl a3,
  ((((Below.refl R w).setCell (p:=⟨R,0,none⟩) (xa _) a0).setCell (p:=⟨R,1,none⟩) (xa _) a1).setCell (p:=⟨R,2,none⟩) (xa _) a2).setCell (p:=⟨R,3,none⟩) (xa _) a3,by simp⟩
theorem Bi.aside{b lo R:Nat}{cs:Array Value}{w:World}{W:A3}{E:List Bt}{vw F D:Value}{xs:List BZ}(h:Bi b lo w W E vw F D xs)(A:Af R cs 32 w)(i:Nat)(u:Value):Bi b lo (w.setCell ⟨R,i,none⟩ u) W E vw F D xs:=
 ⟨h.box.set_other (h.box.ne A (by decide)) i u,h.ge,h.way.set A (by decide) i u,h.rds.set A (by decide) i u,h.nts.set A (by decide) i u,fun x hx=>(h.evs x hx).set A (by decide) (by decide) i u,h.rmap⟩
theorem Oo(N:Nat)(args:Array Value)(w:World)(h:22<=N)(D:N<=28):Sem.run Tryz.prog (callFunc N args) w=.ok (.enter N args) w:=by
 have A:N=22∨N=23∨N=24∨N=25∨N=26∨N=27∨N=28:=by omega
 rcases A with rfl | rfl | rfl | rfl | rfl | rfl | rfl
 ·exact Tryz.call22 _ _
 ·exact Tryz.call23 _ _
 ·exact Tryz.call24 _ _
 ·exact Tryz.call25 _ _
 ·exact Tryz.call26 _ _
 ·exact Tryz.call27 _ _
 ·exact Tryz.call28 _ _
theorem WG(W:A3)(s:D7)(A:BF W)(U:1<=s.kind)(T:s.kind<=7)(b lo:Nat)(vw G F:Value)(xs:List BZ)(D:Option Addr)(E:Nat)(w:World)(H:Bi b lo w W [] vw G F xs)(hlo:lo<=w.heap.size)(M:Eu w)(R:6<lo)(O:GQ w.heap.size w D s.es)(J:s.es.length<=4611686018427387903):
  Calls Tryz.prog (21+s.kind).toNat #[jf (some ⟨b,0,none⟩),DN s D E] w (Ff b lo (Cn W s) w):=by
 have hc:s.kind=1∨s.kind=2∨s.kind=3∨s.kind=4∨s.kind=5∨s.kind=6∨s.kind=7:=by omega
 unfold Cn;rcases hc with h | h | h | h | h | h | h<;>rw[h]
 ·exact Wa b lo W [] vw G F xs s D E w H hlo A.way A.zone M O J
 ·exact Wn b lo W [] vw G F xs s D E w H hlo A.way
 ·exact Tz b lo W [] vw G F xs s D E w H hlo A.way A.zone A.size M
 ·exact QP b lo W [] vw G F xs s D E w H hlo A.way A M R (by simp)
 ·exact Vf b lo W [] vw G F xs s D E w H hlo A.way
 ·exact RA b lo W [] vw G F xs s D E w H hlo A.way
 ·exact Wk b lo W [] vw G F xs s D E w H hlo A.way
theorem VG(W:A3)(s:D7)(aw ar af:Option Addr)(cw cr cf:Nat)(xs:List BZ)(w:World)(hA:Pr w.heap.size w W aw cw ar cr xs)(hG:Eu w)(aY:W.way.length<=4611686018427387903)(aO:W.rds.length<=4611686018427387903)(aT: ∀x∈xs,x.ts.length<=4611686018427387903)(hE:GQ w.heap.size w af s.es)(aP:s.es.length<=4611686018427387903)(aS: -9223372036854775808<=s.kind)(aU:s.kind<=9223372036854775807):
  Calls Tryz.prog 10 #[.agg (DD W aw cw ar cr),DN s af cf] w (WU (Ds W s) w):=by
 obtain⟨Z,O⟩: ∃Z,Z=((w.alloc (ji (DD W aw cw ar cr) 32)).alloc (ji #[ja jb s.kind,ja jb s.pos,ja jb s.n,jc s.fn,ja jb s.fv,jd af s.es.length cf] 43)).alloc (ji #[jc ⟨#[]⟩,jc ⟨#[]⟩,jd none 0 0,jd none 0 0] 32):=⟨_,rfl⟩
 obtain⟨P,hP⟩: ∃P,P=w.heap.size:=⟨_,rfl⟩
 have ab:=Lh (show Below w.heap.size w Z from by rw[O];exact((Aa w _).alloc (by simp) _).alloc (by simp;omega) _);have bp:Z.heap.size=P+3:=by rw[O,hP];simp
 have T:=Lh (show Af P (DD W aw cw ar cr) 32 Z from by rw[O,hP];exact((Af.new w _ _).alloc _).alloc _);have aG:=Lh (show Af (P+1) #[ja jb s.kind,ja jb s.pos,ja jb s.n,jc s.fn,ja jb s.fv,jd af s.es.length cf] 43 Z from by rw[O,hP];exact(Af.new' (g:=w.heap.size+1) _ _ _ (by simp)).alloc _);have av:=Lh (show Af (P+1+1) #[jc ⟨#[]⟩,jc ⟨#[]⟩,jd none 0 0,jd none 0 0] 32 Z from by rw[O,hP];exact Af.new' (g:=w.heap.size+1+1) _ _ _ (by simp));have HA:=Lh ((hA.below ab.o).mono (show w.heap.size<=Z.heap.size by omega));have aF:=Lh (hG.made ab.o);have aA:=Lh (LV W aw ar cw cr xs Z HA.o aF.o aY aO aT);have aL:=Lh (hE.below ab.o);have HK:=Lh (show Af P (DD W aw cw ar cr) 32 Z/\True from⟨T.o,trivial⟩);obtain⟨V,hV⟩: ∃V,V=FR W:=⟨_,rfl⟩
 have HV:=Lh hV;rw[<-hV]at aA;have bt:=Lh hG.sz;have bs:=@run_makeMap Tryz.prog;have bh:=Lh hP;have bg:=Lh aP;have bi:=Lh aS;have a7:=Lh aU;have p0:Z.cell? ⟨P,0,none⟩=some (jc W.zone):=T.o.cell 0;have p1:Z.cell? ⟨P,1,none⟩=some (jc W.cur):=T.o.cell 1;have p2:Z.cell? ⟨P,2,none⟩=some (jd aw W.way.length cw):=T.o.cell 2;have p3:Z.cell? ⟨P,3,none⟩=some (jd ar W.rds.length cr):=T.o.cell 3;unfold DN;unfold DD at O aA ⊢;clear hA hG aY aO aT hE aP hV aS aU;go_enter Tryz.func10,Tryz.ntmps10;go_upto_region 1 with(fail);rw[<-O,<-hP];clear O hP;go_wp2_with fail;refine aA.o.mono ?_;rintro e w1 ⟨rfl,hb1⟩;obtain⟨R,hR⟩: ∃R,R=P+1+1:=⟨_,rfl⟩
 rw[<-hR]at av ⊢;have G:=Lh (av.o.below hb1 av.o.lt);have U:=Lh (ab.o.trans (hb1.mono ab.o.size));have bl:=Lh (show P+2=R from by omega);have aq:w.heap.size<=R:=by have:=bh.o;omega
 have f0:w1.frozen? ⟨R,0,none⟩=false:=G.o.frozen 0;have f1:w1.frozen? ⟨R,1,none⟩=false:=G.o.frozen 1;have f2:w1.frozen? ⟨R,2,none⟩=false:=G.o.frozen 2;have f3:w1.frozen? ⟨R,3,none⟩=false:=G.o.frozen 3;have r0:w1.cell? ⟨R,0,none⟩=some (jc ⟨#[]⟩):=G.o.cell 0;have r1:w1.cell? ⟨R,1,none⟩=some (jc ⟨#[]⟩):=G.o.cell 1;have r2:w1.cell? ⟨R,2,none⟩=some (jd none 0 0):=G.o.cell 2;have r3:w1.cell? ⟨R,3,none⟩=some (jd none 0 0):=G.o.cell 3;clear hR;cases V
 ·have HD:=Lh (show Ds W s=((Lb,[]),1)from if_pos HV.o.symm);go_wp2_with fail;obtain⟨Y,hY,M,J, -, -⟩:=GH G.o U.o aq (jc ⟨#[]⟩) (jc ⟨#[]⟩) (jd none 0 0) (jd none 0 0);rw[<-hY];clear hY r0 r1 r2 r3;have r0:=M.c4;refine bodyPost_ret (v:=jg #[.agg #[jc ⟨#[]⟩,jc ⟨#[]⟩,jd none 0 0,jd none 0 0],jd none 0 0,ja jb 1]) (by simp[results,Tryz.results10,go_sem,r0]) rfl ?_;rw[HD.o];exact⟨_,_,_,[],rfl,Own.zero _ _,J⟩
 ·have aQ:=Lh ((CN W).1 HV.o.symm);have aM:=Lh (HA.o.below hb1);have ae:=Lh (aG.o.below hb1 aG.o.lt);have ah:=Lh (T.o.below hb1 T.o.lt);have aI:=Lh (aF.o.made hb1);have aV:=Lh (aL.o.below (hb1.mono ab.o.size));obtain⟨u1,u2,u3,u4,u5,u6,u7,m1,m2,m3,m4,m5,m6,m7,aR,ag⟩:=Gj.all w1;simp only[He,show(21+(1:Int)).toNat=22 from rfl,show(21+(2:Int)).toNat=23 from rfl,show(21+(3:Int)).toNat=24 from rfl,show(21+(4:Int)).toNat=25 from rfl,show(21+(5:Int)).toNat=26 from rfl,show(21+(6:Int)).toNat=27 from rfl,show(21+(7:Int)).toNat=28 from rfl]at m1 m2 m3 m4 m5 m6 m7;have a6:=Lh aR;have ac:=Lh ag;have E:=Lh (G.o.below ag G.o.lt);have F:=Lh (ae.o.below ag ae.o.lt);have aa:=Lh (ah.o.below ag ah.o.lt);have g0:u7.cell? ⟨P+1,0,none⟩=some (ja jb s.kind):=F.o.cell 0;have g1:u7.cell? ⟨P+1,1,none⟩=some (ja jb s.pos):=F.o.cell 1;have g2:u7.cell? ⟨P+1,2,none⟩=some (ja jb s.n):=F.o.cell 2;have g3:u7.cell? ⟨P+1,3,none⟩=some (jc s.fn):=F.o.cell 3;have g4:u7.cell? ⟨P+1,4,none⟩=some (ja jb s.fv):=F.o.cell 4;have g5:u7.cell? ⟨P+1,5,none⟩=some (jd af s.es.length cf):=F.o.cell 5;clear aR ag;by_cases aN:s.kind<1∨7<s.kind
  ·have aj:=Gj.look_no a6.o s.kind (by omega) bi.o a7.o;have HD:=Lh (show Ds W s=((Lb,[]),4)from by unfold Ds;rw[if_neg (by rw[<-HV.o];decide),if_pos aN]);have f0:u7.frozen? ⟨R,0,none⟩=false:=E.o.frozen 0;have f1:u7.frozen? ⟨R,1,none⟩=false:=E.o.frozen 1;have f2:u7.frozen? ⟨R,2,none⟩=false:=E.o.frozen 2;have f3:u7.frozen? ⟨R,3,none⟩=false:=E.o.frozen 3;have r0:u7.cell? ⟨R,0,none⟩=some (jc ⟨#[]⟩):=E.o.cell 0;have r1:u7.cell? ⟨R,1,none⟩=some (jc ⟨#[]⟩):=E.o.cell 1;have r2:u7.cell? ⟨R,2,none⟩=some (jd none 0 0):=E.o.cell 2;have r3:u7.cell? ⟨R,3,none⟩=some (jd none 0 0):=E.o.cell 3;have A:=Lh (U.o.trans (ac.o.mono U.o.size));go_wp2_with fail;obtain⟨Y,hY,M,J, -, -⟩:=GH E.o A.o aq (jc ⟨#[]⟩) (jc ⟨#[]⟩) (jd none 0 0) (jd none 0 0);rw[<-hY];clear hY r0;have r0:=M.c4;refine bodyPost_ret (v:=jg #[.agg #[jc ⟨#[]⟩,jc ⟨#[]⟩,jd none 0 0,jd none 0 0],jd none 0 0,ja jb 4]) (by simp[results,Tryz.results10,go_sem,r0]) rfl ?_;rw[HD.o];exact⟨_,_,_,[],rfl,Own.zero _ _,J⟩
  ·have aj:=Gj.look_yes a6.o (by omega) s.kind (by omega) (by omega);unfold He at aj;obtain⟨N,hN⟩: ∃N,N=(21+s.kind).toNat:=⟨_,rfl⟩
   rw[<-hN]at aj;have aX:=Lh (show 22<=N/\N<=28 from by omega);have bj:=Lh ((aM.o.below (ac.o.mono hb1.size)).mono (show Z.heap.size<=u7.heap.size from xc hb1.size ac.o.size));have aZ:=Lh (aI.o.made ac.o);have ba:=Lh (aV.o.below (ac.o.mono U.o.size));have A:=Lh (U.o.trans (ac.o.mono U.o.size));have aW:=Lh (Pp W aw ar cw cr xs u7 bj.o aQ.o);have aK:Hid (∀(q:World) (b:Nat) (vw vr vn:Value) (ys:List BZ),Bi b u7.heap.size q W [] vw vr vn ys->Below u7.heap.size u7 q->Calls Tryz.prog N #[jf (some ⟨b,0,none⟩),.agg #[ja jb s.kind,ja jb s.pos,ja jb s.n,jc s.fn,ja jb s.fv,jd af s.es.length cf]] q (Ff b u7.heap.size (Cn W s) q)):=Lh (fun q b vw vr vn ys hm hb=>by
    rw[hN];exact WG W s aQ.o (by omega) (by omega) b u7.heap.size vw vr vn ys af cf q hm hb.size (aZ.o.made hb) aZ.o.sz (by
     have h:=ba.o.below (hb.mono A.o.size);rcases h with h | ⟨b',o',ha,a8,hc⟩
     ·exact .inl h
     ·exact .inr ⟨b',o',ha,Nat.lt_of_lt_of_le a8 (xc A.o.size hb.size),fun j e hj=>by
       obtain⟨q1,v1,v2,q2,q3,q4⟩:=hc j e hj;exact⟨q1,v1,v2,q2,q3.mono (xc A.o.size hb.size),q4.mono (xc A.o.size hb.size)⟩⟩) bg.o)
   have aD:=Lh (show Ds W s=if(Cn W s).2≠0 then((Lb,[]),(Cn W s).2)else Cn W s from by unfold Ds;rw[if_neg (by rw[<-HV.o];decide),if_neg aN]);have p0:u7.cell? ⟨P,0,none⟩=some (jc W.zone):=aa.o.cell 0;have p1:u7.cell? ⟨P,1,none⟩=some (jc W.cur):=aa.o.cell 1;have p2:u7.cell? ⟨P,2,none⟩=some (jd aw W.way.length cw):=aa.o.cell 2;have p3:u7.cell? ⟨P,3,none⟩=some (jd ar W.rds.length cr):=aa.o.cell 3;have bk:R<u7.heap.size:=E.o.lt;clear hN f0 f1 f2 f3 r0 aV aI aM ae ah G U T aG av HA aF aL HK;unfold DD at aW;go_wp2_with fail;refine aW.o.mono ?_;rintro e w4 ⟨b,vw,vr,vn,ys,rfl,aC,ak⟩;have bn:=Lh aC;have aJ:=Lh ak;have H:=Lh (F.o.below ak F.o.lt);have bc:=Lh (aK.o w4 b vw vr vn ys aC ak);have g0:w4.cell? ⟨P+1,0,none⟩=some (ja jb s.kind):=H.o.cell 0;have g1:w4.cell? ⟨P+1,1,none⟩=some (ja jb s.pos):=H.o.cell 1;have g2:w4.cell? ⟨P+1,2,none⟩=some (ja jb s.n):=H.o.cell 2;have g3:w4.cell? ⟨P+1,3,none⟩=some (jc s.fn):=H.o.cell 3;have g4:w4.cell? ⟨P+1,4,none⟩=some (ja jb s.fv):=H.o.cell 4;have g5:w4.cell? ⟨P+1,5,none⟩=some (jd af s.es.length cf):=H.o.cell 5;clear aC ak aK m1 m2 m3 m4 m5 m6 m7 aj p0 p1 p2 p3;go_wp2_with fail;rw[Oo N _ _ aX.o.1 aX.o.2];refine bc.o.mono ?_;rintro e w5 ⟨bq,br,bo,be,rfl,bf,aB⟩;have au:=Lh bf;have bm:=Lh aB;have ay:=Lh (A.o.trans ((aJ.o.mono A.o.size).trans (aB.mono A.o.size)));have D:=Lh ((E.o.below aJ.o E.o.lt).below aB E.o.lt);obtain⟨X,hX⟩: ∃X,X=Cn W s:=⟨_,rfl⟩
   rw[<-hX]at au aD ⊢;clear hX;have f0:w5.frozen? ⟨R,0,none⟩=false:=D.o.frozen 0;have f1:w5.frozen? ⟨R,1,none⟩=false:=D.o.frozen 1;have f2:w5.frozen? ⟨R,2,none⟩=false:=D.o.frozen 2;have f3:w5.frozen? ⟨R,3,none⟩=false:=D.o.frozen 3;have r0:w5.cell? ⟨R,0,none⟩=some (jc ⟨#[]⟩):=D.o.cell 0;have r1:w5.cell? ⟨R,1,none⟩=some (jc ⟨#[]⟩):=D.o.cell 1;have r2:w5.cell? ⟨R,2,none⟩=some (jd none 0 0):=D.o.cell 2;have r3:w5.cell? ⟨R,3,none⟩=some (jd none 0 0):=D.o.cell 3;by_cases hx:X.2=0
   ·have HD:=Lh (show Ds W s=X from aD.o.trans (if_neg (fun hn=>hn hx)));obtain⟨al,am,ax,ap,aE,az,rfl,rfl,rfl, -, -, -⟩:=au.o.own.wat;have ai:=Lh au.o.box;have b0:w5.cell? ⟨b,0,none⟩=some (jc X.1.1.zone):=ai.o.cell 0;have b1:w5.cell? ⟨b,1,none⟩=some (jc X.1.1.cur):=ai.o.cell 1;have b2:w5.cell? ⟨b,2,none⟩=some (jd al X.1.1.way.length am):=ai.o.cell 2;have b3:w5.cell? ⟨b,3,none⟩=some (jd ax X.1.1.rds.length ap):=ai.o.cell 3;have b4:w5.cell? ⟨b,4,none⟩=some (jd aE X.1.2.length az):=ai.o.cell 4;clear g0 g1 g2 g3 g4 g5;go_upto_region 11 with(fail)
    go_region
    all_goals
     go_wp2_with fail;obtain⟨Y,hY,M,J, -, -⟩:=GH D.o ay.o aq (jc X.1.1.zone) (jc X.1.1.cur) (jd al X.1.1.way.length am) (jd ax X.1.1.rds.length ap);have aH:Bi b u7.heap.size Y X.1.1 X.1.2 (jd al X.1.1.way.length am) (jd ax X.1.1.rds.length ap) (jd aE X.1.2.length az) be:=by
      rw[hY];exact(((au.o.aside D.o 0 _).aside (D.o.set 0 _) 1 _).aside ((D.o.set 0 _).set 1 _) 2 _).aside (((D.o.set 0 _).set 1 _).set 2 _) 3 _
     rw[<-hY];clear hY r0;have aH:=aH.made (Ac (Below.refl _ _));have M:=M.draw;have J:=Ac J;have r0:=M.c4;refine bodyPost_ret (v:=jg #[.agg #[jc X.1.1.zone,jc X.1.1.cur,(jd al X.1.1.way.length am),(jd ax X.1.1.rds.length ap)],(jd aE X.1.2.length az),ja jb 0]) (by simp[results,Tryz.results10,go_sem,r0]) rfl ?_;rw[HD.o];exact⟨_,_,_,_,by rw[<-hx];rfl,aH.own.mono A.o.size,J⟩
   ·have HD:=Lh (show Ds W s=((Lb,[]),X.2)from aD.o.trans (if_pos hx));go_wp2_with fail;obtain⟨Y,hY,M,J, -, -⟩:=GH D.o ay.o aq (jc ⟨#[]⟩) (jc ⟨#[]⟩) (jd none 0 0) (jd none 0 0);rw[<-hY];clear hY r0;have r0:=M.c4;refine bodyPost_ret (v:=jg #[.agg #[jc ⟨#[]⟩,jc ⟨#[]⟩,jd none 0 0,jd none 0 0],jd none 0 0,ja jb X.2]) (by simp[results,Tryz.results10,go_sem,r0]) rfl ?_;rw[HD.o];exact⟨_,_,_,[],rfl,Own.zero _ _,J⟩
theorem C1{P:Program}{w:World}{ops:Array Oper}{o:Oper}{a:Act}{K:Act->World->Prop}{Q:Exit->Act->World->Prop}{E:Prop}(V:o.guard=none)(s x:Operand)(t:TypeId)
  (ho:o.op=.call { callee:=.builtin .append,args:=#[s,x],argTypes:=#[t,t] })
  (base:Nat) (e:TypeId) (i:TypeInfo) (z:Value) (size D:Nat) (ht:P.underlying t=some (.slice e)) (hi:P.info? e=some i) (hz:i.zero=some z)
  (M:i.size=size) (R:i.bytes=D) (O:z.cells.size=size) (T:0<size)
  (v:Value) (n:Nat) (xs:List Value) (hs:a.eval s=v) (F:w.ownsRow base e size v n xs)
  (an:Option Addr) (m c:Nat) (A:List Value) (hx:a.eval x=jd an m c) (hl:A.length=m*size) (J:(an=none/\m=0/\c=0)∨ ∃ad,an=some ad/\ ∀j u,A[j]?=some u->w.cell? (ad.add j)=some u) (h1: ∀u∈A,u.oneCell'=true)
  (U:n+m<=maxLen) (G:(n+m)*D<=140737488355328) (H:base<=w.heap.size)
  (h: ∀v' w',w'.ownsRow base e size v' (n+m) (xs++A)->w.grownBy w' v.ownBlock->K (a.put o.dst v') w'):
  if Region.wanted o (yielded ops a.tmps)=true then Oper.wp P o a w K Q else E:=by
 have Z:Region.wanted o (yielded ops a.tmps)=true:=by simp[Region.wanted,V]
 rw[if_pos Z];rcases J with⟨rfl,rfl,rfl⟩ | ⟨ad,rfl,hc⟩
 ·have hn:A=[]:=List.eq_nil_of_length_eq_zero (by rw[hl,Nat.zero_mul]);subst hn;have hr:=run_append_owned_none (P:=P) (w:=w) base t o.type e i size ht hi v n xs F;unfold Oper.wp execOp;simp only[ho,resolve,invoke,builtin,Sem.run_bind,Sem.run_pure,Result.andThen_ok,xk,xh,xi,hs,hx,hr];exact h v w (by simpa using F) (World.grownBy.refl w _)
 ·obtain⟨v',w',hr,X,Y, -, -⟩:=run_append_own_at (P:=P) w base t o.type e i z size D ht hi hz M R O T v n xs F ad m c A hl hc h1 U G H;unfold Oper.wp execOp;simp only[ho,resolve,invoke,builtin,Sem.run_bind,Sem.run_pure,Result.andThen_ok,xk,xh,xi,hs,hx,hr];exact h v' w' X Y
structure Fu where
 s:D7
 af:Option Addr
 cf:Nat
def JW(x:Fu):List Value:=[ja jb x.s.kind,ja jb x.s.pos,ja jb x.s.n,jc x.s.fn,ja jb x.s.fv,jd x.af x.s.es.length x.cf]
theorem Li(x:Fu):(JW x).length=6:=rfl
def EK(a:(A3 × List Bt) × List Int)(s:D7):(A3 × List Bt) × List Int:=
 if(Ds a.1.1 s).2=0 then(((Ds a.1.1 s).1.1,a.1.2++(Ds a.1.1 s).1.2),a.2++[0])else(a.1,a.2++[(Ds a.1.1 s).2])
def A6(W:A3)(ss:List D7):(A3 × List Bt) × List Int:=ss.foldl EK ((W,[]),[])
theorem Gt(W:A3):A6 W []=((W,[]),[]):=rfl
theorem Bw(W:A3)(w:List D7)(s:D7):A6 W (w++[s])=EK (A6 W w) s:=by unfold A6;rw[List.foldl_append];rfl
theorem PC(a:(A3 × List Bt) × List Int)(s:D7):(EK a s).2.length=a.2.length+1:=by unfold EK;split<;>simp
theorem Ml(W:A3): ∀ss:List D7,(A6 W ss).2.length=ss.length:=by
 intro ss;suffices h: ∀(ss:List D7) a,(ss.foldl EK a).2.length=a.2.length+ss.length by unfold A6;simpa using h ss ((W,[]),[])
 intro ss;induction ss with
 | nil=>intro a;simp
 | cons s r ih=>intro a;rw[List.foldl_cons,ih,PC,List.length_cons];omega
def W7(X:(A3 × List Bt) × List Int)(w:World)(e:Ending)(w':World):Prop:=
 ∃vw vr vn xs ge arr,e=jh (jg #[.agg (Fw X.1.1 vw vr),vn,jd (some ⟨ge,0,none⟩) X.2.length X.2.length])/\Own w.heap.size w' X.1.1 X.1.2 vw vr vn xs/\Af ge arr 33 w'/\w.heap.size<=ge/\(∀(j:Nat) c,X.2[j]?=some c->arr[j]?=some (ja jb c))/\Below w.heap.size w w'
theorem Gn{W:A3}(h:BF W){xs:List BZ}(hm:xs.map BZ.r=W.rds): ∀x∈xs,x.ts.length<=4611686018427387903:=fun x hx=>by
 have A:=h.rds x.r (by rw[<-hm];exact List.mem_map_of_mem hx);have w:=((BT _ _).1 A).2.2.1;unfold BZ.r at w;simp only[xg]at w;omega
theorem WC(n:Nat)(hn:n<=1000)(w:World): ∃arr:Array Value,arr.size=n/\(Instr.makeSlice 48 (ja jb (n:Int)) (ja jb (n:Int))).run Tryz.prog w=.ok (jd (some ⟨w.heap.size,0,none⟩) n n) (w.alloc (ji arr 33)):=by
 obtain⟨i0,hi,A,D,E⟩:=info_parts T4;refine⟨madeCells (ja jb 0).cells (n*1),by rw[size_madeCells,Nat.mul_one],?_⟩;have hr:=run_make (P:=Tryz.prog) w 48 33 i0 _ Tryz.underlying48 hi A .i64 .i64 n n (by omega) (Int.le_refl _) (by rw[E];omega) (by omega);simp only[xl,D]at hr;exact hr
theorem UF(W:A3)(zs:List Fu)(aw ar az:Option Addr)(cw cr cz:Nat)(xs:List BZ)(w:World)(hA:Pr w.heap.size w W aw cw ar cr xs)(hG:Eu w)(hS:Rd JW w.heap.size w az zs)(hE: ∀x∈zs,GQ w.heap.size w x.af x.s.es)(hz:zs.length<=1000)
  (hv: ∀i,i<=zs.length->BF (A6 W ((zs.take i).map Fu.s)).1.1) (cD: ∀i,i<=zs.length->(A6 W ((zs.take i).map Fu.s)).1.2.length<=1000000) (cq: ∀i x,zs[i]?=some x->(Ds (A6 W ((zs.take i).map Fu.s)).1.1 x.s).1.2.length<=1000000)
  (bW: ∀x∈zs,x.s.es.length<=4611686018427387903) (hk: ∀x∈zs, -9223372036854775808<=x.s.kind/\x.s.kind<=9223372036854775807):
  Calls Tryz.prog 11 #[.agg (DD W aw cw ar cr),jd az zs.length cz] w (W7 (A6 W (zs.map Fu.s)) w):=by
 obtain⟨W0,aD⟩: ∃W0,W0=(w.alloc (ji (DD W aw cw ar cr) 32)).alloc (ji #[jc ⟨#[]⟩,jc ⟨#[]⟩,jd none 0 0,jd none 0 0] 32):=⟨_,rfl⟩
 obtain⟨P,hP⟩: ∃P,P=w.heap.size:=⟨_,rfl⟩
 obtain⟨n,hn⟩: ∃n,n=zs.length:=⟨_,rfl⟩
 obtain⟨F,bZ,cd⟩:=WC n (by omega) W0;obtain⟨W1,aN⟩: ∃W1,W1=W0.alloc (ji F 33):=⟨_,rfl⟩
 have bC:=(show Below w.heap.size w W0 from by rw[aD];exact(Aa w _).alloc (by simp) _)
 have bX:W0.heap.size=P+2:=by rw[aD,hP];simp
 have aO:=Lh (show Below w.heap.size w W1 from by rw[aN];exact bC.alloc bC.size _);have aK:=Lh (show Af P (DD W aw cw ar cr) 32 W1 from by rw[aN,aD,hP];exact((Af.new w _ _).alloc _).alloc _);have bH:=Lh (show Af (P+1) #[jc ⟨#[]⟩,jc ⟨#[]⟩,jd none 0 0,jd none 0 0] 32 W1 from by rw[aN,aD,hP];exact(Af.new' (g:=w.heap.size+1) _ _ _ (by simp)).alloc _);have bN:=Lh (show Af (P+2) F 33 W1 from by rw[aN,<-bX];exact Af.new W0 _ _);have db:=Lh hv;have aR:BF W:=hv 0 (xj _);have HA:=Lh ((hA.below aO.o).mono (show w.heap.size<=W1.heap.size from aO.o.size));have cB:=Lh (hG.made aO.o);have bs:=Lh (LV W aw ar cw cr xs W1 HA.o cB.o (by have:=aR.way;omega) (by have:=aR.few;omega) (Gn aR hA.rmap));rw[(CN W).2 aR]at bs;have HN:=Lh hn;have cY:=Lh hP;have cX:=Lh cD;have cN:=Lh cq;have cL:=Lh bW;have HK:=Lh hk;have HS:=Lh hS;have HE:=Lh hE;have HG:=Lh hG;have cO:=Lh aR;have dm:n<=1000:=by omega
 have p0:W1.cell? ⟨P,0,none⟩=some (jc W.zone):=aK.o.cell 0;have p1:W1.cell? ⟨P,1,none⟩=some (jc W.cur):=aK.o.cell 1;have p2:W1.cell? ⟨P,2,none⟩=some (jd aw W.way.length cw):=aK.o.cell 2;have p3:W1.cell? ⟨P,3,none⟩=some (jd ar W.rds.length cr):=aK.o.cell 3;have bq:=Lh bZ;rw[bX]at cd;rw[<-hn];unfold DD at aD bs ⊢;clear hA hG hS hE hv cD bW hk hn bC aR hz cq;go_enter Tryz.func11,Tryz.ntmps11;go_upto_region 1 with(fail);rw[<-aD,<-hP];clear aD hP;go_upto_region 2 with(fail);rw[<-aN];clear cd aN;go_wp2_with fail;refine bs.o.mono ?_;rintro e w1 ⟨rfl,hb1⟩;have ba:=Lh (aO.o.trans (hb1.mono aO.o.size));have cj:=Lh (HA.o.below hb1);have aG:=Lh (aK.o.below hb1 aK.o.lt);have bF:=Lh (bH.o.below hb1 bH.o.lt);have bM:=Lh (bN.o.below hb1 bN.o.lt);have bO:=Lh (Pp W aw ar cw cr xs w1 (cj.o.mono hb1.size) cO.o);have p0:w1.cell? ⟨P,0,none⟩=some (jc W.zone):=aG.o.cell 0;have p1:w1.cell? ⟨P,1,none⟩=some (jc W.cur):=aG.o.cell 1;have p2:w1.cell? ⟨P,2,none⟩=some (jd aw W.way.length cw):=aG.o.cell 2;have p3:w1.cell? ⟨P,3,none⟩=some (jd ar W.rds.length cr):=aG.o.cell 3;unfold DD at bO;clear hb1 aO HA aK bH bN cB;go_wp2_with fail;refine bO.o.mono ?_;rintro e w2 ⟨b,vw,vr,vn,ys,rfl,cp,aU⟩;have bf:=Lh cp;have bS:=Lh (ba.o.trans (aU.mono ba.o.size));have H:=Lh (aG.o.below aU aG.o.lt);have ci:=Lh (bF.o.below aU bF.o.lt);have co:=Lh (bM.o.below aU bM.o.lt);obtain⟨bl,bm,bk,bn,dt,df,rfl,rfl,rfl, -, -, -⟩:=bf.o.own.wat;have aW:=Lh bf.o.box;have b0:w2.cell? ⟨b,0,none⟩=some (jc W.zone):=aW.o.cell 0;have b1:w2.cell? ⟨b,1,none⟩=some (jc W.cur):=aW.o.cell 1;have b2:w2.cell? ⟨b,2,none⟩=some (jd bl W.way.length bm):=aW.o.cell 2;have b3:w2.cell? ⟨b,3,none⟩=some (jd bk W.rds.length bn):=aW.o.cell 3;have p0:w2.cell? ⟨P,0,none⟩=some (jc W.zone):=H.o.cell 0;have p1:w2.cell? ⟨P,1,none⟩=some (jc W.cur):=H.o.cell 1;have p2:w2.cell? ⟨P,2,none⟩=some (jd aw W.way.length cw):=H.o.cell 2;have p3:w2.cell? ⟨P,3,none⟩=some (jd ar W.rds.length cr):=H.o.cell 3;have f0:w2.frozen? ⟨P,0,none⟩=false:=H.o.frozen 0;have f1:w2.frozen? ⟨P,1,none⟩=false:=H.o.frozen 1;have f2:w2.frozen? ⟨P,2,none⟩=false:=H.o.frozen 2;have f3:w2.frozen? ⟨P,3,none⟩=false:=H.o.frozen 3;have cu:=Lh ba.o.size;clear cp aU ba cj aG bF bM bO;go_upto_region 10 with(fail);have bP:w.heap.size<=P:=by rw[cY.o];exact xa _
 obtain⟨Y,hY,bh,aH, -, -⟩:=GH H.o bS.o bP (jc W.zone) (jc W.cur) (jd bl W.way.length bm) (jd bk W.rds.length bn);have ce:Own w.heap.size Y W [] (jd bl W.way.length bm) (jd bk W.rds.length bn) (jd none 0 0) ys:=by
  have h:=((((bf.o.own.mono cu.o).box H.o 0 (jc W.zone)).box (H.o.set 0 _) 1 (jc W.cur)).box ((H.o.set 0 _).set 1 _) 2 (jd bl W.way.length bm)).box (((H.o.set 0 _).set 1 _).set 2 _) 3 (jd bk W.rds.length bn);rw[hY];exact⟨h.way,h.rds,Rw.nil _ _ _ _ _,h.evs,h.rmap⟩
 have aT:=Lh (show Af (P+1) #[jc ⟨#[]⟩,jc ⟨#[]⟩,jd none 0 0,jd none 0 0] 32 Y from by
  rw[hY];exact(((ci.o.set_other (by omega) 0 _).set_other (by omega) 1 _).set_other (by omega) 2 _).set_other (by omega) 3 _)
 have al:=Lh (show Af (P+2) F 33 Y from by
  rw[hY];exact(((co.o.set_other (by omega) 0 _).set_other (by omega) 1 _).set_other (by omega) 2 _).set_other (by omega) 3 _)
 rw[<-hY];have bY:=Lh ce;have aX:=Lh bh;have aV:=Lh aH;clear ce bh aH hY f0 f1 f2 f3 p0 p1 p2 p3 b0 b1 b2 b3 aW bf bS H ci co;obtain⟨lo,hlo⟩: ∃lo,lo=w.heap.size:=⟨_,rfl⟩
 rw[<-hlo]at bP;have aj:=Lh hlo;clear hlo;go_upto_region 11 with(fail);go_wp2_with fail;go_loopw [9,39] (fun tv iv wr=> ∃(k:Nat) (vw vr vn:Value) (ys:List BZ) (F:Array Value),iv=ja jb k/\tv=vn/\k<=n/\Hid (Own lo wr (A6 W ((zs.take k).map Fu.s)).1.1 (A6 W ((zs.take k).map Fu.s)).1.2 vw vr vn ys)/\Hid (Af P (Fw (A6 W ((zs.take k).map Fu.s)).1.1 vw vr) 32 wr)/\Hid (Af (P+1) #[jc ⟨#[]⟩,jc ⟨#[]⟩,jd none 0 0,jd none 0 0] 32 wr)/\Hid (Af (P+2) F 33 wr)/\Hid (F.size=n/\ ∀(j:Nat) c,(A6 W ((zs.take k).map Fu.s)).2[j]?=some c->F[j]?=some (ja jb c))/\Hid (Below lo w wr)) (fun _ iv _=>n - (intOf iv).toNat)
 case atStart=>exact⟨0,_,_,_,ys,F,rfl,rfl,xj _,Lh (by rw[aj.o];simpa[Gt]using bY.o),Lh (by simpa[Gt,Fw]using aX.o),aT,al,Lh ⟨bq.o,fun j c h=>by simp[Gt]at h⟩,Lh (by rw[aj.o];exact aV.o)⟩
 case round=>
  obtain⟨k,vw,vr,vn,ys,F,rfl,rfl,hk,aC,ap,G,bg,av,ak⟩:=hrel;clear bY aX aT al bq aV;by_cases bE:k<n
  ·have cC:(k:Int)<n:=by omega
   obtain⟨x,hx⟩: ∃x,zs[k]?=some x:=⟨_,xe (by rw[<-HN.o];exact bE)⟩
   have a7:=List.mem_of_getElem? hx;obtain⟨A,J⟩: ∃A,A=A6 W ((zs.take k).map Fu.s):=⟨_,rfl⟩
   rw[<-J]at aC ap av;have bG:k<=zs.length:=by rw[<-HN.o];exact hk
   have bL:=Lh (show BF A.1.1 from by rw[J];exact db.o k bG);have aq:=Lh (show A6 W ((zs.take (k+1)).map Fu.s)=EK A x.s from by
    obtain⟨h1,h2⟩:=xd.1 hx;rw[xb h1,h2,List.map_append,xh,xi,Bw,J])
   have c7:=Lh (show A.1.2.length<=1000000 from by rw[J];exact cX.o k bG);have bT:=Lh (show(Ds A.1.1 x.s).1.2.length<=1000000 from by rw[J];exact cN.o k x hx);have cl:=Lh (show A.2.length=k from by rw[J,Ml,xg,List.length_take];omega);obtain⟨g,o,cJ,aI,hcell⟩:=Rd.get Li HS.o hx;subst cJ;rw[<-aj.o]at aI;have k0:wr.cell? ⟨g,o+k*6,none⟩=some (ja jb x.s.kind):=(ak.o.cell (p:=⟨g,o+k*6,none⟩) aI).trans (hcell 0 _ (by omega) rfl);have k1:wr.cell? ⟨g,o+k*6+1,none⟩=some (ja jb x.s.pos):=(ak.o.cell (p:=⟨g,o+k*6+1,none⟩) aI).trans (hcell 1 _ (by omega) rfl);have k2:wr.cell? ⟨g,o+k*6+2,none⟩=some (ja jb x.s.n):=(ak.o.cell (p:=⟨g,o+k*6+2,none⟩) aI).trans (hcell 2 _ (by omega) rfl);have k3:wr.cell? ⟨g,o+k*6+3,none⟩=some (jc x.s.fn):=(ak.o.cell (p:=⟨g,o+k*6+3,none⟩) aI).trans (hcell 3 _ (by omega) rfl);have k4:wr.cell? ⟨g,o+k*6+4,none⟩=some (ja jb x.s.fv):=(ak.o.cell (p:=⟨g,o+k*6+4,none⟩) aI).trans (hcell 4 _ (by omega) rfl);have k5:wr.cell? ⟨g,o+k*6+5,none⟩=some (jd x.af x.s.es.length x.cf):=(ak.o.cell (p:=⟨g,o+k*6+5,none⟩) aI).trans (hcell 5 _ (by omega) rfl);obtain⟨M,ac,ae,ab,ax,ay,rfl,rfl,rfl,cy, -, -⟩:=aC.o.wat;have cG:lo<=wr.heap.size:=xc (by rw[aj.o];exact xa _) ak.o.size;obtain⟨T,hT⟩: ∃T,T=wr.heap.size:=⟨_,rfl⟩
   obtain⟨X,hX⟩: ∃X,X=wr.alloc (ji #[ja jb x.s.kind,ja jb x.s.pos,ja jb x.s.n,jc x.s.fn,ja jb x.s.fv,jd x.af x.s.es.length x.cf] 43):=⟨_,rfl⟩
   have aB:Below wr.heap.size wr X:=by rw[hX];exact Aa wr _
   have au:=Lh (show Af T #[ja jb x.s.kind,ja jb x.s.pos,ja jb x.s.n,jc x.s.fn,ja jb x.s.fv,jd x.af x.s.es.length x.cf] 43 X from by rw[hX,hT];exact Af.new wr _ _);have bz:=Lh ((cy.below aB).mono aB.size);have aQ:=Lh (ak.o.trans (aB.mono cG));have cb:=Lh (aC.o.made aB);have aF:=Lh (ap.o.below aB ap.o.lt);have bA:=Lh (G.o.below aB G.o.lt);have bw:=Lh (bg.o.below aB bg.o.lt);have aS:=Lh (show lo<=X.heap.size from by rw[aj.o];exact aQ.o.size);have cV:w.heap.size<=X.heap.size:=by have:=aQ.o.size;exact this
   have bc:=Lh (VG A.1.1 x.s M ae x.af ac ab x.cf _ X bz.o (HG.o.made (by rw[<-aj.o];exact aQ.o)) (by have:=bL.o.way;omega) (by have:=bL.o.few;omega) (Gn bL.o bz.o.rmap) (((HE.o x a7).below (by rw[<-aj.o];exact aQ.o)).mono cV) (cL.o x a7) (HK.o x a7).1 (HK.o x a7).2);have t0:X.cell? ⟨T,0,none⟩=some (ja jb x.s.kind):=au.o.cell 0;have t1:X.cell? ⟨T,1,none⟩=some (ja jb x.s.pos):=au.o.cell 1;have t2:X.cell? ⟨T,2,none⟩=some (ja jb x.s.n):=au.o.cell 2;have t3:X.cell? ⟨T,3,none⟩=some (jc x.s.fn):=au.o.cell 3;have t4:X.cell? ⟨T,4,none⟩=some (ja jb x.s.fv):=au.o.cell 4;have t5:X.cell? ⟨T,5,none⟩=some (jd x.af x.s.es.length x.cf):=au.o.cell 5;have p0:X.cell? ⟨P,0,none⟩=some (jc A.1.1.zone):=aF.o.cell 0;have p1:X.cell? ⟨P,1,none⟩=some (jc A.1.1.cur):=aF.o.cell 1;have p2:X.cell? ⟨P,2,none⟩=some (jd M A.1.1.way.length ac):=aF.o.cell 2;have p3:X.cell? ⟨P,3,none⟩=some (jd ae A.1.1.rds.length ab):=aF.o.cell 3;obtain⟨D,hD⟩: ∃D,D=Ds A.1.1 x.s:=⟨_,rfl⟩
   rw[<-hD]at bc bT;have HD:=Lh hD;have cE:=Lh J;unfold DN DD at bc;clear J hD hcell cy aB aC ap G bg ak hx a7 bG;go_upto_region 14 with(fail);rw[<-hX,<-hT];clear hX hT k0 k1 k2 k3 k4 k5;go_wp2_with fail;refine bc.o.mono ?_;rintro e w5 ⟨dq,dj,dn,be,rfl,bB,aA⟩;obtain⟨aa,O,R,ag,aJ,aP,rfl,rfl,rfl, -,cx,ch⟩:=bB.wat;have b9:=aQ.o.trans (aA.mono aS.o);have bj:=Lh (aF.o.below aA aF.o.lt);have bo:=Lh (bA.o.below aA bA.o.lt);have bJ:=Lh (bw.o.below aA bw.o.lt);have cI:=Lh (au.o.below aA au.o.lt);have cF:=Lh (cb.o.made aA);have cg:=Lh (bB.mono aS.o);have bQ:=Lh b9;have bU:=Lh cx;have dk:=Lh ch;have bi:lo<=w5.heap.size:=xc aS.o aA.size;clear bB aA b9 cx ch t0 t1 t2 t3 t4 t5 p0 p1 p2 p3 au cb aF bA bw aQ bc bz;unfold Fw;go_upto_region 15 with(fail);obtain⟨Q,hQ⟩: ∃Q,Q=w5.heap.size:=⟨_,rfl⟩
   obtain⟨Y,hY⟩: ∃Y,Y=w5.alloc (ji #[jc D.1.1.zone,jc D.1.1.cur,jd aa D.1.1.way.length O,jd R D.1.1.rds.length ag] 32):=⟨_,rfl⟩
   have am:Below w5.heap.size w5 Y:=by rw[hY];exact Aa w5 _
   have bx:=Lh (show Af Q #[jc D.1.1.zone,jc D.1.1.cur,jd aa D.1.1.way.length O,jd R D.1.1.rds.length ag] 32 Y from by rw[hY,hQ];exact Af.new w5 _ _);have aX:=Lh (bj.o.below am bj.o.lt);have aT:=Lh (bo.o.below am bo.o.lt);have al:=Lh (bJ.o.below am bJ.o.lt);have bV:=Lh (cF.o.made am);have b8:=Lh (cg.o.made am);have aV:=Lh (bQ.o.trans (am.mono bi));have dh:=Lh ((bU.o.below am).mono am.size);have dl:=Lh (show Q≠P from by rw[hQ];have:=bj.o.lt;omega);have dp:=Lh (show Q≠P+1 from by rw[hQ];have:=bo.o.lt;omega);have de:=Lh (show lo<=Q from by rw[hQ];exact bi);have b5:lo<=Y.heap.size:=xc bi am.size;rw[<-hY,<-hQ];obtain⟨ck,ca⟩: ∃ck,F[k]?=some ck:=⟨_,Array.getElem?_eq_getElem (by rw[av.o.1];exact bE)⟩
   have c0:Y.cell? ⟨P+2,k,none⟩=some ck:=(al.o.cell k).trans ca;have c1:Y.frozen? ⟨P+2,k,none⟩=false:=al.o.frozen k;clear hY hQ am ca bj bo bJ cF cg bQ bU cI bi;obtain⟨Z,hZ⟩: ∃Z,Z=Y.setCell ⟨P+2,k,none⟩ (ja jb D.2):=⟨_,rfl⟩
   have a6:=Lh (show Af Q #[jc D.1.1.zone,jc D.1.1.cur,jd aa D.1.1.way.length O,jd R D.1.1.rds.length ag] 32 Z from by rw[hZ];exact bx.o.set_other (bx.o.ne al.o (by decide)) k _);have E:=Lh (show Af P (Fw A.1.1 (jd M A.1.1.way.length ac) (jd ae A.1.1.rds.length ab)) 32 Z from by rw[hZ];exact aX.o.set_other (by omega) k _);have cv:=Lh (show Af (P+1) #[jc ⟨#[]⟩,jc ⟨#[]⟩,jd none 0 0,jd none 0 0] 32 Z from by rw[hZ];exact aT.o.set_other (by omega) k _);have bK:=Lh (show Af (P+2) (F.setIfInBounds k (ja jb D.2)) 33 Z from by rw[hZ];exact al.o.set k _);have bD:=Lh (show Own lo Z A.1.1 A.1.2 (jd M A.1.1.way.length ac) (jd ae A.1.1.rds.length ab) (jd ax A.1.2.length ay) ys from by rw[hZ];exact bV.o.code al.o k _);have bu:=Lh (show Own lo Z D.1.1 D.1.2 (jd aa D.1.1.way.length O) (jd R D.1.1.rds.length ag) (jd aJ D.1.2.length aP) be from by rw[hZ];exact b8.o.code al.o k _);have bt:=Lh (show Below lo w Z from by rw[hZ];exact aV.o.setCell (p:=⟨P+2,k,none⟩) (by show lo<=P+2;omega) _);have bI:lo<=Z.heap.size:=by rw[hZ];simpa using b5
   have br:=Lh (show(F.setIfInBounds k (ja jb D.2)).size=n/\ ∀(j:Nat) c,(A.2++[D.2])[j]?=some c->(F.setIfInBounds k (ja jb D.2))[j]?=some (ja jb c)from by
    refine⟨by rw[Array.size_setIfInBounds];exact av.o.1,fun j c h=>?_⟩;have hl:=cl.o;by_cases hj:j<A.2.length
    ·rw[List.getElem?_append_left hj]at h;rw[Array.getElem?_setIfInBounds_ne (by omega)];exact av.o.2 j c h
    ·rw[List.getElem?_append_right (by omega)]at h;have cS:j=k:=by
      by_cases h0:j - A.2.length=0
      ·omega
      ·rw[List.getElem?_eq_none (by simp;omega)]at h;cases h
     subst cS;rw[show j - A.2.length=0 from by omega]at h;simp only[List.getElem?_cons_zero,Option.some.injEq]at h;subst h;rw[Array.getElem?_setIfInBounds_self_of_lt (by rw[av.o.1];exact bE)])
   go_upto_region 16 with(fail);rw[<-hZ];clear hZ c0 c1 bx aX aT al bV b8 aV av b5;by_cases hd:D.2=0
   ·rw[hd]at br bK ⊢;have aq:=Lh (show A6 W ((zs.take (k+1)).map Fu.s)=((D.1.1,A.1.2++D.1.2),A.2++[0])from by rw[aq.o];unfold EK;rw[<-HD.o,if_pos hd]);go_upto_region 17 with(fail)
    have bp:lo<=P:=bP;have q0:Z.cell? ⟨Q,0,none⟩=some (jc D.1.1.zone):=a6.o.cell 0;have q1:Z.cell? ⟨Q,1,none⟩=some (jc D.1.1.cur):=a6.o.cell 1;have q2:Z.cell? ⟨Q,2,none⟩=some (jd aa D.1.1.way.length O):=a6.o.cell 2;have q3:Z.cell? ⟨Q,3,none⟩=some (jd R D.1.1.rds.length ag):=a6.o.cell 3;have p0:Z.cell? ⟨P,0,none⟩=some (jc A.1.1.zone):=E.o.cell 0;have p1:Z.cell? ⟨P,1,none⟩=some (jc A.1.1.cur):=E.o.cell 1;have p2:Z.cell? ⟨P,2,none⟩=some (jd M A.1.1.way.length ac):=E.o.cell 2;have p3:Z.cell? ⟨P,3,none⟩=some (jd ae A.1.1.rds.length ab):=E.o.cell 3;have f0:Z.frozen? ⟨P,0,none⟩=false:=E.o.frozen 0;have f1:Z.frozen? ⟨P,1,none⟩=false:=E.o.frozen 1;have f2:Z.frozen? ⟨P,2,none⟩=false:=E.o.frozen 2;have f3:Z.frozen? ⟨P,3,none⟩=false:=E.o.frozen 3;obtain⟨i0,cm,cc,b4,cA⟩:=info_parts ID;obtain⟨V,hV,dr,dg, -,di⟩:=GH E.o bt.o bp (jc D.1.1.zone) (jc D.1.1.cur) (jd aa D.1.1.way.length O) (jd R D.1.1.rds.length ag);have dd:Hid (Own lo V D.1.1 D.1.2 (jd aa D.1.1.way.length O) (jd R D.1.1.rds.length ag) (jd aJ D.1.2.length aP) be):=Lh (by rw[hV];exact(((bu.o.box E.o 0 _).box (E.o.set 0 _) 1 _).box ((E.o.set 0 _).set 1 _) 2 _).box (((E.o.set 0 _).set 1 _).set 2 _) 3 _);have cR:Hid (Own lo V A.1.1 A.1.2 (jd M A.1.1.way.length ac) (jd ae A.1.1.rds.length ab) (jd ax A.1.2.length ay) ys):=Lh (by rw[hV];exact(((bD.o.box E.o 0 _).box (E.o.set 0 _) 1 _).box ((E.o.set 0 _).set 1 _) 2 _).box (((E.o.set 0 _).set 1 _).set 2 _) 3 _);have a8: ∀U,Own lo U D.1.1 D.1.2 (jd aa D.1.1.way.length O) (jd R D.1.1.rds.length ag) (jd aJ D.1.2.length aP) be->(aJ=none/\D.1.2.length=0/\aP=0)∨ ∃ad,aJ=some ad/\ ∀j u,(gC BM D.1.2)[j]?=some u->U.cell? (ad.add j)=some u:=fun U h=>by
     rcases(show U.ownsRow lo 56 4 _ D.1.2.length (gC BM D.1.2)from h.nts).2 with⟨h1,h2⟩ | ⟨g,cap,cur,h1,h2⟩
     ·simp only[Value.slice.injEq]at h1;exact .inl ⟨h1.1,h2,h1.2.2⟩
     ·simp only[Value.slice.injEq]at h1;exact .inr ⟨⟨g,0,none⟩,h1.1,fun j u hj=>xm (show U.ownsRow lo 56 4 _ D.1.2.length (gC BM D.1.2)from h.nts) (g:=g) (by rw[h1.1];rfl) j u hj⟩
    have bv:=Lh (show Z.ownsRow lo 56 4 (jd ax A.1.2.length ay) A.1.2.length (gC BM A.1.2)from bD.o.nts);have cM:=Lh (show((((Z.setCell ⟨P,0,none⟩ (jc D.1.1.zone)).setCell ⟨P,1,none⟩ (jc D.1.1.cur)).setCell ⟨P,2,none⟩ (jd aa D.1.1.way.length O)).setCell ⟨P,3,none⟩ (jd R D.1.1.rds.length ag)).ownsRow lo 56 4 (jd ax A.1.2.length ay) A.1.2.length (gC BM A.1.2)from by rw[<-hV];exact cR.o.nts);have cZ:=Lh (a8 Z bu.o);have cQ:=Lh (a8 _ (hV▸dd.o));have aL:=Lh (show A.1.2.length+D.1.2.length<=2000000 from by have:=c7.o;have:=bT.o;omega);clear a8;go_region_law (first | (refine C1 (by rfl) _ _ _ (by rfl) lo 56 i0 _ 4 40 Tryz.underlying36 cm cc b4 cA rfl (by decide) (jd ax A.1.2.length ay) A.1.2.length (gC BM A.1.2) (by rfl) bv.o aJ D.1.2.length aP (gC BM D.1.2) (by rfl) (Dq DQ _) cZ.o (Hd ET _) (by have:=aL.o;unfold maxLen;omega) (by have:=aL.o;omega) (by simpa using bI) ?_;intro v9 w9 aE ah;have aM:=(AB.made (Ac (Below.refl _ Z))).trans (AB.grown bv.o ah);have ai:=aM _ _ 32 (by decide) E.o;have a0:w9.cell? ⟨P,0,none⟩=some (jc A.1.1.zone):=ai.cell 0;have a1:w9.cell? ⟨P,1,none⟩=some (jc A.1.1.cur):=ai.cell 1;have a2:w9.cell? ⟨P,2,none⟩=some (jd M A.1.1.way.length ac):=ai.cell 2;have a3:w9.cell? ⟨P,3,none⟩=some (jd ae A.1.1.rds.length ab):=ai.cell 3;have b0:=fun i=>ai.frozen i;have aZ:=aM _ _ 32 (by decide) a6.o;have d0:w9.cell? ⟨Q,0,none⟩=some (jc D.1.1.zone):=aZ.cell 0;have d1:w9.cell? ⟨Q,1,none⟩=some (jc D.1.1.cur):=aZ.cell 1;have d2:w9.cell? ⟨Q,2,none⟩=some (jd aa D.1.1.way.length O):=aZ.cell 2;have d3:w9.cell? ⟨Q,3,none⟩=some (jd R D.1.1.rds.length ag):=aZ.cell 3) | (refine C1 (by rfl) _ _ _ (by rfl) lo 56 i0 _ 4 40 Tryz.underlying36 cm cc b4 cA rfl (by decide) (jd ax A.1.2.length ay) A.1.2.length (gC BM A.1.2) (by rfl) cM.o aJ D.1.2.length aP (gC BM D.1.2) (by rfl) (Dq DQ _) cQ.o (Hd ET _) (by have:=aL.o;unfold maxLen;omega) (by have:=aL.o;omega) (by simpa using bI) ?_;intro v9 w9 aE ah))
    all_goals
     have ct:=Ak (Ac bt.o) bv.o (xa _) (by simpa using bI) ah;have b7:=bu.o.told aM (show Rw BM 4 56 lo w9 v9 (A.1.2++D.1.2)from by unfold Rw;rw[DK,List.length_append];exact aE);have cn:=aM _ _ 32 (by decide) cv.o;have bR:=aM _ _ 33 (by decide) bK.o;obtain⟨V9,aY,b6,aH, -, -⟩:=GH ai ct bp (jc D.1.1.zone) (jc D.1.1.cur) (jd aa D.1.1.way.length O) (jd R D.1.1.rds.length ag);have cK:=Lh (show Af (P+1) #[jc ⟨#[]⟩,jc ⟨#[]⟩,jd none 0 0,jd none 0 0] 32 V9 from by
      rw[aY];exact(((cn.set_other (by omega) 0 _).set_other (by omega) 1 _).set_other (by omega) 2 _).set_other (by omega) 3 _)
     have cP:=Lh (show Af (P+2) (F.setIfInBounds k (ja jb 0)) 33 V9 from by
      rw[aY];exact(((bR.set_other (by omega) 0 _).set_other (by omega) 1 _).set_other (by omega) 2 _).set_other (by omega) 3 _)
     have cT:=Lh (show Own lo V9 D.1.1 (A.1.2++D.1.2) (jd aa D.1.1.way.length O) (jd R D.1.1.rds.length ag) v9 be from by
      rw[aY];exact(((b7.box ai 0 _).box (ai.set 0 _) 1 _).box ((ai.set 0 _).set 1 _) 2 _).box (((ai.set 0 _).set 1 _).set 2 _) 3 _)
     have dc:=Lh b6;have cH:=Lh aH;rw[<-aY];clear aY b6 aH bR cn b7 ct aE ah aM ai aZ a0 a1 a2 a3 b0 d0 d1 d2 d3;go_wp2_with fail;go_roundw
     case rel=>exact⟨k+1,_,_,_,_,_,by go_num,rfl,by omega,by rw[aq.o];exact cT,by rw[aq.o];exact dc,cK,cP,by rw[aq.o];exact br,cH⟩
     case measure=>simp[intOf];omega
   ·have aq:=Lh (show A6 W ((zs.take (k+1)).map Fu.s)=(A.1,A.2++[D.2])from by rw[aq.o];unfold EK;rw[<-HD.o,if_neg hd]);go_wp2_with fail;go_roundw
    case rel=>exact⟨k+1,_,_,_,_,_,by go_num,rfl,by omega,by rw[aq.o];exact bD,by rw[aq.o];exact E,cv,bK,by rw[aq.o];exact br,bt⟩
    case measure=>simp[intOf];omega
  ·have cC: ¬(k:Int)<n:=by omega
   have c8:k=n:=by omega
   subst c8;have cU:zs.take k=zs:=xf (by rw[<-HN.o];exact xa _);rw[cU]at aC ap av;obtain⟨A,J⟩: ∃A,A=A6 W (zs.map Fu.s):=⟨_,rfl⟩
   have HL:=Lh (show A.2.length=k from by rw[J,Ml,xg];exact HN.o.symm);rw[<-J]at aC ap av;have cE:=Lh J;clear J;obtain⟨M,ac,ae,ab,ax,ay,rfl,rfl,rfl, -, -, -⟩:=aC.o.wat;have p0:wr.cell? ⟨P,0,none⟩=some (jc A.1.1.zone):=ap.o.cell 0;have p1:wr.cell? ⟨P,1,none⟩=some (jc A.1.1.cur):=ap.o.cell 1;have p2:wr.cell? ⟨P,2,none⟩=some (jd M A.1.1.way.length ac):=ap.o.cell 2;have p3:wr.cell? ⟨P,3,none⟩=some (jd ae A.1.1.rds.length ab):=ap.o.cell 3;have r0:wr.cell? ⟨P+1,0,none⟩=some (jc ⟨#[]⟩):=G.o.cell 0;have r1:wr.cell? ⟨P+1,1,none⟩=some (jc ⟨#[]⟩):=G.o.cell 1;have r2:wr.cell? ⟨P+1,2,none⟩=some (jd none 0 0):=G.o.cell 2;have r3:wr.cell? ⟨P+1,3,none⟩=some (jd none 0 0):=G.o.cell 3;have f0:wr.frozen? ⟨P+1,0,none⟩=false:=G.o.frozen 0;have f1:wr.frozen? ⟨P+1,1,none⟩=false:=G.o.frozen 1;have f2:wr.frozen? ⟨P+1,2,none⟩=false:=G.o.frozen 2;have f3:wr.frozen? ⟨P+1,3,none⟩=false:=G.o.frozen 3;go_wp2_with fail;obtain⟨Y,hY,bh,aH, -, -⟩:=GH G.o ak.o (show lo<=P+1 by omega) (jc A.1.1.zone) (jc A.1.1.cur) (jd M A.1.1.way.length ac) (jd ae A.1.1.rds.length ab);have da:Own lo Y A.1.1 A.1.2 (jd M A.1.1.way.length ac) (jd ae A.1.1.rds.length ab) (jd ax A.1.2.length ay) ys:=by
    rw[hY];exact(((aC.o.box G.o 0 _).box (G.o.set 0 _) 1 _).box ((G.o.set 0 _).set 1 _) 2 _).box (((G.o.set 0 _).set 1 _).set 2 _) 3 _
   have cW:Af (P+2) F 33 Y:=by
    rw[hY];exact(((bg.o.set_other (by omega) 0 _).set_other (by omega) 1 _).set_other (by omega) 2 _).set_other (by omega) 3 _
   rw[<-hY];clear hY r0 r1 r2 r3;have r0:=bh.c4;refine bodyPost_ret (v:=jg #[.agg #[jc A.1.1.zone,jc A.1.1.cur,jd M A.1.1.way.length ac,jd ae A.1.1.rds.length ab],jd ax A.1.2.length ay,jd (some ⟨P+2,0,none⟩) k k]) (by simp[results,Tryz.results11,go_sem,r0]) rfl ?_;rw[<-cE.o];exact⟨_,_,_,_,P+2,F,by rw[HL.o];rfl,by rw[<-aj.o];exact da,cW,by rw[<-aj.o];omega,av.o.2,by rw[<-aj.o];exact aH⟩
def MD(z:ByteArray)(n:Nat):A3:=⟨z,⟨#[]⟩,[],List.replicate n ⟨0,0,[]⟩⟩
def VT(z:ByteArray)(n:Nat)(w:World)(e:Ending)(w':World):Prop:=
 ∃vr,e=jh (jg #[.agg (Fw (MD z n) (jd none 0 0) vr),ja jb 0])/\Own w.heap.size w' (MD z n) [] (jd none 0 0) vr (jd none 0 0) (List.replicate n ⟨0,0,none,0,[]⟩)/\Below w.heap.size w w'
def Da(z:ByteArray):A3:=⟨z,⟨#[]⟩,[],[⟨0,0,[]⟩]⟩
def Wu(z:ByteArray)(w:World)(e:Ending)(w':World):Prop:=
 ∃vr,e=jh (jg #[.agg (Fw (Da z) (jd none 0 0) vr),ja jb 0])/\Own w.heap.size w' (Da z) [] (jd none 0 0) vr (jd none 0 0) [⟨0,0,none,0,[]⟩]/\Below w.heap.size w w'
def V7:Nat->List Value
 | 0=>[]
 | n+1=>ja jb 0::ja jb 0::jd none 0 0::V7 n
theorem RB{n:Nat}(hn:n=1∨n=3):madeCells (Value.agg #[Value.int IntKind.i64 0,Value.int IntKind.i64 0,Value.slice none 0 0]).cells (n*3)=⟨V7 n⟩:=by
 rcases hn with rfl | rfl
 ·kernel_rfl
 ·kernel_rfl
theorem WD(n:Nat)(hn:n=1∨n=3): ∀w:World,(Instr.makeSlice 30 (ja jb (n:Int)) (ja jb (n:Int))).run Tryz.prog w=.ok (jd (some ⟨w.heap.size,0,none⟩) n n) (w.alloc (.cells ⟨V7 n⟩ 47)):=by
 intro w;obtain⟨i0,hi,A,D,E⟩:=info_parts O6;have hr:=run_make (P:=Tryz.prog) w 30 47 i0 _ Tryz.underlying30 hi A .i64 .i64 n n (by omega) (Int.le_refl _) (by rw[E];omega) (by omega);simp only[xl,D]at hr;rw[hr,RB hn]
theorem UH(z:ByteArray)(n:Nat)(hn:n=1∨n=3)(hz:Tt.code z.data.toList=true)(w:World):
  Calls Tryz.prog 8 #[jc z,ja jb (n:Int)] w (VT z n w):=by
 obtain⟨E,F⟩: ∃E,E=w.alloc (ji #[jc ⟨#[]⟩,jc ⟨#[]⟩,jd none 0 0,jd none 0 0] 32):=⟨_,rfl⟩
 obtain⟨P,R⟩: ∃P,P=w.heap.size:=⟨_,rfl⟩
 have O:=Lh (show Below w.heap.size w E from by rw[F];exact Aa w _);have H:=Lh (show Af P #[jc ⟨#[]⟩,jc ⟨#[]⟩,jd none 0 0,jd none 0 0] 32 E from by rw[F,R];exact Af.new w _ _);have J:E.heap.size=P+1:=by rw[F,R];simp
 have T:=Lh (BV z E);rw[hz]at T;have M:=WD n hn E;rw[J]at M;obtain⟨D,G⟩: ∃D,D=E.alloc (.cells ⟨V7 n⟩ 47):=⟨_,rfl⟩
 rw[<-G]at M;have hb1:Below E.heap.size E D:=by rw[G];exact Aa E _
 have A:=Lh (H.o.below hb1 H.o.lt);have ac:=Lh (O.o.trans (hb1.mono O.o.size));have aa:Hid (Own w.heap.size D (MD z n) [] (jd none 0 0) (jd (some ⟨P+1,0,none⟩) n n) (jd none 0 0) (List.replicate n ⟨0,0,none,0,[]⟩)):=Lh ⟨Rw.nil _ _ _ _ _,by
  have h:=World.ownsRow_lit (base:=w.heap.size) (e:=47) (size:=3) E ⟨V7 n⟩ n (by rw[J,R];omega) (by unfold maxLen;omega) (by rcases hn with rfl | rfl<;>rfl);rw[J]at h;rw[G];rcases hn with rfl | rfl
  ·exact h
  ·exact h,Rw.nil _ _ _ _ _,fun x hx=>by rw[List.eq_of_mem_replicate hx];exact Av.nil _ _,by simp[MD,BZ.r]⟩
 have V:D.cell? ⟨P,0,none⟩=some (jc ⟨#[]⟩):=A.o.cell 0;have r1:D.cell? ⟨P,1,none⟩=some (jc ⟨#[]⟩):=A.o.cell 1;have r2:D.cell? ⟨P,2,none⟩=some (jd none 0 0):=A.o.cell 2;have r3:D.cell? ⟨P,3,none⟩=some (jd none 0 0):=A.o.cell 3;have f0:D.frozen? ⟨P,0,none⟩=false:=A.o.frozen 0;have f1:D.frozen? ⟨P,1,none⟩=false:=A.o.frozen 1;have f2:D.frozen? ⟨P,2,none⟩=false:=A.o.frozen 2;have f3:D.frozen? ⟨P,3,none⟩=false:=A.o.frozen 3;have X:w.heap.size<=P:=by omega
 clear hb1 G H;have ae:(1:Int)<=n:=by omega
 have af:(n:Int)<=3:=by omega
 go_enter Tryz.func8,Tryz.ntmps8;go_upto_region 1 with(fail);rw[<-F,<-R];clear F R;go_wp2_with fail;refine T.o.mono ?_;rintro e w1 ⟨rfl,rfl⟩;go_wp2_with fail;obtain⟨Y,hY,ab,Z, -, -⟩:=GH A.o ac.o X (jc z) (jc ⟨#[]⟩) (jd none 0 0) (jd (some ⟨P+1,0,none⟩) n n);have U:Own w.heap.size Y (MD z n) [] (jd none 0 0) (jd (some ⟨P+1,0,none⟩) n n) (jd none 0 0) (List.replicate n ⟨0,0,none,0,[]⟩):=by
  rw[hY];exact(((aa.o.box A.o 0 _).box (A.o.set 0 _) 1 _).box ((A.o.set 0 _).set 1 _) 2 _).box (((A.o.set 0 _).set 1 _).set 2 _) 3 _
 rw[<-hY];clear hY V r1 r2 r3;have V:=ab.c4;refine bodyPost_ret (v:=jg #[.agg #[jc z,jc ⟨#[]⟩,jd none 0 0,jd (some ⟨P+1,0,none⟩) n n],ja jb 0]) (by simp[results,Tryz.results8,go_sem,V]) rfl ?_;exact⟨_,rfl,U,Z⟩
theorem Wd(z:ByteArray)(hz:Tt.code z.data.toList=true)(w:World):Calls Tryz.prog 8 #[jc z,ja jb 1] w (Wu z w):=UH z 1 (.inl rfl) hz w
theorem Kw(xs ys:List Int)(a b:Nat)(ca cb:Nat)(w:World)(Z: ∀(j:Nat) c,xs[j]?=some c->w.cell? ⟨a,j,none⟩=some (ja jb c))(hB: ∀(j:Nat) c,ys[j]?=some c->w.cell? ⟨b,j,none⟩=some (ja jb c))(D:a<w.heap.size/\b<w.heap.size)(hl:ys.length=xs.length)(hx:xs.length<=1000)(_hr: ∀c∈xs, -9223372036854775808<=c/\c<=9223372036854775807):
  Calls Tryz.prog 12 #[jd (some ⟨a,0,none⟩) xs.length ca,jd (some ⟨b,0,none⟩) ys.length cb] w fun e w'=>e=jh (je (decide (xs=ys)))/\Below w.heap.size w w':=by
 obtain⟨n,hn⟩: ∃n,n=xs.length:=⟨_,rfl⟩
 have HA:=Lh Z;have HB:=Lh hB;have X:=Lh hn;have HL:=Lh hl;have aa:n<=1000:=by omega
 rw[hl,<-hn];have J:=Lh D;clear Z hB hl hx hn D;go_enter Tryz.func12,Tryz.ntmps12;go_upto_region 3 with(fail);go_wp2_with fail;go_loopw [5] (fun R wr=> ∃(k:Nat),R=ja jb k/\k<=n/\Hid (xs.take k=ys.take k)/\Hid (Below w.heap.size w wr)) (fun R _=>n - (intOf R).toNat)
 case atStart=>exact⟨0,rfl,xj _,Lh (by simp),Lh (Below.refl _ _)⟩
 case round=>
  obtain⟨k,rfl,hk,HT,O⟩:=hrel;by_cases E:k<n
  ·have F:(k:Int)<n:=by omega
   obtain⟨x,hx⟩: ∃x,xs[k]?=some x:=⟨_,xe (by rw[<-X.o];exact E)⟩
   obtain⟨y,hy⟩: ∃y,ys[k]?=some y:=⟨_,xe (by rw[HL.o,<-X.o];exact E)⟩
   have HX:=Lh hx;have HY:=Lh hy;have c0:wr.cell? ⟨a,k,none⟩=some (ja jb x):=(O.o.cell (p:=⟨a,k,none⟩) J.o.1).trans (HA.o k x hx);have c1:wr.cell? ⟨b,k,none⟩=some (ja jb y):=(O.o.cell (p:=⟨b,k,none⟩) J.o.2).trans (HB.o k y hy);clear hx hy;go_upto_region 6 with(fail);go_quiet (fail)
   obtain⟨V,A⟩: ∃V,V=wr.drewN nq:=⟨_,rfl⟩
   rw[<-A];have G:=Lh (show Below w.heap.size w V from by rw[A];exact below_drewN O.o _);clear A;by_cases H:x=y
   ·subst H;have U:=Lh (show xs.take (k+1)=ys.take (k+1)from by
     obtain⟨M,Y⟩:=xd.1 HX.o;obtain⟨h3,h4⟩:=xd.1 HY.o;rw[xb M,xb h3,Y,h4,HT.o])
    go_wp2_with fail;go_roundw
    case rel=>exact⟨k+1,by go_num,by omega,U,G⟩
    case measure=>simp[intOf];omega
   ·have T:=Lh (show decide (xs=ys)=false from decide_eq_false (fun h=>by
     have M:=HX.o;rw[h,HY.o]at M;exact H (xn M).symm))
    go_wp2_with fail;go_ret;rw[T.o];exact⟨rfl,G.o⟩
  ·have F: ¬(k:Int)<n:=by omega
   have T:=Lh (show decide (xs=ys)=true from decide_eq_true (by
    have h:=HT.o;have M:=X.o;have Y:=HL.o;rwa [xf (by omega),xf (by omega)]at h))
   go_wp2_with fail;go_ret;rw[T.o];exact⟨rfl,O.o⟩
