/- Deliveries: a method of the machine. Condition: none. Deliveries: a method of the machine. Condition: none. Deliveries: a method of the machine. Condition: none. -/
import Derived.Test.YtegjgjgoodekiaaGreatDoorQk29
open Go.Value renaming int->ja,string->jc,slice->jd,bool->je,pointer->jf,tuple->jg
open Go.IntKind renaming i64->jb
open Go.Ending renaming returned->jh
open Go.Obj renaming cells->ji
open Nat renaming zero_add->xa,le_refl->xb,le_trans->xc
open List renaming length_map->xd,getElem?_eq_getElem->xe,mem_of_getElem?->xg,append_nil->xi,mem_map_of_mem->xj
open Int renaming toNat_natCast->xf
open Go.World.ownsRow renaming alloc->xh
open Bool renaming and_eq_true->xk
set_option maxRecDepth 100000
set_option maxHeartbeats 40000000
namespace Go.Proofs.YtegjgjgoodekiaaGreatDoor
open Go.RowKit
theorem Wa(b lo:Nat)(W:A3)(ns:List Bt)(vw vr vn:Value)(xs:List BZ)(s:D7)(af:Option Addr)(cf:Nat)(w:World)(hM:Bi b lo w W ns vw vr vn xs)(hlo:lo<=w.heap.size)(hl:W.way.length<=64)(hz:Tt.code W.zone.data.toList=true)(hG:Eu w)(hE:GQ w.heap.size w af s.es)(ag:s.es.length<=4611686018427387903):
  Calls Tryz.prog 22 #[jf (some ⟨b,0,none⟩),DN s af cf] w (Ff b lo (((DP W s).1,ns),(DP W s).2) w):=by
 obtain⟨aw,cw,rfl,ah, -⟩:=hM.way.form;obtain⟨ar,cr,rfl,ak, -⟩:=hM.rds.form;obtain⟨E,X⟩: ∃E,E=w.alloc (ji #[ja jb s.kind,ja jb s.pos,ja jb s.n,jc s.fn,ja jb s.fv,jd af s.es.length cf] 43):=⟨_,rfl⟩
 have F:=Lh (show Below w.heap.size w E from by rw[X];exact Aa w _);have D:=Lh (hM.made F.o);have A:=Lh (show Af w.heap.size #[ja jb s.kind,ja jb s.pos,ja jb s.n,jc s.fn,ja jb s.fv,jd af s.es.length cf] 43 E from by rw[X];exact Af.new w _ _);obtain⟨P,hP⟩: ∃P,P=w.heap.size:=⟨_,rfl⟩
 rw[<-hP]at A;have aA:P<E.heap.size:=A.o.lt;have az:b<E.heap.size:=D.o.box.lt;have c2:E.cell? ⟨b,2,none⟩=some (jd aw W.way.length cw):=D.o.box.cell 2;have c3:E.cell? ⟨b,3,none⟩=some (jd ar xs.length cr):=D.o.box.cell 3;have p1:E.cell? ⟨P,1,none⟩=some (ja jb s.pos):=A.o.cell 1;have p2:E.cell? ⟨P,2,none⟩=some (ja jb s.n):=A.o.cell 2;have ac:=Lh hlo;have av:=Lh (xc hlo F.o.size);have aB:=Lh hl;have aC:=Lh (show xs.length=W.rds.length from by rw[<-hM.rmap,xd]);obtain⟨n,hn⟩: ∃n,n=W.way.length:=⟨_,rfl⟩
 have HN:=Lh hn;obtain⟨k,hk⟩: ∃k,k=xs.length:=⟨_,rfl⟩
 have HK:=Lh hk;rw[<-hn]at c2;rw[<-hk]at c3;obtain⟨i,hi⟩: ∃i,i=s.pos:=⟨_,rfl⟩
 have HI:=Lh hi;rw[<-hi]at p1;have ay:=Lh ak;have am:=Lh ah;unfold DN;rw[<-hi];obtain⟨T,hT⟩: ∃T,T=str (Bh s.fn s.fv s.es W.zone).1:=⟨_,rfl⟩
 obtain⟨C,hC⟩: ∃C,C=(Bh s.fn s.fv s.es W.zone).2:=⟨_,rfl⟩
 have HA:=Lh (show DP W s=if C≠0 then(W,C)else if W.cur=⟨#[]⟩then({ W with cur:=T },0)else if s.fv<DM W∨(s.fv=DM W/\ ¬T=W.cur)then(W,63)else({ W with cur:=T },0)from by rw[hT,hC];rfl);have HZ:=Lh hz;have aa:=Lh (hG.made F.o);have au:Hid (∀q,Below E.heap.size E q->Calls Tryz.prog 45 #[.agg #[jc s.fn,ja jb s.fv,jd af s.es.length cf],jc W.zone] q fun e w'=>e=jh (jg #[jc T,ja jb C])/\Below q.heap.size q w'):=Lh (fun q hq=>by
  rw[hT,hC];exact Sr s.fn s.fv af cf s.es W.zone w.heap.size q (xc F.o.size hq.size) ((hE.below F.o).below (hq.mono F.o.size)) ag (aa.o.made hq).lens (aa.o.made hq).pow (aa.o.made hq).sz)
 have ab:=Lh (fun q (hq:Below E.heap.size E q)=>(show q.cell? ⟨P,3,none⟩=some (jc s.fn)/\q.cell? ⟨P,4,none⟩=some (ja jb s.fv)/\q.cell? ⟨P,5,none⟩=some (jd af s.es.length cf)/\q.cell? ⟨b,0,none⟩=some (jc W.zone)from⟨(A.o.below hq A.o.lt).cell 3,(A.o.below hq A.o.lt).cell 4,(A.o.below hq A.o.lt).cell 5,(D.o.box.below hq D.o.box.lt).cell 0⟩));clear hz hG hE ag hT hC;clear hM hlo hn hk hi hl ak ah;go_enter Tryz.func22,Tryz.ntmps22;go_upto_region 1 with(fail);rw[HI.o,<-X,<-hP];clear X hP;rw[<-HI.o];go_region_held3 (fun W'=>W'.cell? ⟨P,3,none⟩=some (jc s.fn)/\W'.cell? ⟨P,4,none⟩=some (ja jb s.fv)/\W'.cell? ⟨P,5,none⟩=some (jd af s.es.length cf)/\W'.cell? ⟨b,0,none⟩=some (jc W.zone)) (first | exact ab.o _ (Below.refl _ _) | exact ab.o _ (Ac (Below.refl _ _)) | exact ab.o _ h5) (first | (go_at_call 45;(with_reducible refine(au.o _ (Ac (Below.refl _ _))).mono ?_);rintro e w5 ⟨rfl,ai⟩;have h5:Below E.heap.size E w5:=(Ac (Below.refl _ E)).trans ai))
 have G:=Lh (D.o.made h5);have Z:=Lh (show Below lo w w5 from(F.o.mono ac.o).trans (h5.mono av.o));have ae:=Lh (A.o.below h5 A.o.lt);have al:=Lh (aa.o.made h5);clear ai h5 c2 c3 p1 p2 aA az;by_cases hC:C=0
 ·subst hC;have c1:w5.cell? ⟨b,1,none⟩=some (jc W.cur):=G.o.box.cell 1;have f1:w5.frozen? ⟨b,1,none⟩=false:=G.o.box.frozen 1;by_cases H:W.cur=⟨#[]⟩
  ·have U:=Lh (show DP W s=({ W with cur:=T },0)from by rw[HA.o,if_neg (by decide),if_pos H]);rw[H]at c1;clear H;have M:=Lh (G.o.boxed (W':={ W with cur:=T }) 1 (jc T) rfl rfl rfl);have O:=Lh (Z.o.setCell (p:=⟨b,1,none⟩) D.o.ge (jc T));skip;go_wp2_with fail;go_ret;rw[U.o];exact⟨_,_,_,_,rfl,M.o,O.o⟩
  ·have hne:W.cur.toList.isEmpty=false:=Fi H;have R:=Lh (show DP W s=if s.fv<DM W∨(s.fv=DM W/\ ¬T=W.cur)then(W,63)else({ W with cur:=T },0)from by rw[HA.o,if_neg (by decide),if_neg H]);have aj:Hid (Calls Tryz.prog 46 #[jf (some ⟨b,0,none⟩)] w5 fun e w'=>e=jh (ja jb (DM W))/\Below w5.heap.size w5 w'):=Lh (IH b W.zone W.cur (jd aw W.way.length cw) (jd ar xs.length cr) vn w5 G.o.box HZ.o al.o);obtain⟨V,hV⟩: ∃V,V=DM W:=⟨_,rfl⟩
   rw[<-hV]at R aj;clear H hV;go_wp2_with fail;refine aj.o.mono ?_;rintro e w6 ⟨rfl,h6⟩;have J:=Lh (G.o.made h6);have ap:=Lh (ae.o.below h6 ae.o.lt);have Y:=Lh (Z.o.trans (h6.mono (xc (xc ac.o Z.o.size) (xb _))));have k1:w6.cell? ⟨b,1,none⟩=some (jc W.cur):=J.o.box.cell 1;have f1:w6.frozen? ⟨b,1,none⟩=false:=J.o.box.frozen 1;have k4:w6.cell? ⟨P,4,none⟩=some (ja jb s.fv):=ap.o.cell 4;clear h6 c1;by_cases h1:s.fv<V
   ·have U:=Lh (show DP W s=(W,63)from by rw[R.o,if_pos (.inl h1)]);go_wp2_with fail;go_ret;rw[U.o];exact⟨_,_,_,_,rfl,J.o,Y.o⟩
   ·by_cases h2:s.fv=V
    ·have aq:(s.fv==V)=true:=by simp[h2]
     by_cases h3:T=W.cur
     ·have U:=Lh (show DP W s=({ W with cur:=T },0)from by rw[R.o,if_neg (by rintro(h | ⟨_,h⟩);exact h1 h;exact h h3)]);have ax:(T.toList==W.cur.toList)=true:=by rw[h3];simp
      clear h2 h3;have M:=Lh (J.o.boxed (W':={ W with cur:=T }) 1 (jc T) rfl rfl rfl);have O:=Lh (Y.o.setCell (p:=⟨b,1,none⟩) D.o.ge (jc T));skip
      go_wp2_with fail;go_ret;rw[U.o];exact⟨_,_,_,_,rfl,M.o,O.o⟩
     ·have U:=Lh (show DP W s=(W,63)from by rw[R.o,if_pos (.inr ⟨h2,h3⟩)]);have ax:(T.toList==W.cur.toList)=false:=D9 h3;clear h2 h3;go_wp2_with fail;go_ret;rw[U.o];exact⟨_,_,_,_,rfl,J.o,Y.o⟩
    ·have U:=Lh (show DP W s=({ W with cur:=T },0)from by rw[R.o,if_neg (by rintro(h | ⟨h,_⟩);exact h1 h;exact h2 h)]);have aq:(s.fv==V)=false:=by simp[h2]
     have M:=Lh (J.o.boxed (W':={ W with cur:=T }) 1 (jc T) rfl rfl rfl);have O:=Lh (Y.o.setCell (p:=⟨b,1,none⟩) D.o.ge (jc T));skip
     go_wp2_with fail;go_ret;rw[U.o];exact⟨_,_,_,_,rfl,M.o,O.o⟩
 ·have aD:(C==0)=false:=by simp[hC]
  have U:=Lh (show DP W s=(W,C)from by rw[HA.o,if_pos hC]);go_wp2_with fail;go_ret;rw[U.o];exact⟨_,_,_,_,rfl,G.o,Z.o⟩
def Iv(n:Nat):Code->Code
 | .seq (.region m o d) r=>if m=n then .seq (.region m o d) r else Iv n r
 | .seq _ r=>Iv n r
 | c=>c
def Rg(f:Func)(n:Nat):Code:=match f.body with | some c=>Iv n c | none=>.skip
theorem UP(b lo Q G A k cr cu:Nat)(_W Z:A3)(ns:List Bt)(_s:D7)(aL vn:Value)(xs:List BZ)(x:Hl)(o:BZ)(f1:ByteArray)(fv:Int)(ax:List Ev)(ts:List (Ev × Value × Value))(ar pu:Option Addr)(w M:World)
  (ai:Hid (Bi b lo M Z ns aL (jd ar xs.length cr) vn xs)) (ay:Hid (Af Q #[ja jb x.rd,je x.ans,ja jb x.tag,jc x.body] 107 M)) (aZ:Hid (Af G #[jc f1,ja jb fv,jd pu ts.length cu] 41 M)) (aG:Hid (Below lo w M)) (bn:Hid (Av lo M (jd pu ts.length cu) ts))
  (aM:Hid (xs[A]?=some o)) (aE:Hid (x.rd=A)) (cO:Hid (¬((Al x.body Z.zone).2≠0∨ ¬BH x.body (Al x.body Z.zone).1.2.1=x.tag))) (dq:Hid (Z.rds[x.rd.toNat]?=some o.r)) (eB:Hid (Cw o.r.v o.r.es=true)) (bV:Hid (Aq f1 fv ax=0)) (cj:Hid (ts.map (·.1)=ax)) (dz:Hid (Al x.body Z.zone=((f1,fv,ax),0))) (D:Hid (∀q,Below lo w q->lo<=q.heap.size)) (bL:Hid (ns.length<=1000000)) (HK:Hid (k=xs.length)) (eC:A<k)
  (u1 u2 u3 u4 u7 u8 u9 ep dd d9 ez du dy er d5 eA cV dS dP dj eu df dF dM ct dw dI dN cm cy ef ee cT d0 cR dn d7 dZ cL eh ei dh en dk ex cK co cB eg cZ dQ cM dB cx ck d6 da de c8 ew cQ cE u65 u66 dt eq dR dr cw dl et cz cv dg cC dK cI dv ec dU dA cP dx cJ dc cD dX cU dm dJ cH dT eo dG cG ea d8 bP bp bx cg b6 cc bN cb bY b5 bR br bT b0 b2 bF bU bW bo bw bl bv bK bs bC bD bm cd bq bE bH bS bO:Value):
  Code.wp Tryz.prog (Rg Tryz.f25 8) (bodyPost Tryz.prog Tryz.f25 (Ff b lo (((Cz Z x).1,ns++(Cz Z x).2),0) w)) ⟨(jf (some ⟨b,0,none⟩)::u1::u2::u3::u4::jf (some ⟨Q,0,none⟩)::jf (some ⟨G,0,none⟩)::u7::u8::u9::ep::dd::d9::ez::du::dy::er::d5::eA::cV::dS::dP::dj::eu::df::dF::dM::ct::dw::dI::dN::cm::cy::ef::ee::cT::d0::cR::dn::d7::dZ::cL::eh::ei::dh::en::dk::ex::cK::co::cB::eg::cZ::dQ::cM::dB::cx::ck::d6::da::de::c8::ew::cQ::cE::u65::u66::dt::eq::dR::dr::cw::dl::et::cz::cv::dg::cC::dK::cI::dv::ec::dU::dA::cP::dx::cJ::dc::cD::dX::cU::dm::dJ::cH::dT::eo::dG::cG::ea::d8::bP::bp::bx::cg::b6::cc::bN::cb::bY::b5::bR::br::bT::b0::b2::bF::bU::bW::bo::bw::bl::bv::bK::bs::bC::bD::bm::cd::bq::bE::bH::bS::bO::[]).toArray,[]⟩ M:=by
 simp only[Rg,Tryz.f25,Iv,Nat.reduceEqDiff,if_false,if_true];have eO:=HK.o;obtain⟨gr,dV,ey, -,aQ,aP⟩:=Rw.own ai.o.rds (by rw[<-HK.o];omega);subst ey;obtain⟨eU,o',aw, -,hcell⟩:=Rd.get Cs (Rw.rd ai.o.rds) aM.o;simp only[Option.some.injEq,Addr.mk.injEq,and_true]at aw;obtain⟨rfl,rfl⟩:=aw;have k0:M.cell? ⟨gr,A*3,none⟩=some (ja jb o.v):=by have:=hcell 0 _ (by omega) rfl;rw[xa]at this;exact this
 have k1:M.cell? ⟨gr,A*3+1,none⟩=some (ja jb o.tag):=by have:=hcell 1 _ (by omega) rfl;rw[xa]at this;exact this
 have k2:M.cell? ⟨gr,A*3+2,none⟩=some (jd o.ao o.ts.length o.c):=by have:=hcell 2 _ (by omega) rfl;rw[xa]at this;exact this
 have q0:M.cell? ⟨Q,0,none⟩=some (ja jb A):=by rw[<-aE.o];exact ay.o.cell 0
 have b3:M.cell? ⟨b,3,none⟩=some (jd (some ⟨gr,0,none⟩) k cr):=by rw[HK.o];exact ai.o.box.cell 3
 have eE:(0:Int)<=(A:Int):=by omega
 have eF:(A:Int)<k:=by omega
 have ed:Q<M.heap.size:=ay.o.lt;have cY:b<M.heap.size:=ai.o.box.lt;have dW:gr<M.heap.size:=(show Af gr dV 47 M from aP).lt;have eG:=Lh aQ;clear hcell aQ aP;go_upto_region 8 with(fail);go_region
 obtain⟨R,hR⟩: ∃R,R=M.heap.size:=⟨_,rfl⟩
 obtain⟨w6,aJ⟩: ∃w6,w6=(M.alloc (ji #[ja jb o.v,ja jb o.tag,jd o.ao o.ts.length o.c] 47)).drew:=⟨_,rfl⟩
 have ae:Below M.heap.size M w6:=by rw[aJ];exact Ac (Aa M _)
 have al:=Lh (show Af R #[ja jb o.v,ja jb o.tag,jd o.ao o.ts.length o.c] 47 w6 from by rw[aJ,hR];exact(Af.new M _ _).draw);have eP:=Lh (show R≠gr from by rw[hR];omega);have eH:=Lh (show lo<=R from by rw[hR];exact(D.o _ aG.o));have aK:=Lh (ai.o.made ae);have bg:=Lh (ay.o.below ae ay.o.lt);have ag:=Lh (aZ.o.below ae aZ.o.lt);have af:=Lh (aG.o.trans (ae.mono (D.o _ aG.o)));have bu:=Lh (bn.o.made ae);rw[<-aJ,<-hR];clear aJ hR ae ai ay aZ aG bn k0 k1 k2 q0 b3 ed cY dW;have ci:=Lh (aK.o.evs o (xg aM.o));have bG:Hid (Calls Tryz.prog 51 #[.agg #[ja jb o.v,ja jb o.tag,jd o.ao o.ts.length o.c],.agg #[jc f1,ja jb fv,jd pu ts.length cu]] w6 (OM o.v o.tag (o.ts.map (·.1)) f1 fv ax w6)):=Lh (by
  have h1:=eB.o;have h2:=bV.o;rw[<-cj.o]at h2 ⊢;exact O0 o.v o.tag o.ao o.c o.ts f1 fv pu cu ts w6 (Av.sgE ci.o) (Av.sgE bu.o) (by have:=((BT _ _).1 h1).2.2.1;rw[show o.r.es=o.ts.map (·.1)from rfl,xd]at this;omega) (by have:=(BC h2).2.2.1;rw[xd]at this;omega) (fun t ht=>Ms h1 t.1 (xj ht)) (fun t ht=>Oh h2 t.1 (xj ht)))
 have r0:w6.cell? ⟨R,0,none⟩=some (ja jb o.v):=al.o.cell 0;have r1:w6.cell? ⟨R,1,none⟩=some (ja jb o.tag):=al.o.cell 1;have r2:w6.cell? ⟨R,2,none⟩=some (jd o.ao o.ts.length o.c):=al.o.cell 2;have s0:w6.cell? ⟨G,0,none⟩=some (jc f1):=ag.o.cell 0;have s1:w6.cell? ⟨G,1,none⟩=some (ja jb fv):=ag.o.cell 1;have s2:w6.cell? ⟨G,2,none⟩=some (jd pu ts.length cu):=ag.o.cell 2;go_wp2_with fail;refine bG.o.mono ?_;rintro e w7 ⟨v7,t7,c7,E,F,us,pn,cn,H,rfl,aX,aS,aR,av⟩;have ca:=Lh (MH aX.symm bV.o);have bB:=Lh (K0 (W:=Z) (m:=x) cO.o dq.o (show(Al x.body Z.zone).1=(f1,fv,ax)from by rw[dz.o]) aX.symm);go_upto_region 10 with(fail);obtain⟨N,hN⟩: ∃N,N=w7.heap.size:=⟨_,rfl⟩
 obtain⟨w8,ah⟩: ∃w8,w8=w7.alloc (ji #[ja jb v7,ja jb t7,jd E us.length F] 47):=⟨_,rfl⟩
 have aj:Below w6.heap.size w6 w8:=by rw[ah];exact av.alloc av.size _
 have V:=Lh (show Af N #[ja jb v7,ja jb t7,jd E us.length F] 47 w8 from by rw[ah,hN];exact Af.new w7 _ _);have bA:gr<w6.heap.size:=by
  obtain⟨g2,eR,h1, -, -,h2⟩:=Rw.own aK.o.rds (by rw[<-HK.o];omega);cases h1;exact h2.lt
 have dH:=Lh (show N≠gr from by have:=av.size;omega);have b8:=Lh (show lo<=N from by have:=av.size;have:=(D.o _ af.o);omega);have aD:=Lh (aK.o.made aj);have aA:=Lh (bg.o.below aj bg.o.lt);have bt:=Lh (ag.o.below aj ag.o.lt);have bI:=Lh (al.o.below aj al.o.lt);have aF:=Lh (af.o.trans (aj.mono (D.o _ af.o)));have aY:=Lh (show Av lo w8 (jd E us.length F) us from by rw[ah];exact(aS.mono (D.o _ af.o)).alloc _);have ba:=Lh (show CZ lo w8 (jd pn H.length cn) H from by rw[ah];exact xh (Ab aR (D.o _ af.o)) _);rw[<-ah,<-hN];clear ah hN aj av aS aR aK bg ag al af bu bG ci r0 r1 r2 s0 s1 s2 aX bA;by_cases bk:c7=0
 ·subst bk;have r0:w8.cell? ⟨R,0,none⟩=some (ja jb o.v):=bI.o.cell 0;have s1:w8.cell? ⟨G,1,none⟩=some (ja jb fv):=bt.o.cell 1;have q2:w8.cell? ⟨Q,2,none⟩=some (ja jb x.tag):=aA.o.cell 2;have n1:w8.frozen? ⟨N,1,none⟩=false:=V.o.frozen 1;have n2:w8.cell? ⟨N,1,none⟩=some (ja jb t7):=V.o.cell 1;obtain⟨t8,aT⟩: ∃t8,t8=if o.v<=fv then x.tag else t7:=⟨_,rfl⟩
  have ch:=Lh aT;have em:=Lh (show Cz Z x=({ Z with rds:=Z.rds.set A (BZ.r ⟨v7,t8,E,F,us⟩) },H.map (Bt.mk A))from by rw[bB.o,if_neg (by decide),aE.o,xf,aT];rfl);clear aT;go_upto_if 100 with(fail)
  go_cut []from 96 to 103 (fun wx=>Hid (Af N #[ja jb v7,ja jb t8,jd E us.length F] 47 wx)/\(Hid (wx=w8)∨Hid (wx=w8.setCell ⟨N,1,none⟩ (ja jb x.tag))))
  case first=>
   by_cases b1:o.v<=fv
   ·have a6:=Lh (show t8=x.tag from by rw[ch.o,if_pos b1]);go_wp2_with fail;go_meet;exact⟨Lh (by rw[a6.o];exact V.o.set 1 (ja jb x.tag)),.inr (Lh rfl)⟩
   ·have a6:=Lh (show t8=t7 from by rw[ch.o,if_neg b1]);go_wp2_with fail;go_meet;exact⟨Lh (by rw[a6.o];exact V.o),.inl (Lh rfl)⟩
  case rest=>
   obtain⟨aO,bf⟩:=hcut;obtain⟨U,ce⟩: ∃q,q=wc:=⟨_,rfl⟩
   rw[<-ce]at aO bf ⊢;clear ce;have J:=Lh (show Bi b lo U Z ns aL (jd (some ⟨gr,0,none⟩) xs.length cr) vn xs/\Below lo w U/\Af Q #[ja jb x.rd,je x.ans,ja jb x.tag,jc x.body] 107 U/\Av lo U (jd E us.length F) us/\CZ lo U (jd pn H.length cn) H from by
    rcases bf with h | h
    ·rw[h.o];exact⟨aD.o,aF.o,aA.o,aY.o,ba.o⟩
    ·rw[h.o];exact⟨aD.o.boxN V.o dH.o 1 _,aF.o.setCell (p:=⟨N,1,none⟩) b8.o _,aA.o.set_other (aA.o.ne V.o (by decide)) 1 _,aY.o.set V.o (by decide) (by decide) 1 _,A7 ba.o V.o (by decide) 1 _⟩)
   clear bf aD aF aA aY ba V bI bt r0 s1 q2 n1 n2;obtain⟨g3,eV,eb, -,ej,O⟩:=Rw.own J.o.1.rds (by rw[<-HK.o];omega);cases eb;have b3:U.cell? ⟨b,3,none⟩=some (jd (some ⟨gr,0,none⟩) k cr):=by rw[HK.o];exact J.o.1.box.cell 3
   have q0:U.cell? ⟨Q,0,none⟩=some (ja jb A):=by rw[<-aE.o];exact J.o.2.2.1.cell 0
   have n0:U.cell? ⟨N,0,none⟩=some (ja jb v7):=aO.o.cell 0;have n1:U.cell? ⟨N,1,none⟩=some (ja jb t8):=aO.o.cell 1;have n2:U.cell? ⟨N,2,none⟩=some (jd E us.length F):=aO.o.cell 2;obtain⟨g5,o5,aw, -,hcell⟩:=Rd.get Cs (Rw.rd J.o.1.rds) aM.o;simp only[Option.some.injEq,Addr.mk.injEq,and_true]at aw;obtain⟨rfl,rfl⟩:=aw;have k0:U.cell? ⟨gr,A*3,none⟩=some (ja jb o.v):=by have:=hcell 0 _ (by omega) rfl;rw[xa]at this;exact this
   have k1:U.cell? ⟨gr,A*3+1,none⟩=some (ja jb o.tag):=by have:=hcell 1 _ (by omega) rfl;rw[xa]at this;exact this
   have k2:U.cell? ⟨gr,A*3+2,none⟩=some (jd o.ao o.ts.length o.c):=by have:=hcell 2 _ (by omega) rfl;rw[xa]at this;exact this
   have z0:U.frozen? ⟨gr,A*3,none⟩=false:=O.frozen _;have z1:U.frozen? ⟨gr,A*3+1,none⟩=false:=O.frozen _;have z2:U.frozen? ⟨gr,A*3+2,none⟩=false:=O.frozen _;have hp:=J.o.1.rdPut (X:=⟨v7,t8,E,F,us⟩) aM.o J.o.2.2.2.1;have a8:=Lh hp.1;have be:=Lh (hp.2 w (D.o _ (Below.refl _ _)) J.o.2.1);have a7:=Lh (show Af Q #[ja jb x.rd,je x.ans,ja jb x.tag,jc x.body] 107 (((U.setCell ⟨gr,A*3,none⟩ (ja jb v7)).setCell ⟨gr,A*3+1,none⟩ (ja jb t8)).setCell ⟨gr,A*3+2,none⟩ (jd E us.length F))from(((AB.set O).trans (AB.set (O.set _ _))).trans (AB.set ((O.set _ _).set _ _))) Q _ 107 (by decide) J.o.2.2.1);have bi:=Lh (show CZ lo (((U.setCell ⟨gr,A*3,none⟩ (ja jb v7)).setCell ⟨gr,A*3+1,none⟩ (ja jb t8)).setCell ⟨gr,A*3+2,none⟩ (jd E us.length F)) (jd pn H.length cn) H from AG J.o.2.2.2.2 (((AB.set O).trans (AB.set (O.set _ _))).trans (AB.set ((O.set _ _).set _ _))) (by decide));obtain⟨wB,aW⟩: ∃wB,wB=((U.setCell ⟨gr,A*3,none⟩ (ja jb v7)).setCell ⟨gr,A*3+1,none⟩ (ja jb t8)).setCell ⟨gr,A*3+2,none⟩ (jd E us.length F):=⟨_,rfl⟩
   rw[<-aW]at a8 be a7 bi;clear hp ej O J hcell;go_upto_region 14 with(fail);go_region
   rw[<-aW];obtain⟨w0,ak⟩: ∃w0,w0=wB.drew:=⟨_,rfl⟩
   obtain⟨WF,bh⟩: ∃WF,WF={ Z with rds:=Z.rds.set A (BZ.r ⟨v7,t8,E,F,us⟩) }:=⟨_,rfl⟩
   obtain⟨ys,bZ⟩: ∃ys,ys=xs.set A ⟨v7,t8,E,F,us⟩:=⟨_,rfl⟩
   have bX:=Lh (show Bi b lo w0 WF ns aL (jd (some ⟨gr,0,none⟩) xs.length cr) vn ys from by rw[ak,bh,bZ];exact a8.o.made (Ac (Below.refl _ _)));have bz:=Lh (show Below lo w w0 from by rw[ak];exact Ac be.o);have bQ:=Lh (show Af Q #[ja jb A,je x.ans,ja jb x.tag,jc x.body] 107 w0 from by rw[ak,<-aE.o];exact a7.o.draw);have aU:=Lh (show CZ lo w0 (jd pn H.length cn) H from by rw[ak];exact bi.o);have cN:=Lh (show Cz Z x=(WF,H.map (Bt.mk A))from by rw[em.o,bh]);rw[<-ak];clear ak aW a8 be a7 bi b3 q0 n0 n1 n2 k0 k1 k2 z0 z1 z2 bh bZ;obtain⟨nl,aN⟩: ∃nl,nl=H.length:=⟨_,rfl⟩
   have ac:=Lh aN;rw[<-aN];rw[<-aN]at aU;have eD:nl<=256:=by have:=ca.o;omega
   clear aN;obtain⟨i0,dY,dD,db,el⟩:=info_parts ID;go_wp2_with fail;go_loopw [115] (fun iv wr=> ∃(q:Nat) (b9:Value),iv=ja jb q/\q<=nl/\Hid (Bi b lo wr WF (ns++(H.take q).map (Bt.mk A)) aL (jd (some ⟨gr,0,none⟩) xs.length cr) b9 ys)/\Hid (Below lo w wr)/\Hid (Af Q #[ja jb A,je x.ans,ja jb x.tag,jc x.body] 107 wr)/\Hid (CZ lo wr (jd pn nl cn) H)) (fun iv _=>nl - (intOf iv).toNat)
   case atStart=>exact⟨0,vn,rfl,Nat.zero_le _,Lh (by simpa using bX.o),bz,bQ,aU⟩
   case round=>
    obtain⟨q,b9,rfl,hq,aq,aB,aV,bc⟩:=hrel;clear bX bz bQ aU;by_cases dp:q<nl
    ·have cf:(q:Int)<nl:=by omega
     obtain⟨t,ht⟩: ∃t,H[q]?=some t:=⟨_,xe (by rw[<-ac.o];exact dp)⟩
     obtain⟨ap,cp,bM,b7⟩:=CZ.nts (v:=jd pn H.length cn) (by rw[<-ac.o];exact bc.o);simp only[Value.slice.injEq]at bM;obtain⟨rfl, -, -⟩:=bM;obtain⟨gn,on,cX,eK,hcn⟩: ∃b o,pn=some ⟨b,o,none⟩/\b<wr.heap.size/\ ∀(j:Nat) (n:Nt),H[j]?=some n->wr.cell? ⟨b,o+j*3,none⟩=some (ja jb n.kind)/\wr.cell? ⟨b,o+j*3+1,none⟩=some (jc n.uid)/\wr.cell? ⟨b,o+j*3+2,none⟩=some (ja jb n.seq):=by
      rcases b7 with h | h
      ·rw[h]at ht;simp at ht
      ·exact h
     subst cX;obtain⟨t0,t1,t2⟩:=hcn q t ht;have ek:=Lh (show(H.take (q+1)).map (Bt.mk A)=(H.take q).map (Bt.mk A)++[⟨A,t⟩]from by
      obtain⟨h1,h2⟩:=List.getElem?_eq_some_iff.1 ht;rw[List.take_succ_eq_append_getElem h1,List.map_append,h2];rfl)
     obtain⟨an,c4,rfl, -, -⟩:=aq.o.nts.form;obtain⟨T,hT⟩: ∃T,T=wr.heap.size:=⟨_,rfl⟩
     obtain⟨X,hX⟩: ∃X,X=wr.alloc (ji #[ja jb t.kind,jc t.uid,ja jb t.seq] 54):=⟨_,rfl⟩
     have aH:Below wr.heap.size wr X:=by rw[hX];exact Aa wr _
     have aC:=Lh (show Af T #[ja jb t.kind,jc t.uid,ja jb t.seq] 54 X from by rw[hX,hT];exact Af.new wr _ _);have aa:=Lh (aq.o.made aH);have bJ:=Lh (aB.o.trans (aH.mono (D.o _ aB.o)));have aI:=Lh (aV.o.below aH aV.o.lt);have dO:=Lh (show CZ lo X (jd (some ⟨gn,on,none⟩) nl cn) H from by rw[hX];exact xh bc.o _);have am:=Lh (D.o _ bJ.o);go_upto_region 18 with(fail);rw[<-hX,<-hT];clear hX hT aH b7 hcn aq aB aV bc ht t0 t1 t2;obtain⟨nq,az⟩: ∃nq,nq=(ns++(H.take q).map (Bt.mk A)).length:=⟨_,rfl⟩
     have cq:=Lh az;have eJ:nq<=1000256:=by have:=bL.o;have:=ac.o;have:=ca.o;rw[az,List.length_append,xd,List.length_take];omega
     have b4:X.cell? ⟨b,4,none⟩=some (jd an nq c4):=by rw[az];exact aa.o.box.cell 4
     have f4:X.frozen? ⟨b,4,none⟩=false:=aa.o.box.frozen 4;have q0:X.cell? ⟨Q,0,none⟩=some (ja jb A):=aI.o.cell 0;have x0:X.cell? ⟨T,0,none⟩=some (ja jb t.kind):=aC.o.cell 0;have x1:X.cell? ⟨T,1,none⟩=some (jc t.uid):=aC.o.cell 1;have x2:X.cell? ⟨T,2,none⟩=some (ja jb t.seq):=aC.o.cell 2;have eQ:b<X.heap.size:=aa.o.box.lt;have eN:Q<X.heap.size:=aI.o.lt;have eM:T<X.heap.size:=aC.o.lt;have ab:=Lh (show X.ownsRow lo 56 4 (jd an nq c4) nq (gC BM (ns++(H.take q).map (Bt.mk A)))from by rw[az];exact aa.o.nts);clear az;go_region_law (first | (refine step_append_lies _ (by rfl) _ _ _ (by rfl) lo 56 i0 _ 4 40 Tryz.underlying36 dY dD db el rfl (by decide) (jd an nq c4) nq (gC BM (ns++(H.take q).map (Bt.mk A))) (by rfl) (ab.o.alloc _) ⟨X.heap.size,0,none⟩ 1 1 (BM ⟨A,t⟩) (by rfl) (by rfl) (Bd (Af.new X _ _)) (ET ⟨A,t⟩) (by omega) (by unfold maxLen;omega) (by omega) (by have:=am.o;simp;omega) (X.heap.size+1) (by simp) ?_;intro gg cap w1 au Y cS eI;obtain⟨cA,fA⟩:=Ql ((aa.o.box.alloc _).draw) (ab.o.alloc _) Y;have di:=cA 4;have cW:=fA 4))
     all_goals
      have hk:=(AB.made (e:=56) (Ac (Aa X (ji #[ja jb A,ja jb t.kind,jc t.uid,ja jb t.seq] 56)))).trans (AB.grown (ab.o.alloc _) Y);have hb:=Ak ((bJ.o).trans ((Ac (Aa X (ji #[ja jb A,ja jb t.kind,jc t.uid,ja jb t.seq] 56))).mono am.o)) (ab.o.alloc _) (xb _) (by have:=am.o;simp;omega) Y;have hm:=aa.o.noted hk (Rw.snoc (f:=BM) (x:=⟨A,t⟩) (by rw[<-cq.o];exact au));rw[List.append_assoc,<-ek.o]at hm;have cl:=Lh hm;have cF:=Lh (hb.setCell (p:=⟨b,4,none⟩) aa.o.ge (jd (some ⟨gg,0,none⟩) (nq+1) cap));have bj:=hk b _ 85 (by decide) aa.o.box;have dL:=Lh ((hk Q _ 107 (by decide) aI.o).set_other ((hk Q _ 107 (by decide) aI.o).ne bj (by decide)) 4 (jd (some ⟨gg,0,none⟩) (nq+1) cap));have dC:=Lh (show CZ lo _ (jd (some ⟨gn,on,none⟩) nl cn) H from A7 (AG dO.o hk (by decide)) bj (by decide) 4 (jd (some ⟨gg,0,none⟩) (nq+1) cap));clear hk hb hm Y au cS cA fA di cW bj;go_wp2_with fail;go_roundw
      case rel=>exact⟨q+1,_,by go_num,by omega,cl,cF,dL,dC⟩
      case measure=>simp[intOf];omega
    ·have cf: ¬(q:Int)<nl:=by omega
     have dE:H.take q=H:=List.take_of_length_le (by rw[<-ac.o];omega);rw[dE]at aq;go_wp2_with fail;go_ret;rw[cN.o];exact⟨_,_,_,_,rfl,aq.o,aB.o⟩
 ·have HD:=Lh (show Cz Z x=(Z,[])from by rw[bB.o,if_pos bk]);have eL:(c7==0)=false:=by simp[bk]
  go_wp2_with fail;go_ret;rw[HD.o,xi];exact⟨_,_,_,_,rfl,aD.o,aF.o⟩
theorem QP(b lo:Nat)(W:A3)(ns:List Bt)(vw vr vn:Value)(xs:List BZ)(s:D7)(af:Option Addr)(cf:Nat)(w:World)(hM:Bi b lo w W ns vw vr vn xs)(hlo:lo<=w.heap.size)(hl:W.way.length<=64)(hV:BF W)(hG:Eu w)(h6:6<lo)(bt:ns.length<=1000000):
  Calls Tryz.prog 25 #[jf (some ⟨b,0,none⟩),DN s af cf] w (Ff b lo (JF W ns s) w):=by
 obtain⟨aw,cw,rfl,bh, -⟩:=hM.way.form;obtain⟨ar,cr,rfl,br, -⟩:=hM.rds.form;obtain⟨Y,aB⟩: ∃Y,Y=w.alloc (ji #[ja jb s.kind,ja jb s.pos,ja jb s.n,jc s.fn,ja jb s.fv,jd af s.es.length cf] 43):=⟨_,rfl⟩
 have ai:=Lh (show Below w.heap.size w Y from by rw[aB];exact Aa w _);have M:=Lh (hM.made ai.o);have X:=Lh (show Af w.heap.size #[ja jb s.kind,ja jb s.pos,ja jb s.n,jc s.fn,ja jb s.fv,jd af s.es.length cf] 43 Y from by rw[aB];exact Af.new w _ _);obtain⟨P,hP⟩: ∃P,P=w.heap.size:=⟨_,rfl⟩
 rw[<-hP]at X;have b1:P<Y.heap.size:=X.o.lt;have bX:b<Y.heap.size:=M.o.box.lt;have c2:Y.cell? ⟨b,2,none⟩=some (jd aw W.way.length cw):=M.o.box.cell 2;have c3:Y.cell? ⟨b,3,none⟩=some (jd ar xs.length cr):=M.o.box.cell 3;have p1:Y.cell? ⟨P,1,none⟩=some (ja jb s.pos):=X.o.cell 1;have p2:Y.cell? ⟨P,2,none⟩=some (ja jb s.n):=X.o.cell 2;have aA:=Lh hlo;have aT:=Lh (xc hlo ai.o.size);have aZ:=Lh hl;have bL:=Lh (show xs.length=W.rds.length from by rw[<-hM.rmap,xd]);obtain⟨n,hn⟩: ∃n,n=W.way.length:=⟨_,rfl⟩
 have HN:=Lh hn;obtain⟨k,hk⟩: ∃k,k=xs.length:=⟨_,rfl⟩
 have HK:=Lh hk;rw[<-hn]at c2;rw[<-hk]at c3;obtain⟨i,hi⟩: ∃i,i=s.pos:=⟨_,rfl⟩
 have HI:=Lh hi;rw[<-hi]at p1;have bU:=Lh br;have bI:=Lh bh;unfold DN;rw[<-hi];have HA:=Lh (show JF W ns s=if decide (0<=i/\i<(n:Int))=false then((W,ns),60)else if(W.way.getD i.toNat ⟨0,false,0,⟨#[]⟩⟩).ans=false then((W,ns),60)else(((Cz { W with way:=W.way.eraseIdx i.toNat } (W.way.getD i.toNat ⟨0,false,0,⟨#[]⟩⟩)).1,ns++(Cz { W with way:=W.way.eraseIdx i.toNat } (W.way.getD i.toNat ⟨0,false,0,⟨#[]⟩⟩)).2),0)from by rw[hi,hn];rfl);have au:=Lh (fun q=>Jo b W.zone W.cur aw n cw (jd ar xs.length cr) vn i (Y.drewN q) (by rw[hn];exact M.o.box));have HV:=Lh hV;have O:Hid (∀q,Below lo w q->Eu q/\lo<=q.heap.size):=Lh (fun q hq=>⟨hG.below h6 hq,xc hlo hq.size⟩);have aY:=Lh bt;clear hV hG bt;clear hM hlo hn hk hi hl br bh;go_enter Tryz.func25,Tryz.ntmps25;go_upto_region 1 with(fail);rw[HI.o,<-aB,<-hP];clear aB hP;rw[<-HI.o];obtain⟨F,hF⟩: ∃F,F=decide (0<=i/\i<(n:Int)):=⟨_,rfl⟩
 have HF:=Lh hF;rw[<-hF]at HA au;clear hF;cases F
 ·have HR:=Lh (show JF W ns s=((W,ns),60)from by rw[HA.o,if_pos rfl]);go_quiet ((go_at_call 48;exact Calls.quiet_of_same (au.o _)));go_wp2_with fail;go_ret;rw[HR.o];exact⟨_,_,_,_,rfl,M.o.made (below_drewN (Below.refl _ _) _),below_drewN (ai.o.mono aA.o) _⟩
 ·have bG:=of_decide_eq_true HF.o.symm;obtain⟨j,rfl⟩: ∃j:Nat,i=j:=⟨i.toNat,by omega⟩
  have a7:j<n:=by omega
  obtain⟨x,hx⟩: ∃x,W.way[j]?=some x:=⟨_,xe (by rw[<-HN.o];exact a7)⟩
  have bm:W.way.getD (j:Int).toNat ⟨0,false,0,⟨#[]⟩⟩=x:=by rw[xf,List.getD_eq_getElem?_getD,hx];rfl
  rw[bm,xf]at HA;obtain⟨g,cs,Z, -,bo,hgb⟩:=Rw.own M.o.way (by rw[<-HN.o];omega);subst Z;obtain⟨g',o',Z,b8,hcell⟩:=Rd.get AV (Rw.rd M.o.way) hx;simp only[Option.some.injEq,Addr.mk.injEq,and_true]at Z;obtain⟨rfl,rfl⟩:=Z;have t1:Y.cell? ⟨g,j*4+1,none⟩=some (je x.ans):=by have:=hcell 1 _ (by omega) rfl;rw[xa]at this;exact this
  have bf:=Lh (HV.o.msg x (xg hx));have aO:=Lh hgb;have b2:=Lh bo;have bT:=Lh hx;have b5:(0:Int)<=(j:Int):=by omega
  have b9:(j:Int)<n:=by omega
  obtain⟨A,hA⟩: ∃A,A=x.ans:=⟨_,rfl⟩
  have bg:=Lh hA;rw[<-hA]at t1;clear bG hcell hx hgb bo bm hA;cases A
  ·have HR:=Lh (show JF W ns s=((W,ns),60)from by rw[HA.o,if_neg (by decide),if_pos bg.o.symm]);go_quiet ((go_at_call 48;exact Calls.quiet_of_same (au.o _)));go_wp2_with fail;go_ret;rw[HR.o];exact⟨_,_,_,_,rfl,M.o.made (below_drewN (Below.refl _ _) _),below_drewN (ai.o.mono aA.o) _⟩
  ·obtain⟨WE,aK⟩: ∃WE,WE={ W with way:=W.way.eraseIdx j }:=⟨_,rfl⟩
   have aC:=Lh aK;have HR:=Lh (show JF W ns s=(((Cz WE x).1,ns++(Cz WE x).2),0)from by rw[HA.o,if_neg (by decide),if_neg (by rw[<-bg.o];decide),aK]);clear aK;go_quiet ((go_at_call 48;exact Calls.quiet_of_same (au.o _)))
   obtain⟨U,aV⟩: ∃U,U=Y.drewN nq:=⟨_,rfl⟩
   rw[<-aV];have aj:=Lh (show Below Y.heap.size Y U from by rw[aV];exact below_drewN (Below.refl _ _) _);have am:=Lh (M.o.made aj.o);have aq:=Lh (X.o.below aj.o X.o.lt);have az:=Lh (aO.o.below aj.o aO.o.lt);have bq:=Lh (show Below lo w U from(ai.o.mono aA.o).trans (aj.o.mono aT.o));have ag:=Lh (xc aT.o aj.o.size);have d2:U.cell? ⟨b,2,none⟩=some (jd (some ⟨g,0,none⟩) n cw):=by rw[HN.o];exact am.o.box.cell 2
   have e1:U.cell? ⟨P,1,none⟩=some (ja jb j):=by rw[HI.o];exact aq.o.cell 1
   obtain⟨b7,b6,Z, -,hcell⟩:=Rd.get AV (Rw.rd am.o.way) bT.o;simp only[Option.some.injEq,Addr.mk.injEq,and_true]at Z;obtain⟨rfl,rfl⟩:=Z;have k0:U.cell? ⟨g,j*4,none⟩=some (ja jb x.rd):=by have:=hcell 0 _ (by omega) rfl;rw[xa]at this;exact this
   have k1:U.cell? ⟨g,j*4+1,none⟩=some (je x.ans):=by have:=hcell 1 _ (by omega) rfl;rw[xa]at this;exact this
   have k2:U.cell? ⟨g,j*4+2,none⟩=some (ja jb x.tag):=by have:=hcell 2 _ (by omega) rfl;rw[xa]at this;exact this
   have k3:U.cell? ⟨g,j*4+3,none⟩=some (jc x.body):=by have:=hcell 3 _ (by omega) rfl;rw[xa]at this;exact this
   have hb1:b<U.heap.size:=am.o.box.lt;have bH:P<U.heap.size:=aq.o.lt;have bN:g<U.heap.size:=az.o.lt;clear aV t1 c2 p1 p2 c3 au HA M ai X aO aj aT aA b1 bX hcell;go_upto_region 3 with(fail);go_region
   obtain⟨Q,hQ⟩: ∃Q,Q=U.heap.size:=⟨_,rfl⟩
   obtain⟨W2,aF⟩: ∃W2,W2=(U.alloc (ji #[ja jb x.rd,je x.ans,ja jb x.tag,jc x.body] 107)).drew:=⟨_,rfl⟩
   have ah:=Lh (show Below U.heap.size U W2 from by rw[aF];exact Ac (Aa U _));have aS:=Lh (show Af Q #[ja jb x.rd,je x.ans,ja jb x.tag,jc x.body] 107 W2 from by rw[aF,hQ];exact(Af.new U _ _).draw);have R:=Lh (am.o.made ah.o);have bk:=Lh (bq.o.trans (ah.o.mono ag.o));have aD:=Lh (az.o.below ah.o az.o.lt);have bi:=Lh (aq.o.below ah.o aq.o.lt);have b4:=Lh (show lo<=Q from by rw[hQ];exact ag.o);have bz:=Lh (show Q≠g from by rw[hQ];omega);have aI:=Lh (xc ag.o ah.o.size);rw[<-aF,<-hQ];clear aF hQ d2 e1 k0 k1 k2 k3 hb1 bH bN am aq az bq ah ag;have d2:W2.cell? ⟨b,2,none⟩=some (jd (some ⟨g,0,none⟩) n cw):=by rw[HN.o];exact R.o.box.cell 2
   have e1:W2.cell? ⟨P,1,none⟩=some (ja jb j):=by rw[HI.o];exact bi.o.cell 1
   have bn:Hid (Calls Tryz.prog 50 #[jd (some ⟨g,0,none⟩) n cw,ja jb j,ja jb (j+1)] W2.drew _):=Lh (by rw[HN.o];exact KY lo g cw W.way j W2.drew R.o.way (by rw[<-HN.o];exact a7) (by have:=aZ.o;omega));have bB:IntKind.i64.wrap ((j:Int)+1)=(j:Int)+1:=O8 j (by have:=aZ.o;have:=HN.o;omega);have f2:W2.frozen? ⟨b,2,none⟩=false:=R.o.box.frozen 2;have bZ:=Lh (R.o.box.ne aD.o (by decide));have bc:=Lh (R.o.box.ne aS.o (by decide));go_upto_region 4 with(fail);go_cut []from 40 to 54 (fun wx=> ∃bO,Hid (Bi b lo wx WE ns bO (jd ar xs.length cr) vn xs)/\Hid (Af Q #[ja jb x.rd,je x.ans,ja jb x.tag,jc x.body] 107 wx)/\Hid (Below lo w wx))
   case first=>
    go_region_law (first | (go_simp;go_at_call 50;refine bn.o.mono ?_;rintro e w5 ⟨rfl,bD,aE⟩;have bx:=Nv R.o.box.draw aD.o.draw aE;obtain⟨q2,z2⟩:=bx))
    all_goals
     have be:=Bi.ways (R.o.made (Ac (Below.refl _ _))) (AB.but aD.o.draw aE) bD;have bM:=(Ac bk.o).trans (Pm aE b2.o aI.o);have bQ:=(aS.o.draw.but aE bz.o).set_other (Ne.symm bc.o) 2 (jd (some ⟨g,0,none⟩) (W.way.length - 1) cw);have bS:=bM.setCell (p:=⟨b,2,none⟩) R.o.ge (jd (some ⟨g,0,none⟩) (W.way.length - 1) cw);rw[<-aC.o]at be;go_wp2_with fail;go_meet;exact⟨_,Lh be,Lh bQ,Lh bS⟩
   case rest=>
    obtain⟨bR,ak,aa,ae⟩:=hcut;clear R aS bk aD bi aI bZ bc bn bB f2 d2 e1;obtain⟨J,bp⟩: ∃q,q=wc:=⟨_,rfl⟩
    rw[<-bp]at ak aa ae ⊢;clear bp;obtain⟨FF,aP⟩: ∃FF,FF=Al x.body W.zone:=⟨_,rfl⟩
    obtain⟨⟨f1,T,av⟩,E⟩:=FF;have ax:=Lh aP;have ay:WE.zone=W.zone:=by rw[aC.o]
    have aR:Hid (∀q,Below J.heap.size J q->Calls Tryz.prog 43 #[jc x.body,jc W.zone] q (OL ((f1,T,av),E) q)):=Lh (fun q hq=>by rw[aP];exact N3 x.body W.zone HV.o.zone q (O.o q (ae.o.trans (hq.mono (O.o _ ae.o).2))).1);have D:=Lh (fun q (hq:Below J.heap.size J q)=>(show q.cell? ⟨Q,3,none⟩=some (jc x.body)/\q.cell? ⟨b,0,none⟩=some (jc W.zone)from⟨(aa.o.below hq aa.o.lt).cell 3,by rw[<-ay];exact(ak.o.box.below hq ak.o.box.lt).cell 0⟩));have bP:Q<J.heap.size:=aa.o.lt;have bA:b<J.heap.size:=ak.o.box.lt;clear aP ay;go_upto_region 5 with(fail);go_cut [6,7]from 55 to 65 (fun s6 s7 wx=> ∃G pu cu ts,s6=jf (some ⟨G,0,none⟩)/\s7=ja jb E/\Hid (Af G #[jc f1,ja jb T,jd pu ts.length cu] 41 wx)/\Hid (Av J.heap.size wx (jd pu ts.length cu) ts)/\Hid (ts.map (·.1)=av)/\Hid (Below J.heap.size J wx))
    case first=>
     go_region_held3 (fun W'=>W'.cell? ⟨Q,3,none⟩=some (jc x.body)/\W'.cell? ⟨b,0,none⟩=some (jc W.zone)) (first | exact D.o _ (Below.refl _ _) | exact D.o _ (Ac (Below.refl _ _)) | exact D.o _ (Aa _ _) | exact D.o _ (Ac (Aa _ _)) | exact D.o _ H | exact D.o _ H.1 | exact D.o _ (H.alloc H.size _) | exact D.o _ (((H.1.setCell (xb _) _).setCell (xb _) _).setCell (xb _) _)) (first | (go_at_call 43;(with_reducible refine(aR.o _ (Ac (Below.refl _ _))).mono ?_);rintro e w5 ⟨pu,cu,ts,rfl,aL,hR,ab⟩;have H:Below J.heap.size J w5:=(Ac (Below.refl _ J)).trans ab) | (go_at_call 43;(with_reducible refine(aR.o _ (Ac (Aa _ _))).mono ?_);rintro e w5 ⟨pu,cu,ts,rfl,aL,hR,ab⟩;have H:Below J.heap.size J w5/\Af J.heap.size #[jc ⟨#[]⟩,ja jb 0,jd none 0 0] 41 w5:=⟨(Ac (Aa J _)).trans (ab.mono (by simp)),(Af.new J _ _).draw.below ab (by simp)⟩;have q0:=H.2.c3;have p0:=H.2.frozen 0;have p1:=H.2.frozen 1;have p2:=H.2.frozen 2))
     ·have hb:=H.alloc H.size (ji #[Value.string f1,ja jb T,Value.slice pu ts.length cu] 41);have aX:=(Av.alloc hR (ji #[Value.string f1,ja jb T,Value.slice pu ts.length cu] 41)).mono (lo':=J.heap.size) (xb _);go_wp2_with fail;go_meet;exact⟨_,pu,cu,ts,rfl,rfl,Lh (Af.new w5 _ _),Lh aX,Lh aL,Lh hb⟩
     ·have hb:=((H.1.setCell (p:=⟨J.heap.size,0,none⟩) (xb _) (Value.string f1)).setCell (p:=⟨J.heap.size,1,none⟩) (xb _) (ja jb T)).setCell (p:=⟨J.heap.size,2,none⟩) (xb _) (Value.slice pu ts.length cu);have bE:=((H.2.set 0 (Value.string f1)).set 1 (ja jb T)).set 2 (Value.slice pu ts.length cu);have aX:=(((Av.set hR H.2 (by decide) (by decide) 0 (Value.string f1)).set (H.2.set 0 (Value.string f1)) (by decide) (by decide) 1 (ja jb T)).set ((H.2.set 0 (Value.string f1)).set 1 (ja jb T)) (by decide) (by decide) 2 (Value.slice pu ts.length cu)).mono (lo':=J.heap.size) (by simp);go_wp2_with fail;go_meet;exact⟨_,pu,cu,ts,rfl,rfl,Lh bE,Lh aX,Lh aL,Lh hb⟩
    case rest=>
     obtain⟨G,pu,cu,ts,rfl,rfl,al,aQ,bw,ap⟩:=hcut;obtain⟨w4,a6⟩: ∃q,q=wc:=⟨_,rfl⟩
     rw[<-a6]at al aQ ap ⊢;clear a6;have aM:=Lh (ak.o.made ap.o);have V:=Lh (aa.o.below ap.o aa.o.lt);have aH:=Lh (ae.o.trans (ap.o.mono (O.o _ ae.o).2));have ba:=Lh (aQ.o.mono (O.o _ ae.o).2);have ay:WE.zone=W.zone:=by rw[aC.o]
     have aG:=Lh (show Al x.body WE.zone=((f1,T,av),E)from by rw[ay];exact ax.o.symm);clear ak aa ae aQ ap aR D bP bA ay;by_cases hE:E=0
     ·subst hE;have r3:w4.cell? ⟨Q,3,none⟩=some (jc x.body):=V.o.cell 3;have D:=Lh (fun q (hq:Below w4.heap.size w4 q)=>(show q.cell? ⟨Q,3,none⟩=some (jc x.body)/\q.cell? ⟨Q,2,none⟩=some (ja jb x.tag)/\q.cell? ⟨G,1,none⟩=some (ja jb T)from⟨(V.o.below hq V.o.lt).cell 3,(V.o.below hq V.o.lt).cell 2,(al.o.below hq al.o.lt).cell 1⟩));have bj:0<=T/\T<=64:=by have:=I3 x.body W.zone;rw[<-ax.o]at this;exact this
      have bu:x.body.size<=262144:=Hx (s:=x.body) (z:=W.zone) (by rw[<-ax.o]);have a8:=Lh bj;have aN:=Lh (fun q=>Ri x.body T q a8.o.1 a8.o.2 bu);clear bj bu r3;go_upto_region 6 with(fail);go_region_held3 (fun W'=>W'.cell? ⟨Q,3,none⟩=some (jc x.body)/\W'.cell? ⟨Q,2,none⟩=some (ja jb x.tag)/\W'.cell? ⟨G,1,none⟩=some (ja jb T)) (first | exact D.o _ (Below.refl _ _) | exact D.o _ (Ac (Below.refl _ _)) | exact D.o _ H) (first | (go_at_call 49;(with_reducible refine(aN.o _).mono ?_);rintro e w5 ⟨rfl,ab⟩;have H:Below w4.heap.size w4 w5:=(Ac (Below.refl _ w4)).trans ab))
      have aU:=Lh (aM.o.made H);have bV:=Lh (V.o.below H V.o.lt);have bY:=Lh (al.o.below H al.o.lt);have bv:=Lh (aH.o.trans (H.mono (O.o _ aH.o).2));have bC:=Lh (ba.o.made H);clear ab H aM V al aH ba D aN;by_cases ac:BH x.body T=x.tag
      ·have b0:(BH x.body T==x.tag)=true:=by simp[ac]
       obtain⟨jr,aW⟩: ∃jr:Nat,x.rd=jr:=⟨x.rd.toNat,by have h:=bf.o;unfold CM at h;simp only[xk,decide_eq_true_eq]at h;omega⟩
       have aJ:jr<k:=by have h:=bf.o;unfold CM at h;simp only[xk,decide_eq_true_eq]at h;have h2:=HK.o;have h3:=bL.o;omega
       obtain⟨o,ho⟩: ∃o,xs[jr]?=some o:=⟨_,xe (by rw[<-HK.o];exact aJ)⟩
       have bJ:=Lh (show ¬((Al x.body WE.zone).2≠0∨ ¬BH x.body (Al x.body WE.zone).1.2.1=x.tag)from by rw[aG.o];simp[ac]);have aN:=Lh ac;have bK:=Lh aW;have bW:=Lh ho;have bs:=Lh (show WE.rds[x.rd.toNat]?=some o.r from by rw[aW,xf];exact Fg aU.o.rmap ho);have b3:=Lh (show Cw o.r.v o.r.es=true from HV.o.rds _ (by have:=xg bs.o;rw[aC.o]at this;exact this));have bF:=Lh (show Aq f1 T av=0 from by
        rcases CF x.body W.zone with⟨n',v',es',ls',hp,_,_,hv,_⟩ | ⟨c',hc',hp⟩
        ·rw[<-ax.o]at hp;simp only[Prod.mk.injEq,and_true]at hp;rw[hp.1,hp.2.1,hp.2.2];exact hv
        ·rw[<-ax.o]at hp;simp only[Prod.mk.injEq]at hp;exact absurd hp.2.symm hc')
       clear ac ho aW;go_upto_if 77 with(fail)
       go_cut []from 66 to 77 (fun wx=>Hid (wx=w5))
       case first=>
        go_wp2_with fail;go_meet;exact Lh rfl
       case rest=>
        have bl:=hcut.o;rw[bl];clear bl hcut;refine ‹∀(a:Act) (w:World),Code.wp _ _ _ a w->_› _ _ ?_;rw[HR.o];exact UP b lo Q G jr k cr cu W WE ns s bR vn xs x o f1 T av ts ar pu w w5 aU bV bY bv bC bW bK bJ bs b3 bF bw aG (Lh (fun q hq=>(O.o q hq).2)) aY HK aJ _ _ _ _ _ _ _ _ _ _ _ _ _ _ _ _ _ _ _ _ _ _ _ _ _ _ _ _ _ _ _ _ _ _ _ _ _ _ _ _ _ _ _ _ _ _ _ _ _ _ _ _ _ _ _ _ _ _ _ _ _ _ _ _ _ _ _ _ _ _ _ _ _ _ _ _ _ _ _ _ _ _ _ _ _ _ _ _ _ _ _ _ _ _ _ _ _ _ _ _ _ _ _ _ _ _ _ _ _ _ _ _ _ _ _ _ _ _ _ _ _ _ _ _ _ _ _ _ _ _
      ·have b0:(BH x.body T==x.tag)=false:=by simp[ac]
       have HD:=Lh (IF (W:=WE) (m:=x) (.inr (by rw[aG.o];exact ac)));clear ac;go_wp2_with fail;go_ret;rw[HR.o,HD.o,xi];exact⟨_,_,_,_,rfl,aU.o,bv.o⟩
     ·have ca:(E==0)=false:=by simp[hE]
      have HD:=Lh (IF (W:=WE) (m:=x) (.inl (by rw[aG.o];exact hE)));go_upto_region 6 with(fail);go_quiet (fail)
      go_wp2_with fail;go_ret;rw[HR.o,HD.o,xi];exact⟨_,_,_,_,rfl,aM.o.made (below_drewN (Below.refl _ _) _),below_drewN aH.o _⟩
