/- DeliveryAtLast: the law: true. Condition: none. -/
import Derived.Test.YtegjgjgoodekiaaGreatDoorQk34
import Derived.BigQuiet
open Go.Value renaming int->ja,string->jc,slice->jd,bool->je
open Go.IntKind renaming i64->jb
open Go.Ending renaming returned->jh
open Go.Obj renaming cells->ji
open List renaming getElem?_eq_getElem->xa,length_append->xc,mem_of_getElem?->xd,length_map->xe,not_mem_nil->xf,mem_cons->xg,getElem?_map->xh
open Nat renaming zero_le->xb
open Go.World.ownsRow renaming cells->xi
namespace Go.Proofs.YtegjgjgoodekiaaGreatDoor
open Go.RowKit
def SS:ByteArray:=⟨#[99,97,109,112,117,115]⟩
theorem Ft:Tt.code SS.data.toList=true:=by decide
def M2(g:Tt.Grd)(t:Tt.Trm)(ls:List (List Az))(r k:Nat)(pl:Option Addr)(ql:Nat):List Fu:=[⟨DF ⟨#[120]⟩ (ls.length:Int) (AX g t ls ls.length),pl,ql⟩,⟨B6 2 r,none,0⟩,⟨B6 3 k,none,0⟩,⟨B6 4 k,none,0⟩]
theorem E6(g:Tt.Grd)(t:Tt.Trm)(ls:List (List Az))(r k:Nat)(w:Option Addr)(A:Nat):(M2 g t ls r k w A).map Fu.s=fin g t ls r k:=rfl
set_option maxHeartbeats 16000000 in
set_option maxRecDepth 100000 in
theorem WH(ao:Option Addr)(az cap:Nat)(bu:Int)(w:World)(hn:UD w ao az)(hG:Eu w)(dq:0<=bu):Calls Tryz.prog 3 #[jd ao az cap,.int .u8 bu] w fun e w'=>e=jh (je true)/\Below w.heap.size w w':=by
 have HN:=Lh hn;have cS:Hid (∀W,Below w.heap.size w W->Calls Tryz.prog 5 #[] W fun e w'=>e=jh (je true)/\Below W.heap.size W w'):=Lh (fun W hW=>Uz W (hG.made hW));have HG:=Lh hG;clear hn hG;by_cases aO:(az:Int)<=400
 rotate_left
 ·have bt:decide ((az:Int)<=400)=false:=decide_eq_false aO;go_enter Tryz.func3,Tryz.ntmps3;go_wp2_with (go_at_call 4;(with_reducible refine(KH ao az cap _).mono ?_);rintro e w3 ⟨rfl,bk⟩;rw[bk,bt];clear bk w3);refine(cS.o _ (Below.refl w.heap.size w)).mono ?_;rintro e we ⟨rfl,hb⟩;have HE:=Lh (((Below.refl w.heap.size w)).trans (hb.mono ((Below.refl w.heap.size w)).size));clear hb;go_wp2_with fail;go_ret;exact⟨rfl,HE.o⟩
 have bt:decide ((az:Int)<=400)=true:=decide_eq_true aO;go_enter Tryz.func3,Tryz.ntmps3;go_wp2_with (go_at_call 4;(with_reducible refine(KH ao az cap _).mono ?_);rintro e w3 ⟨rfl,bk⟩;rw[bk,bt];clear bk w3);have dh:=Lh aO;clear aO bt;refine(Rx ao az cap w (by have:=dh.o;omega) HN.o).mono ?_;rintro e w1 ⟨rfl,hd,hb,dQ⟩;obtain⟨b,hbb⟩: ∃b,b=w.heap.size:=⟨_,rfl⟩
 rw[<-hbb]at hd dQ ⊢;have d9:=Lh hb;have da:=Lh hd;have eX:w.heap.size<=b:=by omega
 have dF:b<w1.heap.size:=by omega
 clear hd hb hbb dQ;go_wp2_with fail;refine(VB b w1 da.o).mono ?_;rintro e w2 ⟨g,t,ls,u,fs,rfl,dE,au,br,hs⟩;have ay:=Lh dE;obtain⟨gf,cf,hu,eO,e6⟩:=br.row.form (by omega);subst hu;obtain⟨N,hN⟩: ∃N,N=ls.length:=⟨_,rfl⟩
 have cU:N+1<=cf/\cf<=maxLen:=by
  rcases br.row.row.2 with⟨h1,h2⟩ | ⟨gp,cap,cur,h1,_,_,h3,h4,_⟩
  ·cases h1
  ·simp only[Value.slice.injEq]at h1;omega
 rw[show fs.length=N+1 from by rw[au,hN]];have cm:=Lh (show Dr w1.heap.size w2 (jd (some ⟨gf,0,none⟩) (N+1) cf) ⟨#[120]⟩ g t ls fs from by rw[<-show fs.length=N+1 from by rw[au,hN]];exact br);have b5:=Lh au;have aB:=Lh hN;have eP:N<=4:=by rw[hN];exact ay.o.len
 have cx:=Lh hs;have ez:w1.heap.size<=w2.heap.size:=hs.but.size;have d6:=Lh (show Below w.heap.size w w2 from d9.o.trans (hs.but.below (by omega) (by omega)));clear dE au br hN hs da;go_upto_region 5 with(fail);have ct:=Lh (UH SS 3 (.inr rfl) Ft w2);unfold SS at ct;go_wp2_with fail;refine ct.o.mono ?_;rintro e w3 ⟨vr,rfl,ho,hb⟩;have cJ:=Lh ho;have dc:=Lh hb;have dJ:w2.heap.size<=w3.heap.size:=hb.size;obtain⟨ar,cr,eh,ex,ej⟩:=ho.rds.form;subst eh;clear ho hb ct;have dV:(List.replicate 3 (⟨0,0,none,0,[]⟩:BZ)).length=3:=rfl;rw[dV]at cJ ⊢;unfold Fw MD;go_upto_region 6 with(fail);obtain⟨P,hP⟩: ∃P,P=w3.heap.size:=⟨_,rfl⟩
 obtain⟨w4,bE⟩: ∃X,X=w3.alloc (ji #[jc ⟨#[99,97,109,112,117,115]⟩,jc ⟨#[]⟩,jd none 0 0,jd ar 3 cr] 32):=⟨_,rfl⟩
 have aQ:Below w3.heap.size w3 w4:=by rw[bE];exact Aa w3 _
 have bZ:=Lh (show Af P #[jc ⟨#[99,97,109,112,117,115]⟩,jc ⟨#[]⟩,jd none 0 0,jd ar 3 cr] 32 w4 from by rw[bE,hP];exact Af.new w3 _ _);have dt:=Lh (cJ.o.made aQ);have aN:=Lh (dc.o.trans (aQ.mono dJ));have eC:w3.heap.size<=w4.heap.size:=aQ.size;have eD:w2.heap.size<=P:=by omega
 have dN:BJ b w4:=cx.o.dice.kept cx.o.dice.lt aN.o;have aM:=Lh (cm.o.made aN.o);have ah:Hid (Tk b w4.heap.size w4 gf fs):=Lh ⟨by omega,by omega,fun j f hj=>by
  obtain⟨p,q,hq, -, -⟩:=(aM.o.row.each f (xd hj)).seg;obtain⟨h1,h2,h3⟩:=aM.o.row.at_ hj;rw[hq]at h3;exact⟨p,q,hq,h1,h2,h3⟩⟩
 rw[<-hP,<-bE];clear hP bE aQ ej ex cJ dc;have eF: ¬((N:Int)+1=0):=by omega
 go_wp2_with fail;refine(UW b w4 dN fs gf (N+1) cf ah.o (by rw[b5.o,aB.o]) (by omega) (by omega) cU.1 (by have:=cU.2;unfold maxLen at this;omega)).mono ?_;rintro e w5 ⟨u5,zs,rfl,hz,dL,cQ,aD⟩;obtain⟨pz,cz,ef, -, -⟩:=hz.form;subst ef;obtain⟨zl,ci⟩: ∃zl,zl=zs.length:=⟨_,rfl⟩
 rw[<-ci]at hz dL ⊢;have di:=Lh hz;have cZ:=Lh ci;have cu:=Lh cQ;have eg:P≠b:=by have:=bZ.o.lt;omega
 have aU:=Lh (aD.blk bZ.o eg);have aG:=Lh (dt.o.butb (by omega) aD.but);have cX: ∀f∈fs,Av w1.heap.size w5 f.2.1 f.2.2:=fun f hf=>(aM.o.row.each f hf).butT dF aD.but
 have cA:=Lh cX;have dP:=Lh (ah.o.but aD.but);have bx:=Lh (show Below w.heap.size w w5 from(d6.o.trans (aN.o.mono (by omega))).trans (aD.but.below (by omega) (by omega)));have eK:w4.heap.size<=w5.heap.size:=aD.but.size;have eu:=Lh (show ∀x∈zs,K7 g t ls x.s from fun x hx=>UU cm.o b5.o (cu.o x hx));have bM:=Lh (At.start (g:=g) (t:=t) (ls:=ls) (z:=SS));unfold SS at bM;obtain⟨W0,bp⟩: ∃W0,W0=MD ⟨#[99,97,109,112,117,115]⟩ 3:=⟨_,rfl⟩
 have dm:Hid (GO w2.heap.size w5 w5 P W0 [] (jd none 0 0) (jd ar 3 cr) (jd none 0 0) (List.replicate 3 ⟨0,0,none,0,[]⟩)):=Lh ⟨by rw[bp];exact aG.o,Rw.nil _ _ _ _ _,by rw[bp];exact aU.o,AO.refl _ _ _⟩;rw[<-bp]at bM;have eB:P<w5.heap.size:=aU.o.lt;clear hz ci cQ aD cX bZ dt aM ah aG bp dN aN cx;go_wp2_with fail;go_loopw [9,50] (fun vn kv wr=> ∃(k:Nat) (W:A3) (F:List Bt) (vw vr:Value) (xs:List BZ),kv=ja jb k/\k<=zl/\F.length<=48*k/\Hid (GO w2.heap.size w5 wr P W F vw vr vn xs)/\Hid (At g t ls ⟨#[99,97,109,112,117,115]⟩ W F)) (fun _ kv _=>zl - (intOf kv).toNat)
 case atStart=>exact⟨0,_,[],_,_,_,rfl,xb _,xb _,dm,bM⟩
 case round=>
  obtain⟨k,W,F,vw,vr,xs,rfl,hk,ec,HH,HA⟩:=hrel;obtain⟨aw,cw,ax,av,an,cn,rfl,rfl,rfl,bj, -, -⟩:=HH.o.own.wat;have aT:=Lh bj;rw[HA.o.rds]at HH;clear bj dm bM;by_cases cd:k<zl
  ·have bl:(k:Int)<zl:=by omega
   obtain⟨x,hx⟩: ∃x,zs[k]?=some x:=⟨_,xa (by rw[<-cZ.o];exact cd)⟩
   have cI:=Lh (xd hx);have cg:=Lh (HH.o.kept aU.o);have em:wr.ownsRow w4.heap.size 43 6 (jd pz zl cz) zl (gC JW zs):=by
    have h:=AG di.o cg.o (by decide);rw[<-cZ.o]at h;exact h
   have dk:Rd JW wr.heap.size wr pz zs:=by
    have h:Rw JW 6 43 w4.heap.size wr (jd pz zl cz) zs:=AG di.o cg.o (by decide);exact h.rd
   obtain⟨gz,oz,dW,eW,hcell⟩:=Rd.get Li dk hx;subst dW;have k0:wr.cell? ⟨gz,oz+k*6,none⟩=some (ja jb x.s.kind):=hcell 0 _ (by omega) rfl;have k1:wr.cell? ⟨gz,oz+k*6+1,none⟩=some (ja jb x.s.pos):=hcell 1 _ (by omega) rfl;have k2:wr.cell? ⟨gz,oz+k*6+2,none⟩=some (ja jb x.s.n):=hcell 2 _ (by omega) rfl;have k3:wr.cell? ⟨gz,oz+k*6+3,none⟩=some (jc x.s.fn):=hcell 3 _ (by omega) rfl;have k4:wr.cell? ⟨gz,oz+k*6+4,none⟩=some (ja jb x.s.fv):=hcell 4 _ (by omega) rfl;have k5:wr.cell? ⟨gz,oz+k*6+5,none⟩=some (jd x.af x.s.es.length x.cf):=hcell 5 _ (by omega) rfl;clear em dk hcell hx;go_upto_region 12 with(fail);obtain⟨T,hT⟩: ∃T,T=wr.heap.size:=⟨_,rfl⟩
   obtain⟨X,hX⟩: ∃X,X=wr.alloc (ji #[ja jb x.s.kind,ja jb x.s.pos,ja jb x.s.n,jc x.s.fn,ja jb x.s.fv,jd x.af x.s.es.length x.cf] 43):=⟨_,rfl⟩
   have bA:Below wr.heap.size wr X:=by rw[hX];exact Aa wr _
   have cN:=Lh (show Af T #[ja jb x.s.kind,ja jb x.s.pos,ja jb x.s.n,jc x.s.fn,ja jb x.s.fv,jd x.af x.s.es.length x.cf] 43 X from by rw[hX,hT];exact Af.new wr _ _);have J:=Lh (HH.o.made bA);have aS:=Lh ((aT.o.below bA).mono bA.size);have ba:=Lh (show Below w.heap.size w X from bx.o.trans (J.o.but.below (by omega) (by omega)));have bi:=Lh (J.o.kept aU.o);have a8: ∀f∈fs,Av w1.heap.size X f.2.1 f.2.2:=fun f hf=>(cA.o f hf).keptT bi.o (by decide) (by decide)
   have aY:=Lh (Tw a8 (cu.o x cI.o));have aA:=Lh (eu.o x cI.o);have cp:=Lh (HA.o.valid ay.o Ft);have al:=Lh (VG W x.s aw ax x.af cw av x.cf xs X aS.o (HG.o.made ba.o) (by have:=cp.o.way;omega) (by have:=cp.o.few;omega) (Gn cp.o aS.o.rmap) aY.o (by have:=Tv ay.o (cu.o x cI.o) aA.o;omega) (by have:=aA.o.1;omega) (by have:=aA.o.2.1;omega));obtain⟨D,hD⟩: ∃D,D=Ds W x.s:=⟨_,rfl⟩
   rw[<-hD]at al;have HD:=Lh hD;have dn:=Lh (show D.2=0->At g t ls ⟨#[99,97,109,112,117,115]⟩ D.1.1 (F++D.1.2)/\Gi W D.1.1/\D.1.2.length<=48 from fun h0=>by rw[hD]at h0 ⊢;exact HA.o.step ay.o Ft aA.o h0);unfold DN DD at al;rw[HA.o.rds]at al;have t0:=cN.o.c6;have p0:X.cell? ⟨P,0,none⟩=some (jc W.zone):=J.o.box.cell 0;have p1:X.cell? ⟨P,1,none⟩=some (jc W.cur):=J.o.box.cell 1;have p2:X.cell? ⟨P,2,none⟩=some (jd aw W.way.length cw):=J.o.box.cell 2;have p3:X.cell? ⟨P,3,none⟩=some (jd ax 3 av):=J.o.box.cell 3;rw[<-hX,<-hT];clear hX hT k0 k1 k2 k3 k4 k5 a8 hD bA cg;go_wp2_with fail;refine al.o.mono ?_;rintro e y1 ⟨cv,b7,ck,a6,rfl,ak,am⟩;obtain⟨ab,aa,G,E,aC,aH,rfl,rfl,rfl, -,ek,bF⟩:=ak.wat;have bz:=Lh (J.o.made am);have ce:=Lh (ak.mono (show w2.heap.size<=X.heap.size from by have:=J.o.but.size;omega));have eU:=Lh am;clear ak am ek bF t0 p0 p1 p2 p3 cN J al aS aY ba bi;unfold Fw;go_upto_region 13 with(fail);obtain⟨Q,hQ⟩: ∃Q,Q=y1.heap.size:=⟨_,rfl⟩
   by_cases dz:D.2=0
   rotate_left
   ·obtain⟨Z,hZ⟩: ∃Z,Z=y1.alloc (ji #[jc D.1.1.zone,jc D.1.1.cur,jd ab D.1.1.way.length aa,jd G D.1.1.rds.length E] 32):=⟨_,rfl⟩
    have H:=Lh (show GO w2.heap.size w5 Z P W F (jd aw W.way.length cw) (jd ax 3 av) (jd an F.length cn) xs from bz.o.made (by rw[hZ];exact Aa y1 _));rw[<-hZ];clear hZ;go_wp2_with fail;go_roundw
    case rel=>exact⟨k+1,W,F,_,_,xs,by go_num,by omega,by omega,H,HA⟩
    case measure=>simp[intOf];omega
   obtain⟨bV,cV,eA⟩:=dn.o dz;have dx:=Lh bV;have ed:=Lh cV;rw[bV.rds]at ce ⊢;obtain⟨Z,hZ⟩: ∃Z,Z=y1.alloc (ji #[jc D.1.1.zone,jc D.1.1.cur,jd ab D.1.1.way.length aa,jd G 3 E] 32):=⟨_,rfl⟩
   have ac:Below y1.heap.size y1 Z:=by rw[hZ];exact Aa y1 _
   have H:=Lh (show GO w2.heap.size w5 Z P W F (jd aw W.way.length cw) (jd ax 3 av) (jd an F.length cn) xs from bz.o.made ac);have ag:=Lh (ce.o.made ac);have ai:=Lh (show Af Q #[jc D.1.1.zone,jc D.1.1.cur,jd ab D.1.1.way.length aa,jd G 3 E] 32 Z from by rw[hZ,hQ];exact Af.new y1 _ _);have fd:P<Q:=by have:=bz.o.box.lt;omega
   rw[<-hZ,<-hQ,dz];clear hZ hQ ac bz ce bV cV dn;have p3:Z.cell? ⟨P,3,none⟩=some (jd ax 3 av):=H.o.box.cell 3;have q3:Z.cell? ⟨Q,3,none⟩=some (jd G 3 E):=ai.o.cell 3;go_wp2_with fail;go_loopw [15] (fun iv wx=> ∃j:Nat,iv=ja jb j/\j<=3/\Hid (Below Z.heap.size Z wx)) (fun iv _=>3 - (intOf iv).toNat)
   case atStart=>exact⟨0,rfl,xb _,Lh (Below.refl _ _)⟩
   case round=>
    obtain⟨j,rfl,hj,aI⟩:=hrel;clear p3 q3;obtain⟨wj,d8⟩: ∃q,q=wr:=⟨_,rfl⟩
    have aX:=Lh (H.o.made aI.o);have p3:wr.cell? ⟨P,3,none⟩=some (jd ax 3 av):=aX.o.box.cell 3;have q3:wr.cell? ⟨Q,3,none⟩=some (jd G 3 E):=(ai.o.below aI.o ai.o.lt).cell 3;by_cases fa:j<3
    ·have dC:(j:Int)<3:=by omega
     have eG:(0:Int)<=(j:Int):=by omega
     obtain⟨xj,b9⟩: ∃xj,xs[j]?=some xj:=⟨_,xa (by have h:=congrArg List.length aX.o.own.rmap;rw[xe,HA.o.rds]at h;omega)⟩
     obtain⟨yj,cH⟩: ∃yj,a6[j]?=some yj:=⟨_,xa (by have h:=congrArg List.length ag.o.rmap;rw[xe,dx.o.rds]at h;omega)⟩
     obtain⟨g1,o1,eq,e8,cO⟩:=Rd.get Cs aX.o.own.rds.rd b9;obtain⟨g5,o5,d5,e4,df⟩:=Rd.get Cs (ag.o.made aI.o).rds.rd cH;have hle:xj.v<=yj.v:=ed.o j xj.r yj.r (Fg aX.o.own.rmap b9) (Fg ag.o.rmap cH);have fg: ¬yj.v<xj.v:=by omega
     have c1:wr.cell? ⟨g1,o1+j*3,none⟩=some (ja jb xj.v):=cO 0 _ (by omega) rfl;have c5:wr.cell? ⟨g5,o5+j*3,none⟩=some (ja jb yj.v):=df 0 _ (by omega) rfl;rw[eq]at p3;rw[d5]at q3;clear cO df hle b9 cH;go_upto_region 19 with(fail);go_quiet (fail)
     obtain⟨W2,O⟩: ∃W2,W2=wr.drewN nq:=⟨_,rfl⟩
     rw[<-O];have aE:=Lh (show Below Z.heap.size Z W2 from by rw[O];exact below_drewN aI.o _);clear O;go_wp2_with fail;go_roundw
     case rel=>exact⟨j+1,by go_num,by omega,aE⟩
     case measure=>simp[intOf];omega
    ·have dC: ¬(j:Int)<3:=by omega
     go_upto_region 21 with(fail);obtain⟨U,hU⟩: ∃U,U=wr:=⟨_,rfl⟩
     have HU:=Lh (aX.o);have cD:=Lh (ag.o.made aI.o);have aR:=Lh (ai.o.below aI.o ai.o.lt);rw[<-hU]at HU cD aR ⊢;clear hU aX aI p3 q3 d8;have bW:w5.heap.size<=U.heap.size:=HU.o.but.size;have q0:U.cell? ⟨Q,0,none⟩=some (jc D.1.1.zone):=aR.o.cell 0;have q1:U.cell? ⟨Q,1,none⟩=some (jc D.1.1.cur):=aR.o.cell 1;have q2:U.cell? ⟨Q,2,none⟩=some (jd ab D.1.1.way.length aa):=aR.o.cell 2;have q3:U.cell? ⟨Q,3,none⟩=some (jd G 3 E):=aR.o.cell 3;have p0:U.cell? ⟨P,0,none⟩=some (jc W.zone):=HU.o.box.cell 0;have p1:U.cell? ⟨P,1,none⟩=some (jc W.cur):=HU.o.box.cell 1;have p2:U.cell? ⟨P,2,none⟩=some (jd aw W.way.length cw):=HU.o.box.cell 2;have p3:U.cell? ⟨P,3,none⟩=some (jd ax 3 av):=HU.o.box.cell 3;have f0:U.frozen? ⟨P,0,none⟩=false:=HU.o.box.frozen 0;have f1:U.frozen? ⟨P,1,none⟩=false:=HU.o.box.frozen 1;have f2:U.frozen? ⟨P,2,none⟩=false:=HU.o.box.frozen 2;have f3:U.frozen? ⟨P,3,none⟩=false:=HU.o.box.frozen 3;obtain⟨i0,bK,ch,b8,cC⟩:=info_parts ID;have aP: ∀V,Rw BM 4 56 w2.heap.size V (jd aC D.1.2.length aH) D.1.2->(aC=none/\D.1.2.length=0/\aH=0)∨ ∃ad,aC=some ad/\ ∀j u,(gC BM D.1.2)[j]?=some u->V.cell? (ad.add j)=some u:=fun V h=>by
      rcases(show V.ownsRow w2.heap.size 56 4 _ D.1.2.length (gC BM D.1.2)from h).2 with⟨h1,h2⟩ | ⟨g,cap,cur,h1,h2⟩
      ·simp only[Value.slice.injEq]at h1;exact .inl ⟨h1.1,h2,h1.2.2⟩
      ·simp only[Value.slice.injEq]at h1;exact .inr ⟨⟨g,0,none⟩,h1.1,fun j u hj=>xi (show V.ownsRow w2.heap.size 56 4 _ D.1.2.length (gC BM D.1.2)from h) (g:=g) (by rw[h1.1];rfl) j u hj⟩
     have aA:=Lh (show U.ownsRow w5.heap.size 56 4 (jd an F.length cn) F.length (gC BM F)from HU.o.nts);have ep:=Lh (aP U cD.o.nts);have bR:=Lh (show F.length+D.1.2.length<=2000000 from by omega);clear aP;go_region_law (first | (refine C1 (by rfl) _ _ _ (by rfl) w5.heap.size 56 i0 _ 4 40 Tryz.underlying36 bK ch b8 cC rfl (by decide) (jd an F.length cn) F.length (gC BM F) (by rfl) aA.o aC D.1.2.length aH (gC BM D.1.2) (by rfl) (Dq DQ _) ep.o (Hd ET _) (by have:=bR.o;unfold maxLen;omega) (by have:=bR.o;omega) (by simpa using bW) ?_;intro v9 w9 ae A;have a7:=(AB.made (Ac (Below.refl _ U))).trans (AB.grown aA.o A);have ap:=a7 _ _ 32 (by decide) HU.o.box;have a0:w9.cell? ⟨P,0,none⟩=some (jc W.zone):=ap.cell 0;have a1:w9.cell? ⟨P,1,none⟩=some (jc W.cur):=ap.cell 1;have a2:w9.cell? ⟨P,2,none⟩=some (jd aw W.way.length cw):=ap.cell 2;have a3:w9.cell? ⟨P,3,none⟩=some (jd ax 3 av):=ap.cell 3;have b0:=ap.frozen 0;have b1:=ap.frozen 1;have b2:=ap.frozen 2;have b3:=ap.frozen 3;have bf:=a7 _ _ 32 (by decide) aR.o;have d0:w9.cell? ⟨Q,0,none⟩=some (jc D.1.1.zone):=bf.cell 0;have d1:w9.cell? ⟨Q,1,none⟩=some (jc D.1.1.cur):=bf.cell 1;have d2:w9.cell? ⟨Q,2,none⟩=some (jd ab D.1.1.way.length aa):=bf.cell 2;have d3:w9.cell? ⟨Q,3,none⟩=some (jd G 3 E):=bf.cell 3))
     all_goals
      have cc:=cD.o.told a7 (show Rw BM 4 56 w2.heap.size w9 v9 (F++D.1.2)from by unfold Rw;rw[DK,xc];exact Ab ae (by omega));have dD:Rw BM 4 56 w5.heap.size w9 v9 (F++D.1.2):=by unfold Rw;rw[DK,xc];exact ae
      have dG:GO w2.heap.size w5 w9 P W (F++D.1.2) (jd aw W.way.length cw) (jd ax 3 av) v9 xs:=⟨HU.o.own.told a7 cc.nts,dD,ap,D4 (Ba HU.o.but (AO.of_below (Ac (Below.refl _ U))) bW) (Ay aA.o (Ac (Below.refl _ U))) bW A⟩
      have cB:=dG.take cc;obtain⟨V9,cq⟩: ∃Y,Y=((((w9.setCell ⟨P,0,none⟩ (jc D.1.1.zone)).setCell ⟨P,1,none⟩ (jc D.1.1.cur)).setCell ⟨P,2,none⟩ (jd ab D.1.1.way.length aa)).setCell ⟨P,3,none⟩ (jd G 3 E)):=⟨_,rfl⟩
      rw[<-cq]at cB;have dR:=Lh cB;rw[<-cq];clear cq cB dG dD cc ae A a7 ap bf a0 a1 a2 a3 b0 b1 b2 b3 d0 d1 d2 d3;go_wp2_with fail;go_roundw
      case rel=>exact⟨k+1,D.1.1,F++D.1.2,_,_,a6,by go_num,by omega,by rw[xc];omega,dR,dx⟩
      case measure=>simp[intOf];omega
  ·have bl: ¬(k:Int)<zl:=by omega
   have eE:F.length<=1920:=by omega
   clear cd hk ec;obtain⟨fl,au⟩: ∃f,fs[N]?=some f:=⟨_,xa (by rw[b5.o,<-aB.o];omega)⟩
   have dH:=Lh (xd au);have bq:=Lh (cm.o.ver N fl au);obtain⟨pl,ql,ca,l0,l1,l2⟩:=(dP.o.but (show AO b w4.heap.size w5 w5 from AO.refl _ _ _)).2.2 N fl au;rw[bq.o.1]at l1;obtain⟨M,hM⟩: ∃M,M=fl.2.2.length:=⟨_,rfl⟩
   rw[<-hM]at l2 ca;have bn:gf<w5.heap.size:=by have:=dP.o.1;omega
   have bU:gf≠P:=by omega
   have HL:=Lh (show ∀x,Below wr.heap.size wr x->x.cell? ⟨gf,N*3,none⟩=some (jc ⟨#[120]⟩)/\x.cell? ⟨gf,N*3+1,none⟩=some (ja jb (N:Int))/\x.cell? ⟨gf,N*3+2,none⟩=some (jd pl M ql)from fun x hx=>by
    have hb:AO P w5.heap.size w5 x:=Ba HH.o.but (AO.of_below hx) HH.o.but.size;exact⟨(hb.cell bn bU).trans l0,(hb.cell bn bU).trans l1,(hb.cell bn bU).trans l2⟩)
   have c7:=Lh ca;have HM:=Lh hM;obtain⟨rq,e7,db⟩: ∃rq:Nat,bu.tmod 3=(rq:Int)/\rq<3:=⟨(bu.tmod 3).toNat,by rw[Int.tmod_eq_emod_of_nonneg dq];omega,by rw[Int.tmod_eq_emod_of_nonneg dq];omega⟩
   clear au ca l0 l1 l2 hM;have ff:(0:Int)<=(N:Int):=by omega
   have fb:(N:Int)<(N:Int)+1:=by omega
   go_upto_region 23 with(fail);obtain⟨l0,l1,l2⟩:=HL.o wr (Below.refl _ _);obtain⟨m0,m1,m2⟩:=HL.o _ (Ac (Aa wr (ji #[jc ⟨#[]⟩,ja jb 0,jd none 0 0] 41)));obtain⟨n0,n1,n2⟩:=HL.o _ (Ac (Below.refl _ wr));go_region
   obtain⟨S,hS⟩: ∃S,S=wr.heap.size:=⟨_,rfl⟩
   obtain⟨w6,bH⟩: ∃X,X=(wr.alloc (ji #[jc ⟨#[120]⟩,ja jb (N:Int),jd pl M ql] 41)).drew:=⟨_,rfl⟩
   have dr:Below wr.heap.size wr w6:=by rw[bH];exact Ac (Aa wr _)
   have dM:=Lh (HH.o.made dr);have dp:=Lh (show Af S #[jc ⟨#[120]⟩,ja jb (N:Int),jd pl M ql] 41 w6 from by rw[bH,hS];exact(Af.new wr _ _).draw);have eR:w5.heap.size<=S:=by have:=HH.o.but.size;omega
   rw[<-bH,<-hS];clear bH hS dr l0 l1 l2 m0 m1 m2 n0 n1 n2 HL HH aT;go_wp2_with fail;go_loopw [] (fun wy=> ∃(W':A3) (vw vr:Value) (ys:List BZ),Hid (GO w2.heap.size w5 wy P W' F vw vr (jd an F.length cn) ys)/\Hid (At g t ls ⟨#[99,97,109,112,117,115]⟩ W' F)/\Hid (Af S #[jc ⟨#[120]⟩,ja jb (N:Int),jd pl M ql] 41 wy)) (fun wy=>match wy.cell? ⟨P,2,none⟩with | some (jd _ n _)=>n | _=>0)
   case atStart=>exact⟨W,_,_,xs,dM,HA,dp⟩
   case round=>
    obtain⟨W',vw,vr,ys,aj,aF,bh⟩:=hrel;obtain⟨be,bg,bC,bO,eV,eL,rfl,rfl,d7,bj, -, -⟩:=aj.o.own.wat;have aT:=Lh bj;rw[aF.o.rds]at aj;obtain⟨wl,bw⟩: ∃wl,wl=W'.way.length:=⟨_,rfl⟩
    have aV:=Lh bw;rw[<-bw]at aj;have eI:wl<=64:=by rw[bw];exact aF.o.len
    clear bj d7 dM dp bw;have p0:wr.cell? ⟨P,0,none⟩=some (jc W'.zone):=aj.o.box.cell 0;have p1:wr.cell? ⟨P,1,none⟩=some (jc W'.cur):=aj.o.box.cell 1;have p2:wr.cell? ⟨P,2,none⟩=some (jd be wl bg):=aj.o.box.cell 2;have p3:wr.cell? ⟨P,3,none⟩=some (jd bC 3 bO):=aj.o.box.cell 3;by_cases cd:60<wl
    ·have bl:(60:Int)<(wl:Int):=by omega
     have dU:=Lh (show Below w.heap.size w wr from bx.o.trans (aj.o.but.below (by omega) (by omega)));have cG:=Lh (aF.o.valid ay.o Ft);obtain⟨hd,ha,dO⟩:=Ul aF.o ay.o Ft (by rw[<-aV.o];omega);have al:=Lh (VG W' (B6 5 0) be bC none bg bO 0 ys wr aT.o (HG.o.made dU.o) (by have:=cG.o.way;omega) (by have:=cG.o.few;omega) (Gn cG.o aT.o.rmap) (.inl rfl) (xb _) (by show(-9223372036854775808:Int)<=5;decide) (by show(5:Int)<=9223372036854775807;decide));rw[hd]at al;have bI:=Lh ha;have cj:=Lh dO;unfold DN DD B6 at al;rw[aF.o.rds,<-aV.o]at al;clear hd ha dO;go_wp2_with fail;refine al.o.mono ?_;rintro e y1 ⟨cv,b7,ck,a6,rfl,ak,am⟩;obtain⟨D,hD⟩: ∃D:A3,D={ W' with way:=W'.way.eraseIdx 0 }:=⟨_,rfl⟩
     rw[<-hD]at ak bI;have aG:=Lh (show Own wr.heap.size y1 D [] cv b7 ck a6 from ak);have cb:D.way.length=wl - 1:=by rw[hD,aV.o];exact cj.o
     have dS:=Lh cb;have bm:=Lh (aj.o.made am);have aL:=Lh (bh.o.below am bh.o.lt);obtain⟨ab,aa,G,E,aC,aH,rfl,rfl,rfl, -, -, -⟩:=aG.o.wat;rw[bI.o.rds,cb]at aG;rw[<-hD];clear ak am hD al p0 p1 p2 p3 cb;unfold Fw;dsimp only
     rw[bI.o.rds,dS.o];go_upto_region 26 with(fail);obtain⟨Q,hQ⟩: ∃Q,Q=y1.heap.size:=⟨_,rfl⟩
     obtain⟨Z,hZ⟩: ∃Z,Z=y1.alloc (ji #[jc D.zone,jc D.cur,jd ab (wl - 1) aa,jd G 3 E] 32):=⟨_,rfl⟩
     have ac:Below y1.heap.size y1 Z:=by rw[hZ];exact Aa y1 _
     have H:=Lh (bm.o.made ac);have cY:w2.heap.size<=wr.heap.size:=by have:=aj.o.but.size;omega
     have ag:=Lh ((aG.o.made ac).mono cY);have bv:=Lh (aL.o.below ac aL.o.lt);have ai:=Lh (show Af Q #[jc D.zone,jc D.cur,jd ab (wl - 1) aa,jd G 3 E] 32 Z from by rw[hZ,hQ];exact Af.new y1 _ _);have bG:S≠P:=by omega
     rw[<-hZ,<-hQ];clear hZ hQ ac bm aG aL;have p2:Z.cell? ⟨P,2,none⟩=some (jd be wl bg):=H.o.box.cell 2;have p0:Z.cell? ⟨P,0,none⟩=some (jc W'.zone):=H.o.box.cell 0;have p1:Z.cell? ⟨P,1,none⟩=some (jc W'.cur):=H.o.box.cell 1;have p3:Z.cell? ⟨P,3,none⟩=some (jd bC 3 bO):=H.o.box.cell 3;have f0:=fun i=>H.o.box.frozen i
     have q0:Z.cell? ⟨Q,0,none⟩=some (jc D.zone):=ai.o.cell 0;have q1:Z.cell? ⟨Q,1,none⟩=some (jc D.cur):=ai.o.cell 1;have q2:Z.cell? ⟨Q,2,none⟩=some (jd ab (wl - 1) aa):=ai.o.cell 2;have q3:Z.cell? ⟨Q,3,none⟩=some (jd G 3 E):=ai.o.cell 3;have bX: ¬((wl:Int)<=((wl - 1:Nat):Int)):=by omega
     go_wp2_with fail;have hT:=H.o.take ag.o;obtain⟨V,hV⟩: ∃Y,Y=((((Z.setCell ⟨P,0,none⟩ (jc D.zone)).setCell ⟨P,1,none⟩ (jc D.cur)).setCell ⟨P,2,none⟩ (jd ab (wl - 1) aa)).setCell ⟨P,3,none⟩ (jd G 3 E)):=⟨_,rfl⟩
     have ee:=Lh (show Af S #[jc ⟨#[120]⟩,ja jb (N:Int),jd pl M ql] 41 V from by rw[hV];exact(((bv.o.set_other bG 0 _).set_other bG 1 _).set_other bG 2 _).set_other bG 3 _);rw[<-hV]at hT;have HT:=Lh hT;have dY:V.cell? ⟨P,2,none⟩=some (jd ab (wl - 1) aa):=HT.o.box.cell 2;rw[<-hV];clear hV hT p0 p1 p2 p3 q0 q1 q2 q3 f0;have p2:wr.cell? ⟨P,2,none⟩=some (jd be wl bg):=aj.o.box.cell 2;go_roundw
     case rel=>exact⟨D,_,_,a6,HT,bI,ee⟩
     case measure=>rw[dY,p2];show wl - 1<wl;omega
    ·have bl: ¬(60:Int)<(wl:Int):=by omega
     have ah:=Lh (Ui aF.o ay.o Ft (by rw[<-aV.o];omega) db);rw[<-aV.o]at ah;have cE:=Lh (show(AX g t ls ls.length).length=M from by rw[<-aB.o,<-bq.o.2,xe,HM.o]);have de:(#[ja jb 1,ja jb 0,ja jb 0,jc ⟨#[120]⟩,ja jb (N:Int),jd pl M ql,ja jb 2,ja jb (rq:Int),ja jb 0,jc ⟨#[]⟩,ja jb 0,jd none 0 0,ja jb 3,ja jb (wl:Int),ja jb 0,jc ⟨#[]⟩,ja jb 0,jd none 0 0,ja jb 4,ja jb (wl:Int),ja jb 0,jc ⟨#[]⟩,ja jb 0,jd none 0 0]:Array Value)=(gC JW (M2 g t ls rq wl pl ql)).toArray:=by
      simp only[gC,M2,JW,DF,B6,List.flatMap_cons,List.flatMap_nil,List.cons_append,List.nil_append,<-aB.o,List.length_nil,List.append_nil];rw[show(AX g t ls N).length=M from by rw[aB.o];exact cE.o]
     obtain⟨X,hX⟩: ∃X,X=wr.alloc (ji #[ja jb 1,ja jb 0,ja jb 0,jc ⟨#[120]⟩,ja jb (N:Int),jd pl M ql,ja jb 2,ja jb (rq:Int),ja jb 0,jc ⟨#[]⟩,ja jb 0,jd none 0 0,ja jb 3,ja jb (wl:Int),ja jb 0,jc ⟨#[]⟩,ja jb 0,jd none 0 0,ja jb 4,ja jb (wl:Int),ja jb 0,jc ⟨#[]⟩,ja jb 0,jd none 0 0] 43):=⟨_,rfl⟩
     have bc:Below wr.heap.size wr X:=by rw[hX];exact Aa wr _
     have J:=Lh (aj.o.made bc);have b6:=Lh (bh.o.below bc bh.o.lt);have ba:=Lh (show Below w.heap.size w X from bx.o.trans (J.o.but.below (by omega) (by omega)));have bi:=Lh (J.o.kept aU.o);have cT:=Lh (Rd.blk (f:=JW) (xs:=M2 g t ls rq wl pl ql) (show Af wr.heap.size _ 43 X from by rw[hX,de];exact Af.new wr _ _));have a8:Av w1.heap.size X (jd pl M ql) fl.2.2:=by
      have h:=(cA.o fl dH.o).keptT bi.o (by decide) (by decide);rw[c7.o]at h;exact h
     have aY:=Lh (show GQ X.heap.size X pl (AX g t ls ls.length)from by
      have h:=(Av.sgE a8).evs;rw[bq.o.2,aB.o]at h;exact h)
     have aS:=Lh ((aT.o.below bc).mono bc.size);have bN:=Lh (UF W' (M2 g t ls rq wl pl ql) be bC (some ⟨wr.heap.size,0,none⟩) bg bO 4 ys X aS.o (HG.o.made ba.o) cT.o (fun x hx=>by
      simp only[M2,xg,xf,or_false]at hx;rcases hx with rfl | rfl | rfl | rfl
      ·exact aY.o
      ·exact .inl rfl
      ·exact .inl rfl
      ·exact .inl rfl) (by show 4<=1000;decide)
      (fun i hi=>by rw[List.map_take,E6];exact(ah.o.2.2.2.2.1 i hi).1)
      (fun i hi=>by rw[List.map_take,E6];have:=(ah.o.2.2.2.2.1 i hi).2;omega)
      (fun i x hx=>by
       rw[List.map_take,E6];have:=ah.o.2.2.2.2.2 i x.s (by rw[<-E6 g t ls rq wl pl ql,xh,hx];rfl);omega)
      (fun x hx=>by
       have dX:=ay.o.small ls.length;simp only[M2,xg,xf,or_false]at hx;rcases hx with rfl | rfl | rfl | rfl
       ·show(AX g t ls ls.length).length<=_;omega
       ·exact xb _
       ·exact xb _
       ·exact xb _)
      (fun x hx=>by
       simp only[M2,xg,xf,or_false]at hx;rcases hx with rfl | rfl | rfl | rfl
       ·exact⟨(by decide:(-9223372036854775808:Int)<=1),(by decide:(1:Int)<=9223372036854775807)⟩
       ·exact⟨(by decide:(-9223372036854775808:Int)<=2),(by decide:(2:Int)<=9223372036854775807)⟩
       ·exact⟨(by decide:(-9223372036854775808:Int)<=3),(by decide:(3:Int)<=9223372036854775807)⟩
       ·exact⟨(by decide:(-9223372036854775808:Int)<=4),(by decide:(4:Int)<=9223372036854775807)⟩))
     have s0:=bh.o.c3;unfold DD at bN;rw[E6,aF.o.rds,<-aV.o]at bN;clear bc a8 de;go_wp2_with fail;rw[<-hX];clear hX;refine bN.o.mono ?_;rintro e y1 ⟨cv,b7,ck,bD,ge,dg,rfl,ak,cL,hle,hcs,am⟩;obtain⟨R,hR⟩: ∃R,R=A6 W' (fin g t ls rq wl):=⟨_,rfl⟩
     rw[<-hR]at ak hcs ⊢;have aK:=Lh (show R.2=[0,0,0,0]/\At g t ls ⟨#[99,97,109,112,117,115]⟩ R.1.1 (F++R.1.2)/\R.1.2.length<=48/\ ∃o,R.1.1.rds[rq]?=some o/\o.v=(ls.length:Int)/\o.es=AX g t ls ls.length from by rw[hR];exact⟨ah.o.1,ah.o.2.1,ah.o.2.2.1,ah.o.2.2.2.1⟩);have ei:w2.heap.size<=X.heap.size:=by have:=J.o.but.size;omega
     have bm:=Lh (J.o.made am);have aL:=Lh (b6.o.below am b6.o.lt);have bT:=Lh (ak.mono ei);have cy:=Lh (show Af ge dg 33 y1 from cL);have eo:=Lh (show ∀(j:Nat) c,([0,0,0,0]:List Int)[j]?=some c->dg[j]?=some (ja jb c)from fun j c h=>hcs j c (by rw[aK.o.1];exact h));obtain⟨ab,aa,G,E,aC,aH,rfl,rfl,rfl, -, -, -⟩:=ak.wat;rw[aK.o.2.1.rds]at bT ⊢;rw[aK.o.1];clear hR ak cL hle hcs am bN ah J b6 aS aY cT ba bi s0;unfold Fw;go_upto_region 31 with(fail);obtain⟨Q,hQ⟩: ∃Q,Q=y1.heap.size:=⟨_,rfl⟩
     obtain⟨Z,hZ⟩: ∃Z,Z=y1.alloc (ji #[jc R.1.1.zone,jc R.1.1.cur,jd ab R.1.1.way.length aa,jd G 3 E] 32):=⟨_,rfl⟩
     have ac:Below y1.heap.size y1 Z:=by rw[hZ];exact Aa y1 _
     have H:=Lh (bm.o.made ac);have ag:=Lh (bT.o.made ac);have bv:=Lh (aL.o.below ac aL.o.lt);have dw:=Lh (cy.o.below ac cy.o.lt);have ai:=Lh (show Af Q #[jc R.1.1.zone,jc R.1.1.cur,jd ab R.1.1.way.length aa,jd G 3 E] 32 Z from by rw[hZ,hQ];exact Af.new y1 _ _);rw[<-hZ,<-hQ];clear hZ hQ ac bm bT aL cy;have hcut:True:=trivial;clear hcut;go_cut [9]from 145 to 147 (fun vn wx=>Hid (Rw BM 4 56 w5.heap.size wx vn (F++R.1.2))/\Hid (AB 56 Z wx)/\Hid (AO P w5.heap.size w5 wx))
     case first=>
      obtain⟨i0,bK,ch,b8,cC⟩:=info_parts ID;have bF:w5.heap.size<=Z.heap.size:=H.o.but.size;have dX:=aK.o.2.2.1;have aq:Z.ownsRow w5.heap.size 56 4 (jd an F.length cn) F.length (gC BM F):=H.o.nts;have aP:Z.ownsRow w2.heap.size 56 4 (jd aC R.1.2.length aH) R.1.2.length (gC BM R.1.2):=ag.o.nts;go_wp2_with (at_builtin;refine Du rfl (.tmp 145) (.tmp 146) 36 rfl w5.heap.size 56 i0 _ 4 40 Tryz.underlying36 bK ch b8 cC rfl (by decide) (jd an F.length cn) F.length (gC BM F) rfl aq w2.heap.size (jd aC R.1.2.length aH) R.1.2.length (gC BM R.1.2) rfl aP (Hd ET _) (by unfold maxLen;omega) (by omega) bF ?_);intro v9 w9 ae A _;have eb:=Lh (show Rw BM 4 56 w5.heap.size w9 v9 (F++R.1.2)from by unfold Rw;rw[DK,xc];exact ae);have el:=Lh (AB.grown aq A);have et:=Lh (D4 H.o.but aq bF A);clear ae A;go_wp2_with fail;go_meet;exact⟨eb,el,et⟩
     case rest=>
      obtain⟨er,bo,dI⟩:=hcut;obtain⟨o,ho,dB,cP⟩:=aK.o.2.2.2;obtain⟨x5,cF,b4⟩: ∃x5,bD[rq]?=some x5/\x5.r=o:=by
       have h:(bD.map BZ.r)[rq]?=some o:=by rw[ag.o.rmap];exact ho
       rw[xh]at h;exact Option.map_eq_some_iff.1 h
      have cM:x5.v=(N:Int):=by rw[aB.o,<-dB,<-b4];rfl
      have co:x5.ts.map (·.1)=AX g t ls ls.length:=by rw[<-cP,<-b4];rfl
      have c8:x5.ts.length=M:=by rw[<-cE.o,<-co,xe]
      have aq:Rw NB 3 47 w2.heap.size wc (jd G bD.length E) bD:=by
       have h:=ag.o.rds.form;obtain⟨ao,c,hv, -, -⟩:=h;simp only[Value.slice.injEq]at hv;rw[<-hv.2.1];exact AG ag.o.rds bo.o (by decide)
      obtain⟨gr,og,ew,dv,bY⟩:=Rd.get Cs aq.rd cF;subst ew;have dl:=Lh (bo.o _ _ _ (by decide) ai.o);have bB:=Lh (bo.o _ _ _ (by decide) bv.o);have dd:=Lh (bo.o _ _ _ (by decide) dw.o);have en:=Lh (show GQ wc.heap.size wc x5.ao (AX g t ls ls.length)from by
       have h:=(Av.sgE ((ag.o.evs x5 (xd cF)).keptT bo.o (by decide) (by decide))).evs;rw[co]at h;exact h)
      have ey:=Lh (show GQ wc.heap.size wc pl (AX g t ls ls.length)from by
       have h:=(cA.o fl dH.o).keptT (AB.but aU.o dI.o) (by decide) (by decide);rw[c7.o]at h;have h:=(Av.sgE h).evs;rw[bq.o.2,aB.o]at h;exact h)
      have dy:=Lh (show Below w.heap.size w wc from bx.o.trans (dI.o.below (by omega) (by omega)));have aJ:Hid (∀q,Below wc.heap.size wc q->q.cell? ⟨Q,3,none⟩=some (jd (some ⟨gr,og,none⟩) 3 E)/\q.cell? ⟨gr,og+rq*3,none⟩=some (ja jb (N:Int))/\q.cell? ⟨gr,og+rq*3+2,none⟩=some (jd x5.ao M x5.c)/\q.cell? ⟨S,1,none⟩=some (ja jb (N:Int))/\q.cell? ⟨S,2,none⟩=some (jd pl M ql)):=Lh (fun q hq=>by
       refine⟨(dl.o.below hq dl.o.lt).cell 3,(hq.cell (p:=⟨gr,og+rq*3,none⟩) dv).trans ?_,(hq.cell (p:=⟨gr,og+rq*3+2,none⟩) dv).trans ?_,(bB.o.below hq bB.o.lt).cell 1,(bB.o.below hq bB.o.lt).cell 2⟩
       ·have h:=bY 0 _ (by omega) rfl;rwa [Nat.add_zero,cM]at h
       ·have h:=bY 2 _ (by omega) rfl;rwa [c8]at h)
      have bS:Hid (∀(k:Nat) (q:World),Below wc.heap.size wc q->Af k #[ja jb 0,ja jb 0,ja jb 0,ja jb 0] 33 q->Calls Tryz.prog 12 #[jd (some ⟨ge,0,none⟩) 4 4,jd (some ⟨k,0,none⟩) 4 4] q fun e w'=>e=jh (je true)/\Below q.heap.size q w'):=Lh (fun k q hq hk=>by
       have bX:=dd.o.below hq dd.o.lt;exact Kw [0,0,0,0] [0,0,0,0] ge k 4 4 q (fun j c h=>(bX.cell j).trans (eo.o j c h)) (fun j c h=>by
        rw[hk.cell];match j,h with
        | 0,h=>cases h;rfl
        | 1,h=>cases h;rfl
        | 2,h=>cases h;rfl
        | 3,h=>cases h;rfl
        | j+4,h=>simp at h) ⟨bX.lt,hk.lt⟩ rfl (by decide) (fun c h=>by simp at h;omega))
      have bP:Hid (∀q:World,Below wc.heap.size wc q->Calls Tryz.prog 13 #[jd x5.ao M x5.c,jd pl M ql] q fun e w'=>e=jh (je true)/\Below q.heap.size q w'):=Lh (fun q hq=>by
       have h:=Qc (AX g t ls ls.length) (AX g t ls ls.length) x5.ao pl x5.c ql q.heap.size q (Nat.le_refl _) ((en.o.below hq).mono hq.size) ((ey.o.below hq).mono hq.size) (by have:=ay.o.small ls.length;omega);rw[cE.o]at h;simpa using h)
      obtain⟨e5,e3,rfl, -,bQ⟩:=er.o.form;obtain⟨L,hL⟩: ∃L,L=(F++R.1.2).length:=⟨_,rfl⟩
      have cj:=Lh (show L<=1968 from by have:=aK.o.2.2.1;rw[hL,xc];omega);have dZ:=Lh bQ;have dK:=Lh hL;rw[<-hL];have dA: ∀q:World,(Instr.makeSlice 48 (ja jb 4) (ja jb 4)).run Tryz.prog q=.ok (jd (some ⟨q.heap.size,0,none⟩) 4 4) (q.alloc (ji #[ja jb 0,ja jb 0,ja jb 0,ja jb 0] 33)):=fun _=>by kernel_rfl
      have eH:(0:Int)<=(rq:Int):=by omega
      have eJ:(rq:Int)<3:=by omega
      clear ho dB cP cF b4 cM co c8 aq bY hL bQ ag H bv dw ai;go_upto_region 32 with(fail);go_region_held3 (fun q=>q.cell? ⟨Q,3,none⟩=some (jd (some ⟨gr,og,none⟩) 3 E)/\q.cell? ⟨gr,og+rq*3,none⟩=some (ja jb (N:Int))/\q.cell? ⟨gr,og+rq*3+2,none⟩=some (jd x5.ao M x5.c)/\q.cell? ⟨S,1,none⟩=some (ja jb (N:Int))/\q.cell? ⟨S,2,none⟩=some (jd pl M ql)) (first | exact aJ.o _ (Below.refl _ _) | exact aJ.o _ (Ac (Below.refl _ _)) | exact aJ.o _ (Aa _ _) | exact aJ.o _ (Ac (Aa _ _)) | exact aJ.o _ hA | exact aJ.o _ hB) (first | (go_at_call 12;(with_reducible refine(bS.o wc.heap.size _ (Ac (Aa _ _)) (Af.new _ _ _).draw).mono ?_);rintro e wA ⟨rfl,dj⟩;have hA:Below wc.heap.size wc wA:=(Ac (Aa wc _)).trans (dj.mono (by simp))) | (go_at_call 13;(with_reducible refine(bP.o _ hA).mono ?_);rintro e wB ⟨rfl,cW⟩;have hB:Below wc.heap.size wc wB:=hA.trans (cW.mono hA.size)))
      have HE:=Lh hB;have eM:L<=1968:=cj.o;rename_i hh
      clear hh hA dj hB cW aJ bS bP dA;go_wp2_with fail;go_loopw [25] (fun iv wr=> ∃i:Nat,iv=ja jb i/\i<=L/\Hid (Below wc.heap.size wc wr)) (fun iv _=>L - (intOf iv).toNat)
      case atStart=>exact⟨0,rfl,xb _,HE⟩
      case round=>
       obtain⟨i,rfl,hi,HI⟩:=hrel;by_cases ea:i<L
       ·have cR:(i:Int)<(L:Int):=by omega
        have bK:(0:Int)<=(i:Int):=by omega
        go_wp2_with fail;go_loopw [26] (fun jv wx=> ∃j:Nat,jv=ja jb j/\j<=i/\Hid (Below wc.heap.size wc wx)) (fun jv _=>i - (intOf jv).toNat)
        case atStart=>exact⟨0,rfl,xb _,HI⟩
        case round=>
         obtain⟨j,rfl,hj,HJ⟩:=hrel;by_cases dT:j<i
         ·have du:(j:Int)<(i:Int):=by omega
          have eY:(0:Int)<=(j:Int):=by omega
          have fc:(j:Int)<(L:Int):=by omega
          obtain⟨x,hx⟩: ∃x,(F++R.1.2)[i]?=some x:=⟨_,xa (by rw[<-dK.o];exact ea)⟩
          obtain⟨y,hy⟩: ∃y,(F++R.1.2)[j]?=some y:=⟨_,xa (by rw[<-dK.o];omega)⟩
          have bL:x.rd=y.rd->x.nt.uid=y.nt.uid-> ¬x.nt.seq<=y.nt.seq:=fun h1 h2=>by have:=aK.o.2.1.once dT hx hy h1 h2;omega
          have aZ:=dZ.o.below HJ.o;obtain⟨gn,aW,cK, -,bs⟩:=Rd.get DQ aZ hx;obtain⟨gm,eN,cl, -,bJ⟩:=Rd.get DQ aZ hy;rw[cK]at cl;simp only[Option.some.injEq,Addr.mk.injEq,and_true]at cl;obtain⟨rfl,rfl⟩:=cl;have x0:wr.cell? ⟨gn,aW+i*4,none⟩=some (ja jb x.rd):=bs 0 _ (by omega) rfl;have x2:wr.cell? ⟨gn,aW+i*4+1+1,none⟩=some (jc x.nt.uid):=bs 2 _ (by omega) rfl;have x3:wr.cell? ⟨gn,aW+i*4+1+2,none⟩=some (ja jb x.nt.seq):=bs 3 _ (by omega) rfl;have y0:wr.cell? ⟨gn,aW+j*4,none⟩=some (ja jb y.rd):=bJ 0 _ (by omega) rfl;have y2:wr.cell? ⟨gn,aW+j*4+1+1,none⟩=some (jc y.nt.uid):=bJ 2 _ (by omega) rfl;have y3:wr.cell? ⟨gn,aW+j*4+1+2,none⟩=some (ja jb y.nt.seq):=bJ 3 _ (by omega) rfl;rw[cK];clear bs bJ aZ cK hx hy;go_upto_region 40 with(fail);by_cases hr:x.rd=y.rd
          ·by_cases hu:x.nt.uid=y.nt.uid
           ·have e9:decide (x.nt.seq<=y.nt.seq)=false:=decide_eq_false (bL hr hu);rw[<-hr]at y0;rw[<-hu]at y2;clear bL;go_quiet (fail);obtain⟨W2,O⟩: ∃W2,W2=wr.drewN nq:=⟨_,rfl⟩
            rw[<-O];have aE:=Lh (show Below wc.heap.size wc W2 from by rw[O];exact below_drewN HJ.o _);clear O;go_wp2_with fail;go_roundw
            case rel=>exact⟨j+1,by go_num,by omega,aE⟩
            case measure=>simp[intOf];omega
           ·have eQ:(x.nt.uid.toList==y.nt.uid.toList)=false:=D9 hu;rw[<-hr]at y0;clear bL hu;go_quiet (fail);obtain⟨W2,O⟩: ∃W2,W2=wr.drewN nq:=⟨_,rfl⟩
            rw[<-O];have aE:=Lh (show Below wc.heap.size wc W2 from by rw[O];exact below_drewN HJ.o _);clear O;go_wp2_with fail;go_roundw
            case rel=>exact⟨j+1,by go_num,by omega,aE⟩
            case measure=>simp[intOf];omega
          ·have fe:(x.rd==y.rd)=false:=by simp[hr]
           clear bL hr;go_quiet (fail)
           obtain⟨W2,O⟩: ∃W2,W2=wr.drewN nq:=⟨_,rfl⟩
           rw[<-O];have aE:=Lh (show Below wc.heap.size wc W2 from by rw[O];exact below_drewN HJ.o _);clear O;go_wp2_with fail;go_roundw
           case rel=>exact⟨j+1,by go_num,by omega,aE⟩
           case measure=>simp[intOf];omega
         ·have du: ¬(j:Int)<(i:Int):=by omega
          go_wp2_with fail;go_roundw
          case rel=>exact⟨i+1,by go_num,by omega,HJ⟩
          case measure=>simp[intOf];omega
       ·have cR: ¬(i:Int)<(L:Int):=by omega
        have HF:=Lh (dy.o.trans (HI.o.mono dy.o.size));go_wp2_with fail;refine(cS.o _ HF.o).mono ?_;rintro e we ⟨rfl,hb⟩;have HZ:=Lh (HF.o.trans (hb.mono HF.o.size));clear hb;go_wp2_with fail;go_ret;exact⟨rfl,HZ.o⟩
