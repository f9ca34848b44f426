/- The lines of an event, and the program's writing of them. Plain facts on the order of identifiers, and on valid lists of events. No program in sight. Condition: none. subscriber.find with slices.BinarySearchFunc: its contract. Plain facts: a binary search over ascending identifiers finds what Find finds. No program in sight. Condition: none. Plain facts on merging: the place of a search is the place of Put; the fold over a feed's events; the merged list stays valid. No program in sight. Condition: none. -/
import Derived.Test.YtegjgjgoodekiaaGreatDoorQk7
import Derived.Test.YtegjgjgoodekiaaGreatDoorQk8
import Derived.Test.YtegjgjgoodekiaaGreatDoorQk9
import Derived.Sort.Walk0
open Go.Value renaming int->ja,string->jc,slice->jd,bool->je,pointer->jf,tuple->jg
open Go.IntKind renaming i64->jb
open Go.Ending renaming returned->jh
open Go.Obj renaming cells->ji
open List renaming flatten_cons->xa,length_cons->xc,length_nil->xd,append_nil->xe,flatten_nil->xf,length_append->xg,map_cons->xh,map_nil->xi,append_assoc->xj,cons_append->xk,nil_append->xl,getElem?_eq_getElem->xm,getElem?_eq_some_iff->xo,map_append->xq,mem_cons_self->xu,eq_nil_of_length_eq_zero->xv,mem_cons_of_mem->xw,getElem?_map->xx
open Nat renaming le_trans->xb,le_refl->xn,zero_add->xp,lt_of_lt_of_le->xr
open Bool renaming and_eq_true->xy
set_option maxRecDepth 100000
set_option maxHeartbeats 40000000
namespace Go.Proofs.YtegjgjgoodekiaaGreatDoor
open Go.RowKit
def Ke(e:Ev)(z:List UInt8):List (List UInt8):=
 [[66,69,71,73,78,58,86,69,86,69,78,84],[85,73,68,58]++e.uid.data.toList,[83,69,81,85,69,78,67,69,58]++Lib.decDigits e.seq.toNat,[68,84,83,84,65,82,84,59,84,90,73,68,61]++z++[58]++Tt.stampL e.days.first e.start,[68,85,82,65,84,73,79,78,58,80,84]++Lib.decDigits e.mins.toNat++[77],[82,82,85,76,69,58]++Tt.ruleL e.days]
def JX(e:Ev)(z:List UInt8):List (List UInt8):=if e.days.ex=[]then[]else[[69,88,68,65,84,69,59,84,90,73,68,61]++z++[58]++Tt.stampsL e.start e.days.ex]
def JY(e:Ev)(z:List UInt8):List (List UInt8):=if e.days.xt=[]then[]else[[82,68,65,84,69,59,84,90,73,68,61]++z++[58]++Tt.stampsL e.start e.days.xt]
def Oi(e:Ev):List (List UInt8):=[[83,85,77,77,65,82,89,58]++Tt.esc e.summ.data.toList]
def Ly(e:Ev):List (List UInt8):=if e.loc=⟨#[]⟩then[]else[[76,79,67,65,84,73,79,78,58]++Tt.esc e.loc.data.toList]
def LN(e:Ev):List (List UInt8):=[if e.canc=true then[83,84,65,84,85,83,58,67,65,78,67,69,76,76,69,68]else[83,84,65,84,85,83,58,67,79,78,70,73,82,77,69,68],[69,78,68,58,86,69,86,69,78,84]]
def Ao(e:Ev)(z:List UInt8):List (List UInt8):=Ke e z++JX e z++JY e z++Oi e++Ly e++LN e
theorem CS{e:Ev}{v:Int}(h:Ax e v=0):1<=e.seq/\e.seq<=v/\Tt.serV e.days=0/\Tt.serDays e.days≠[]/\0<=e.start/\e.start<1440/\1<=e.mins/\e.mins<=1440/\e.summ.size≠0/\Tt.labB e.summ.data.toList=true/\Tt.labB e.loc.data.toList=true:=by
 unfold Ax at h;split at h
 ·cases h
 ·split at h
  ·contradiction
  ·split at h
   ·cases h
   ·split at h
    ·cases h
    ·split at h
     ·cases h
     ·rename_i E A D F w
      refine⟨by omega,by omega,by simpa using A,D,by omega,by omega,by omega,by omega,?_,?_,?_⟩
      ·exact fun hz=>w (.inl hz)
      ·cases hl:Tt.labB e.summ.data.toList with
       | true=>rfl
       | false=>exact absurd (.inr (.inl hl)) w
      ·cases hl:Tt.labB e.loc.data.toList with
       | true=>rfl
       | false=>exact absurd (.inr (.inr hl)) w
theorem Co{s:ByteArray}(h:Tt.labB s.data.toList=true):s.size<=64:=by
 unfold Tt.labB at h;rw[xy,decide_eq_true_eq]at h;rw[Lib.size_eq];exact h.2
theorem Fm{s:Tt.Ser}(h:Tt.serV s=0):(∀d∈s.ex,0<=d/\d<=36524)/\(∀d∈s.xt,0<=d/\d<=36524):=by
 obtain⟨hh,A,D⟩:=(Tt.serV_zero s).1 h;have f0:=hh.f0;have E:=hh.l1;constructor
 ·intro d hd;have hr:=Tt.reg_range ((Tt.listV_ok 12 (Tt.regB s) (by decide) s.ex none A).1 d hd).1;omega
 ·intro d hd;have hk:=((Tt.listV_ok 11 (Tt.extB s) (by decide) s.xt none D).1 d hd).1;rcases Int.lt_or_le d s.first with hc | hc
  ·rw[Tt.extB_out s d (.inl hc)]at hk;cases hk
  ·rcases Int.lt_or_le s.last d with w | w
   ·rw[Tt.extB_out s d (.inr w)]at hk;cases hk
   ·omega
theorem IT{s:Tt.Ser}(h:Tt.Head s):(Tt.ruleL s).length<=80:=by
 have A:=Tt.byL_len s.wd 7 (xn _);have w:(Lib.decDigits s.every.toNat).length=1:=by rw[Lib.decDigits_one (by have:=h.e0;have:=h.e1;omega)];rfl
 unfold Tt.ruleL;simp only[xg,w,Tt.dateL_len,xc,xd];omega
theorem Qu{s:ByteArray}(h:false=!s.toList.isEmpty):s=⟨#[]⟩:=by
 rw[Lib.toList_data]at h;refine ByteArray.ext (Array.toList_inj.mp ?_);cases hs:s.data.toList with
 | nil=>rfl
 | cons a r=>rw[hs]at h;cases h
theorem RZ{s:ByteArray}(h:true=!s.toList.isEmpty):s≠⟨#[]⟩:=by
 rintro rfl;rw[Lib.toList_data]at h;cases h
theorem TK{w:World}(x:Int):Ints (w.heap.size+1) (w.alloc (ji #[ja jb x] 3)) (some ⟨w.heap.size,0,none⟩) [x]:=by
 intro j y hj;rcases j with _ | j
 ·simp at hj;subst hj;exact⟨_,rfl,Nat.lt_succ_self _,Bq w _ _ 0 _ rfl⟩
 ·simp at hj
theorem Sy(b B:Nat)(xs:List ByteArray)(e:Ev)(de:Int)(pa Z:Option Addr)(ca cb:Nat)(z:ByteArray)(w:World)(aB:EC b B xs w)(U:B<=w.heap.size)(af:6<b)(d9:xs.length<=100000)(cz:Ax e de=0)(dW:de<=64)(hu:e.uid.size<=1000)(hz:z.size<=1000)
  (hI:Ints b w pa e.days.ex) (bk:Ints b w Z e.days.xt) (hL:CD w) (hP:Pow w):
  Calls Tryz.prog 110 #[jf (some ⟨b,0,none⟩),AW e (jd pa e.days.ex.length ca) (jd Z e.days.xt.length cb),jc z] w fun x w'=>x=jh (jg #[])/\EC b B (xs++(Ao e z.data.toList).map str) w'/\AO b B w w'/\B4 b w w':=by
 obtain⟨q0,q1,aY, -,b4,cf,ec,eb, -,cP,cJ⟩:=CS cz;have ea:=Co cP;have d8:=Co cJ;have HH:=Lh ((Tt.serV_zero e.days).1 aY).1;have dZ:=Lh aY;have dQ:=HH.o.f0;have dO:=HH.o.f1;have dD:e.days.ex.length<=140/\e.days.xt.length<=140:=by have:=HH.o.n;omega
 have dv:=Lh (Fm aY);have HI:=Lh hI;have dM:=Lh bk;have HL:=Lh hL;have HP:=Lh hP;have H:b<=B:=Nat.le_of_lt aB.lt;have bn:3<b:=by omega
 have V:w.heap.size≠b:=by have:=aB.lt;omega
 have bm:=Lh (aB.kept (Aa w (ji (Ae e (jd pa e.days.ex.length ca) (jd Z e.days.xt.length cb)) 61)));have aq:=Lh (Af.new w (Ae e (jd pa e.days.ex.length ca) (jd Z e.days.xt.length cb)) 61);have ae:=Lh (AO.of_below (b:=b) ((Aa w (ji (Ae e (jd pa e.days.ex.length ca) (jd Z e.days.xt.length cb)) 61)).mono U));have b5:=Lh (B4.made (b:=b) (Aa w (ji (Ae e (jd pa e.days.ex.length ca) (jd Z e.days.xt.length cb)) 61)));obtain⟨G,hG⟩: ∃G,G=w.heap.size:=⟨_,rfl⟩
 obtain⟨w0,a7⟩: ∃w0,w0=w.alloc (ji (Ae e (jd pa e.days.ex.length ca) (jd Z e.days.xt.length cb)) 61):=⟨_,rfl⟩
 rw[<-a7]at bm aq ae b5;rw[<-hG]at aq V;obtain⟨y0,bj⟩: ∃y0,y0=xs:=⟨_,rfl⟩
 have cM:=Lh bj;have dk:=Lh (show y0.length<=xs.length+0 from by rw[bj];omega);rw[<-bj]at bm;have HC:Hid (Calls Tryz.prog 140 #[Bf e.days (jd pa e.days.ex.length ca) (jd Z e.days.xt.length cb)] w0 fun x w'=>x=jh (jg #[jc ⟨(Tt.ruleL e.days).toArray⟩,ja jb 0])/\Below w0.heap.size w0 w'):=Lh (QD e.days b w0 aY pa Z ca cb (xb H (xb U ae.o.size)) (hI.below (ae.o.below (xn b) H)) (bk.below (ae.o.below (xn b) H)) (hL.below bn (ae.o.below (xn b) H)) (hP.below af (ae.o.below (xn b) H)) (xr af (xb H (xb U ae.o.size))));have dR:Hid (∀W:World,AO b B w W->Ints b W pa e.days.ex):=Lh (fun W h=>hI.below (h.below (xn b) H));have dT:Hid (∀W:World,AO b B w W->Ints b W Z e.days.xt):=Lh (fun W h=>bk.below (h.below (xn b) H));obtain⟨ex,cg⟩: ∃n,n=e.days.ex.length:=⟨_,rfl⟩
 obtain⟨xt,bE⟩: ∃n,n=e.days.xt.length:=⟨_,rfl⟩
 have aK:=Lh cg;have aL:=Lh bE;unfold Bf at HC;unfold AW;unfold Ae at a7 ⊢;rw[<-cg,<-bE]at aq HC a7 dD ⊢;clear aB cz aY cP cJ hI bk hL hP bj cg bE HI dM;go_enter Tryz.func110,Tryz.ntmps110;go_upto_region 1 with(fail);rw[<-a7,<-hG];clear a7 hG;obtain⟨c0,c1,c2,c3,c4,c5,c6,R,M,c9,E,A,D⟩:=B5.c (e:=e) (v:=jd pa ex ca) (v':=jd Z xt cb) aq.o;simp only[xp]at c0 c1 c2 c3 c4 c5 c6 R M c9 E A D;go_wp2_with fail;refine(HC.o).mono ?_;rintro x w1 ⟨rfl,hb⟩;obtain⟨t1,ht⟩: ∃t,t=(⟨(Tt.ruleL e.days).toArray⟩:ByteArray):=⟨_,rfl⟩
 have d0:t1.size<=80:=by rw[ht,size_mk];exact IT HH.o
 rw[<-ht];have dN:=Lh (show t1.data.toList=Tt.ruleL e.days from by rw[ht]);clear ht;clear c0 c1 c2 c3 c4 c5 c6 R M c9 E A D;have cU:=Lh (bm.o.kept hb);have dl:=Lh (aq.o.below hb aq.o.lt);have bW:=Lh (ae.o.trans (AO.of_below (hb.mono (xb U ae.o.size))));have cF:=Lh (b5.o.trans (B4.made hb));clear hb bm aq ae b5;clear HC;go_wp2_with fail;refine(AK b B w1.heap.size y0 [⟨#[66,69,71,73,78,58,86,69,86,69,78,84]⟩] w1 rfl cU.o (xb U bW.o.size) (by simp) (by simp only[xh,xi,xa,xf,xe,xc,xd];omega) (by have:=dk.o;omega)).mono ?_;rintro x w2 ⟨rfl,hf,hk,hq⟩;obtain⟨y2,hy⟩: ∃y,y=y0++[str ([66,69,71,73,78,58,86,69,86,69,78,84])]:=⟨_,rfl⟩
 have cQ:=Lh (show EC b B y2 w2 from by rw[hy];simpa only[xh,xi,xa,xf,xe,xj,xk,xl]using hf);have cm:=Lh hy;have dz:=Lh (show y2.length<=xs.length+1 from by rw[hy,xg];have:=dk.o;simp only[xc,xd];omega);have bX:=Lh (bW.o.trans hk);have bO:=Lh (hq G _ 61 (by decide) V dl.o);have cG:=Lh (cF.o.trans hq);clear hf hy hk hq cU dl bW cF;obtain⟨c0,c1,c2,c3,c4,c5,c6,R,M,c9,E,A,D⟩:=B5.c (e:=e) (v:=jd pa ex ca) (v':=jd Z xt cb) bO.o;simp only[xp]at c0 c1 c2 c3 c4 c5 c6 R M c9 E A D;go_wp2_with fail;refine(AK b B w2.heap.size y2 [⟨#[85,73,68,58]⟩,e.uid] w2 rfl cQ.o (xb U bX.o.size) (by simp) (by simp only[xh,xi,xa,xf,xe,xg,xc,xd,<-Lib.size_eq];omega) (by have:=dz.o;omega)).mono ?_;rintro x w3 ⟨rfl,hf,hk,hq⟩;obtain⟨y3,hy⟩: ∃y,y=y2++[str ([85,73,68,58]++e.uid.data.toList)]:=⟨_,rfl⟩
 have cB:=Lh (show EC b B y3 w3 from by rw[hy];simpa only[xh,xi,xa,xf,xe,xj,xk,xl]using hf);have dp:=Lh hy;have du:=Lh (show y3.length<=xs.length+2 from by rw[hy,xg];have:=dz.o;simp only[xc,xd];omega);have bf:=Lh (bX.o.trans hk);have bh:=Lh (hq G _ 61 (by decide) V bO.o);have cx:=Lh (cG.o.trans hq);clear hf hy hk hq cQ bO bX cG;clear c0 c1 c2 c3 c4 c5 c6 R M c9 E A D;obtain⟨c0,c1,c2,c3,c4,c5,c6,R,M,c9,E,A,D⟩:=B5.c (e:=e) (v:=jd pa ex ca) (v':=jd Z xt cb) bh.o;simp only[xp]at c0 c1 c2 c3 c4 c5 c6 R M c9 E A D;go_wp2_with fail;refine(Fl e.seq w3 (HP.o.below af (bf.o.below (xn b) H)) (by omega) (by omega)).mono ?_;rintro x w4 ⟨rfl,hb⟩;obtain⟨t4,ht⟩: ∃t,t=(⟨(Lib.decDigits e.seq.toNat).toArray⟩:ByteArray):=⟨_,rfl⟩
 have d7:t4.size<=5:=by rw[ht,size_mk];exact Tt.dec_len 4 _ (by omega)
 rw[<-ht];have dE:=Lh (show t4.data.toList=Lib.decDigits e.seq.toNat from by rw[ht]);clear ht;clear c0 c1 c2 c3 c4 c5 c6 R M c9 E A D;have dh:=Lh (cB.o.kept hb);have dy:=Lh (bh.o.below hb bh.o.lt);have bH:=Lh (bf.o.trans (AO.of_below (hb.mono (xb U bf.o.size))));have cN:=Lh (cx.o.trans (B4.made hb));clear hb cB bh bf cx;go_wp2_with fail;refine(AK b B w4.heap.size y3 [⟨#[83,69,81,85,69,78,67,69,58]⟩,t4] w4 rfl dh.o (xb U bH.o.size) (by simp) (by simp only[xh,xi,xa,xf,xe,xg,xc,xd,<-Lib.size_eq];omega) (by have:=du.o;omega)).mono ?_;rintro x w5 ⟨rfl,hf,hk,hq⟩;obtain⟨y5,hy⟩: ∃y,y=y3++[str ([83,69,81,85,69,78,67,69,58]++Lib.decDigits e.seq.toNat)]:=⟨_,rfl⟩
 have dw:=Lh (show EC b B y5 w5 from by rw[hy];simpa only[xh,xi,xa,xf,xe,xj,xk,xl,dE.o]using hf);have dC:=Lh hy;have cj:=Lh (show y5.length<=xs.length+3 from by rw[hy,xg];have:=du.o;simp only[xc,xd];omega);have bK:=Lh (bH.o.trans hk);have aR:=Lh (hq G _ 61 (by decide) V dy.o);have dA:=Lh (cN.o.trans hq);clear hf hy hk hq dh dy bH cN;obtain⟨c0,c1,c2,c3,c4,c5,c6,R,M,c9,E,A,D⟩:=B5.c (e:=e) (v:=jd pa ex ca) (v':=jd Z xt cb) aR.o;simp only[xp]at c0 c1 c2 c3 c4 c5 c6 R M c9 E A D;have cX:=aR.o.lt;go_wp2_with fail;clear cX;obtain⟨g5,b2⟩: ∃g,g=w5.heap.size:=⟨_,rfl⟩
 obtain⟨wA,bo⟩: ∃W,W=w5.alloc (ji #[ja jb e.days.first] 3):=⟨_,rfl⟩
 have bJ:=Lh (show Ints (g5+1) wA (some ⟨g5,0,none⟩) [e.days.first]/\g5+1<=wA.heap.size from by rw[bo,b2];exact⟨TK _,by simp⟩);have hb:Below w5.heap.size w5 wA:=by rw[bo];exact Aa w5 _
 rw[<-bo,<-b2];clear bo b2;clear c0 c1 c2 c3 c4 c5 c6 R M c9 E A D;have ch:=Lh (dw.o.kept hb);have b3:=Lh (aR.o.below hb aR.o.lt);have aD:=Lh (bK.o.trans (AO.of_below (hb.mono (xb U bK.o.size))));have dm:=Lh (dA.o.trans (B4.made hb));clear hb dw aR bK dA;refine(IK [e.days.first] (some ⟨g5,0,none⟩) 1 e.start (g5+1) wA bJ.o.2 bJ.o.1 (by simp) (fun d hd=>by rw[List.mem_singleton.1 hd];exact⟨dQ,dO⟩) b4 cf (HL.o.below bn (aD.o.below (xn b) H)) (HP.o.below af (aD.o.below (xn b) H)) (xr af (xb H (xb U aD.o.size)))).mono ?_;rintro x w6 ⟨rfl,hb⟩;rw[show Tt.stampsL e.start [e.days.first]=Tt.stampL e.days.first e.start from rfl];obtain⟨t6,ht⟩: ∃t,t=(⟨(Tt.stampL e.days.first e.start).toArray⟩:ByteArray):=⟨_,rfl⟩
 have d5:t6.size<=15:=by rw[ht,size_mk];exact Nat.le_of_eq (Tt.stampL_len _ _)
 rw[<-ht];have dI:=Lh (show t6.data.toList=Tt.stampL e.days.first e.start from by rw[ht]);clear ht;have cw:=Lh (ch.o.kept hb);have dr:=Lh (b3.o.below hb b3.o.lt);have b9:=Lh (aD.o.trans (AO.of_below (hb.mono (xb U aD.o.size))));have dn:=Lh (dm.o.trans (B4.made hb));clear hb ch b3 aD dm;clear bJ;go_wp2_with fail;refine(AK b B w6.heap.size y5 [⟨#[68,84,83,84,65,82,84,59,84,90,73,68,61]⟩,z,⟨#[58]⟩,t6] w6 rfl cw.o (xb U b9.o.size) (by simp) (by simp only[xh,xi,xa,xf,xe,xg,xc,xd,<-Lib.size_eq];omega) (by have:=cj.o;omega)).mono ?_;rintro x w7 ⟨rfl,hf,hk,hq⟩;obtain⟨y7,hy⟩: ∃y,y=y5++[str ([68,84,83,84,65,82,84,59,84,90,73,68,61]++z.data.toList++[58]++Tt.stampL e.days.first e.start)]:=⟨_,rfl⟩
 have df:=Lh (show EC b B y7 w7 from by rw[hy];simpa only[xh,xi,xa,xf,xe,xj,xk,xl,dI.o]using hf);have db:=Lh hy;have ct:=Lh (show y7.length<=xs.length+4 from by rw[hy,xg];have:=cj.o;simp only[xc,xd];omega);have bi:=Lh (b9.o.trans hk);have bg:=Lh (hq G _ 61 (by decide) V dr.o);have cD:=Lh (dn.o.trans hq);clear hf hy hk hq cw dr b9 dn;obtain⟨c0,c1,c2,c3,c4,c5,c6,R,M,c9,E,A,D⟩:=B5.c (e:=e) (v:=jd pa ex ca) (v':=jd Z xt cb) bg.o;simp only[xp]at c0 c1 c2 c3 c4 c5 c6 R M c9 E A D;go_wp2_with fail;refine(Fl e.mins w7 (HP.o.below af (bi.o.below (xn b) H)) (by omega) (by omega)).mono ?_;rintro x w8 ⟨rfl,hb⟩;obtain⟨t8,ht⟩: ∃t,t=(⟨(Lib.decDigits e.mins.toNat).toArray⟩:ByteArray):=⟨_,rfl⟩
 have d6:t8.size<=5:=by rw[ht,size_mk];exact Tt.dec_len 4 _ (by omega)
 rw[<-ht];have dG:=Lh (show t8.data.toList=Lib.decDigits e.mins.toNat from by rw[ht]);clear ht;clear c0 c1 c2 c3 c4 c5 c6 R M c9 E A D;have cZ:=Lh (df.o.kept hb);have cK:=Lh (bg.o.below hb bg.o.lt);have bU:=Lh (bi.o.trans (AO.of_below (hb.mono (xb U bi.o.size))));have cy:=Lh (cD.o.trans (B4.made hb));clear hb df bg bi cD;go_wp2_with fail;refine(AK b B w8.heap.size y7 [⟨#[68,85,82,65,84,73,79,78,58,80,84]⟩,t8,⟨#[77]⟩] w8 rfl cZ.o (xb U bU.o.size) (by simp) (by simp only[xh,xi,xa,xf,xe,xg,xc,xd,<-Lib.size_eq];omega) (by have:=ct.o;omega)).mono ?_;rintro x w9 ⟨rfl,hf,hk,hq⟩;obtain⟨y9,hy⟩: ∃y,y=y7++[str ([68,85,82,65,84,73,79,78,58,80,84]++Lib.decDigits e.mins.toNat++[77])]:=⟨_,rfl⟩
 have cl:=Lh (show EC b B y9 w9 from by rw[hy];simpa only[xh,xi,xa,xf,xe,xj,xk,xl,dG.o]using hf);have dx:=Lh hy;have dt:=Lh (show y9.length<=xs.length+5 from by rw[hy,xg];have:=ct.o;simp only[xc,xd];omega);have bN:=Lh (bU.o.trans hk);have cC:=Lh (hq G _ 61 (by decide) V cK.o);have cI:=Lh (cy.o.trans hq);clear hf hy hk hq cZ cK bU cy;go_wp2_with fail;refine(AK b B w9.heap.size y9 [⟨#[82,82,85,76,69,58]⟩,t1] w9 rfl cl.o (xb U bN.o.size) (by simp) (by simp only[xh,xi,xa,xf,xe,xg,xc,xd,<-Lib.size_eq];omega) (by have:=dt.o;omega)).mono ?_;rintro x aE ⟨rfl,hf,hk,hq⟩;obtain⟨aC,hy⟩: ∃y,y=y9++[str ([82,82,85,76,69,58]++Tt.ruleL e.days)]:=⟨_,rfl⟩
 have aw:=Lh (show EC b B aC aE from by rw[hy];simpa only[xh,xi,xa,xf,xe,xj,xk,xl,dN.o]using hf);have bx:=Lh hy;have aA:=Lh (show aC.length<=xs.length+6 from by rw[hy,xg];have:=dt.o;simp only[xc,xd];omega);have T:=Lh (bN.o.trans hk);have ah:=Lh (hq G _ 61 (by decide) V cC.o);have ay:=Lh (cI.o.trans hq);clear hf hy hk hq cl cC bN cI;have O:=Lh (show aC=xs++(Ke e z.data.toList).map str from by rw[bx.o,dx.o,db.o,dC.o,dp.o,cm.o,cM.o];simp[Ke]);clear cm dp dC db dx bx cM;obtain⟨c0,c1,c2,c3,c4,c5,c6,R,M,c9,E,A,D⟩:=B5.c (e:=e) (v:=jd pa ex ca) (v':=jd Z xt cb) ah.o;simp only[xp]at c0 c1 c2 c3 c4 c5 c6 R M c9 E A D;go_upto_if 53 with(fail)
 go_cut [54] (fun _ wx=> ∃y:List ByteArray,y.length<=xs.length+7/\Hid (y=xs++(Ke e z.data.toList++JX e z.data.toList).map str)/\Hid (EC b B y wx)/\Hid (Af G (Ae e (jd pa ex ca) (jd Z xt cb)) 61 wx)/\Hid (AO b B w wx)/\Hid (B4 b w wx))
 case first=>
  by_cases X:e.days.ex=[]
  ·have bD: ¬(0:Int)<ex:=by have h1:=aK.o;rw[X,xd]at h1;omega
   skip
   go_wp2_with fail;go_meet;exact⟨aC,by have:=aA.o;omega,Lh (by rw[O.o];unfold JX;rw[if_pos X,xe]),aw,ah,T,ay⟩
  ·have bD:(0:Int)<ex:=by have h1:=aK.o;have h2:e.days.ex.length≠0:=fun h=>X (xv h);omega
   have aN:Hid (Calls Tryz.prog 141 #[jd pa ex ca,ja jb e.start] aE fun x w'=>x=jh (jc ⟨(Tt.stampsL e.start e.days.ex).toArray⟩)/\Below aE.heap.size aE w'):=Lh (by have h:=IK e.days.ex pa ca e.start b aE (xb H (xb U T.o.size)) (dR.o aE T.o) (by have:=aK.o;omega) dv.o.1 b4 cf (HL.o.below bn (T.o.below (xn b) H)) (HP.o.below af (T.o.below (xn b) H)) (xr af (xb H (xb U T.o.size)));rw[<-aK.o]at h;exact h);go_wp2_with fail;refine(aN.o).mono ?_;rintro x ck ⟨rfl,hb⟩;obtain⟨b8,ht⟩: ∃t,t=(⟨(Tt.stampsL e.start e.days.ex).toArray⟩:ByteArray):=⟨_,rfl⟩
   have dY:b8.size<=16000:=by rw[ht,size_mk];exact xb (Tt.stampsL_len _ _) (by have:=aK.o;omega)
   rw[<-ht];have cV:=Lh (show b8.data.toList=Tt.stampsL e.start e.days.ex from by rw[ht]);clear ht;clear c0 c1 c2 c3 c4 c5 c6 R M c9 E A D;have bt:=Lh (aw.o.kept hb);have bw:=Lh (ah.o.below hb ah.o.lt);have aU:=Lh (T.o.trans (AO.of_below (hb.mono (xb U T.o.size))));have bv:=Lh (ay.o.trans (B4.made hb));clear hb aw ah T ay;clear aN;go_wp2_with fail;refine(AK b B ck.heap.size aC [⟨#[69,88,68,65,84,69,59,84,90,73,68,61]⟩,z,⟨#[58]⟩,b8] ck rfl bt.o (xb U aU.o.size) (by simp) (by simp only[xh,xi,xa,xf,xe,xg,xc,xd,<-Lib.size_eq];omega) (by have:=aA.o;omega)).mono ?_;rintro x dP ⟨rfl,hf,hk,hq⟩;obtain⟨b0,hy⟩: ∃y,y=aC++[str ([69,88,68,65,84,69,59,84,90,73,68,61]++z.data.toList++[58]++Tt.stampsL e.start e.days.ex)]:=⟨_,rfl⟩
   have cY:=Lh (show EC b B b0 dP from by rw[hy];simpa only[xh,xi,xa,xf,xe,xj,xk,xl,cV.o]using hf);have dq:=Lh hy;have cH:=Lh (show b0.length<=xs.length+7 from by rw[hy,xg];have:=aA.o;simp only[xc,xd];omega);have cS:=Lh (aU.o.trans hk);have cv:=Lh (hq G _ 61 (by decide) V bw.o);have cr:=Lh (bv.o.trans hq);clear hf hy hk hq bt bw aU bv;go_wp2_with fail;go_meet;exact⟨b0,by have:=cH.o;omega,Lh (by rw[dq.o,O.o];unfold JX;rw[if_neg X];simp only[xq,xh,xi,xj]),cY,cv,cS,cr⟩
 case rest=>
  clear aw ah T ay O aA c0 c1 c2 c3 c4 c5 c6 R M c9 E A D;obtain⟨bL,al,O,aa,J,F,ab⟩:=hcut;have av:=Lh al;clear al;obtain⟨c0,c1,c2,c3,c4,c5,c6,R,M,c9,E,A,D⟩:=B5.c (e:=e) (v:=jd pa ex ca) (v':=jd Z xt cb) J.o;simp only[xp]at c0 c1 c2 c3 c4 c5 c6 R M c9 E A D;go_upto_if 68 with(fail)
  go_cut [69] (fun _ wx=> ∃y:List ByteArray,y.length<=xs.length+8/\Hid (y=xs++(Ke e z.data.toList++JX e z.data.toList++JY e z.data.toList).map str)/\Hid (EC b B y wx)/\Hid (Af G (Ae e (jd pa ex ca) (jd Z xt cb)) 61 wx)/\Hid (AO b B w wx)/\Hid (B4 b w wx))
  case first=>
   by_cases X:e.days.xt=[]
   ·have bD: ¬(0:Int)<xt:=by have h1:=aL.o;rw[X,xd]at h1;omega
    go_wp2_with fail;go_meet;exact⟨bL,by have:=av.o;omega,Lh (by rw[O.o];unfold JY;rw[if_pos X,xe]),aa,J,F,ab⟩
   ·have bD:(0:Int)<xt:=by have h1:=aL.o;have h2:e.days.xt.length≠0:=fun h=>X (xv h);omega
    have aN:Hid (Calls Tryz.prog 141 #[jd Z xt cb,ja jb e.start] wc fun x w'=>x=jh (jc ⟨(Tt.stampsL e.start e.days.xt).toArray⟩)/\Below wc.heap.size wc w'):=Lh (by have h:=IK e.days.xt Z cb e.start b wc (xb H (xb U F.o.size)) (dT.o wc F.o) (by have:=aL.o;omega) dv.o.2 b4 cf (HL.o.below bn (F.o.below (xn b) H)) (HP.o.below af (F.o.below (xn b) H)) (xr af (xb H (xb U F.o.size)));rw[<-aL.o]at h;exact h);go_wp2_with fail;refine(aN.o).mono ?_;rintro x cn ⟨rfl,hb⟩;obtain⟨bS,ht⟩: ∃t,t=(⟨(Tt.stampsL e.start e.days.xt).toArray⟩:ByteArray):=⟨_,rfl⟩
    have dX:bS.size<=16000:=by rw[ht,size_mk];exact xb (Tt.stampsL_len _ _) (by have:=aL.o;omega)
    rw[<-ht];have ci:=Lh (show bS.data.toList=Tt.stampsL e.start e.days.xt from by rw[ht]);clear ht;clear c0 c1 c2 c3 c4 c5 c6 R M c9 E A D;have bC:=Lh (aa.o.kept hb);have bs:=Lh (J.o.below hb J.o.lt);have ba:=Lh (F.o.trans (AO.of_below (hb.mono (xb U F.o.size))));have bq:=Lh (ab.o.trans (B4.made hb));clear hb aa J F ab;clear aN;go_wp2_with fail;refine(AK b B cn.heap.size bL [⟨#[82,68,65,84,69,59,84,90,73,68,61]⟩,z,⟨#[58]⟩,bS] cn rfl bC.o (xb U ba.o.size) (by simp) (by simp only[xh,xi,xa,xf,xe,xg,xc,xd,<-Lib.size_eq];omega) (by have:=av.o;omega)).mono ?_;rintro x dF ⟨rfl,hf,hk,hq⟩;obtain⟨bI,hy⟩: ∃y,y=bL++[str ([82,68,65,84,69,59,84,90,73,68,61]++z.data.toList++[58]++Tt.stampsL e.start e.days.xt)]:=⟨_,rfl⟩
    have da:=Lh (show EC b B bI dF from by rw[hy];simpa only[xh,xi,xa,xf,xe,xj,xk,xl,ci.o]using hf);have dc:=Lh hy;have cp:=Lh (show bI.length<=xs.length+8 from by rw[hy,xg];have:=av.o;simp only[xc,xd];omega);have dj:=Lh (ba.o.trans hk);have dB:=Lh (hq G _ 61 (by decide) V bs.o);have di:=Lh (bq.o.trans hq);clear hf hy hk hq bC bs ba bq;go_wp2_with fail;go_meet;exact⟨bI,by have:=cp.o;omega,Lh (by rw[dc.o,O.o];unfold JY;rw[if_neg X];simp only[xq,xh,xi,xj]),da,dB,dj,di⟩
  case rest=>
   clear aa J F ab O av c0 c1 c2 c3 c4 c5 c6 R M c9 E A D;obtain⟨cW,al,O,aa,J,F,ab⟩:=hcut;have bp:=Lh al;clear al;obtain⟨c0,c1,c2,c3,c4,c5,c6,R,M,c9,E,A,D⟩:=B5.c (e:=e) (v:=jd pa ex ca) (v':=jd Z xt cb) J.o;simp only[xp]at c0 c1 c2 c3 c4 c5 c6 R M c9 E A D;go_wp2_with fail;refine(JA e.summ wc (by omega)).mono ?_;rintro x bz ⟨rfl,hb⟩;obtain⟨aM,ht⟩: ∃t,t=(⟨(Tt.esc e.summ.data.toList).toArray⟩:ByteArray):=⟨_,rfl⟩
   have dH:aM.size<=128:=by rw[ht,size_mk];exact xb (Tt.esc_length _) (by rw[<-Lib.size_eq];omega)
   rw[<-ht];have bT:=Lh (show aM.data.toList=Tt.esc e.summ.data.toList from by rw[ht]);clear ht;clear c0 c1 c2 c3 c4 c5 c6 R M c9 E A D;have aG:=Lh (aa.o.kept hb);have aS:=Lh (J.o.below hb J.o.lt);have ar:=Lh (F.o.trans (AO.of_below (hb.mono (xb U F.o.size))));have aT:=Lh (ab.o.trans (B4.made hb));clear hb aa J F ab;go_wp2_with fail;refine(AK b B bz.heap.size cW [⟨#[83,85,77,77,65,82,89,58]⟩,aM] bz rfl aG.o (xb U ar.o.size) (by simp) (by simp only[xh,xi,xa,xf,xe,xg,xc,xd,<-Lib.size_eq];omega) (by have:=bp.o;omega)).mono ?_;rintro x br ⟨rfl,hf,hk,hq⟩;obtain⟨ag,hy⟩: ∃y,y=cW++[str ([83,85,77,77,65,82,89,58]++Tt.esc e.summ.data.toList)]:=⟨_,rfl⟩
   have ai:=Lh (show EC b B ag br from by rw[hy];simpa only[xh,xi,xa,xf,xe,xj,xk,xl,bT.o]using hf);have cd:=Lh hy;have ak:=Lh (show ag.length<=xs.length+9 from by rw[hy,xg];have:=bp.o;simp only[xc,xd];omega);have ac:=Lh (ar.o.trans hk);have Y:=Lh (hq G _ 61 (by decide) V aS.o);have aj:=Lh (aT.o.trans hq);clear hf hy hk hq aG aS ar aT;have O:=Lh (show ag=xs++(Ke e z.data.toList++JX e z.data.toList++JY e z.data.toList++Oi e).map str from by rw[cd.o,O.o];simp only[Oi,xq,xh,xi,xj]);obtain⟨c0,c1,c2,c3,c4,c5,c6,R,M,c9,E,A,D⟩:=B5.c (e:=e) (v:=jd pa ex ca) (v':=jd Z xt cb) Y.o;simp only[xp]at c0 c1 c2 c3 c4 c5 c6 R M c9 E A D;go_upto_if 87 with(fail)
   obtain⟨bl,bF⟩: ∃bl,bl=(!e.loc.toList.isEmpty):=⟨_,rfl⟩
   rw[<-bF];have cE:=Lh bF;clear bF;go_cut [88] (fun _ wx=> ∃y:List ByteArray,y.length<=xs.length+10/\Hid (y=xs++(Ke e z.data.toList++JX e z.data.toList++JY e z.data.toList++Oi e++Ly e).map str)/\Hid (EC b B y wx)/\Hid (Af G (Ae e (jd pa ex ca) (jd Z xt cb)) 61 wx)/\Hid (AO b B w wx)/\Hid (B4 b w wx))
   case first=>
    cases bl
    ·have aI:=Lh (Qu cE.o);go_wp2_with fail;go_meet;exact⟨ag,by have:=ak.o;omega,Lh (by rw[O.o];unfold Ly;rw[if_pos aI.o,xe]),ai,Y,ac,aj⟩
    ·have aI:=Lh (RZ cE.o);go_wp2_with fail;refine(JA e.loc br (by omega)).mono ?_;rintro x co ⟨rfl,hb⟩;obtain⟨b1,ht⟩: ∃t,t=(⟨(Tt.esc e.loc.data.toList).toArray⟩:ByteArray):=⟨_,rfl⟩
     have dV:b1.size<=128:=by rw[ht,size_mk];exact xb (Tt.esc_length _) (by rw[<-Lib.size_eq];omega)
     rw[<-ht];have cA:=Lh (show b1.data.toList=Tt.esc e.loc.data.toList from by rw[ht]);clear ht;clear c0 c1 c2 c3 c4 c5 c6 R M c9 E A D;have bA:=Lh (ai.o.kept hb);have bu:=Lh (Y.o.below hb Y.o.lt);have aZ:=Lh (ac.o.trans (AO.of_below (hb.mono (xb U ac.o.size))));have bB:=Lh (aj.o.trans (B4.made hb));clear hb ai Y ac aj;go_wp2_with fail;refine(AK b B co.heap.size ag [⟨#[76,79,67,65,84,73,79,78,58]⟩,b1] co rfl bA.o (xb U aZ.o.size) (by simp) (by simp only[xh,xi,xa,xf,xe,xg,xc,xd,<-Lib.size_eq];omega) (by have:=ak.o;omega)).mono ?_;rintro x dK ⟨rfl,hf,hk,hq⟩;obtain⟨bQ,hy⟩: ∃y,y=ag++[str ([76,79,67,65,84,73,79,78,58]++Tt.esc e.loc.data.toList)]:=⟨_,rfl⟩
     have cu:=Lh (show EC b B bQ dK from by rw[hy];simpa only[xh,xi,xa,xf,xe,xj,xk,xl,cA.o]using hf);have cO:=Lh hy;have dg:=Lh (show bQ.length<=xs.length+10 from by rw[hy,xg];have:=ak.o;simp only[xc,xd];omega);have cR:=Lh (aZ.o.trans hk);have cq:=Lh (hq G _ 61 (by decide) V bu.o);have cT:=Lh (bB.o.trans hq);clear hf hy hk hq bA bu aZ bB;go_wp2_with fail;go_meet;exact⟨bQ,by have:=dg.o;omega,Lh (by rw[cO.o,O.o];unfold Ly;rw[if_neg aI.o];simp only[xq,xh,xi,xj]),cu,cq,cR,cT⟩
   case rest=>
    clear ai Y ac aj O ak c0 c1 c2 c3 c4 c5 c6 R M c9 E A D;obtain⟨be,al,O,aa,J,F,ab⟩:=hcut;have az:=Lh al;clear al;obtain⟨c0,c1,c2,c3,c4,c5,c6,R,M,c9,E,A,D⟩:=B5.c (e:=e) (v:=jd pa ex ca) (v':=jd Z xt cb) J.o;simp only[xp]at c0 c1 c2 c3 c4 c5 c6 R M c9 E A D;cases hcn:e.canc
    ·rw[hcn]at c2;go_wp2_with fail;refine(AK b B wc.heap.size be [⟨#[83,84,65,84,85,83,58,67,79,78,70,73,82,77,69,68]⟩] wc rfl aa.o (xb U F.o.size) (by simp) (by simp only[xh,xi,xa,xf,xe,xc,xd];omega) (by have:=az.o;omega)).mono ?_;rintro x aH ⟨rfl,hf,hk,hq⟩;obtain⟨au,hy⟩: ∃y,y=be++[str ([83,84,65,84,85,83,58,67,79,78,70,73,82,77,69,68])]:=⟨_,rfl⟩
     have aQ:=Lh (show EC b B au aH from by rw[hy];simpa only[xh,xi,xa,xf,xe,xj,xk,xl]using hf);have bM:=Lh hy;have aX:=Lh (show au.length<=xs.length+11 from by rw[hy,xg];have:=az.o;simp only[xc,xd];omega);have am:=Lh (F.o.trans hk);have bc:=Lh (hq G _ 61 (by decide) V J.o);have aF:=Lh (ab.o.trans hq);clear hf hy hk hq aa J F ab;clear c0 c1 c2 c3 c4 c5 c6 R M c9 E A D;go_wp2_with fail;refine(AK b B aH.heap.size au [⟨#[69,78,68,58,86,69,86,69,78,84]⟩] aH rfl aQ.o (xb U am.o.size) (by simp) (by simp only[xh,xi,xa,xf,xe,xc,xd];omega) (by have:=aX.o;omega)).mono ?_;rintro x cL ⟨rfl,hf,hk,hq⟩;obtain⟨aP,hy⟩: ∃y,y=au++[str ([69,78,68,58,86,69,86,69,78,84])]:=⟨_,rfl⟩
     have b7:=Lh (show EC b B aP cL from by rw[hy];simpa only[xh,xi,xa,xf,xe,xj,xk,xl]using hf);have b6:=Lh hy;have dJ:=Lh (show aP.length<=xs.length+12 from by rw[hy,xg];have:=aX.o;simp only[xc,xd];omega);have bR:=Lh (am.o.trans hk);have dU:=Lh (hq G _ 61 (by decide) V bc.o);have bP:=Lh (aF.o.trans hq);clear hf hy hk hq aQ bc am aF;go_wp2_with fail;go_end0
     have bV:=Lh (show aP=xs++(Ao e z.data.toList).map str from by rw[b6.o,bM.o,O.o];unfold Ao LN;rw[hcn];simp only[xq,xh,xi,xj,Bool.false_eq_true,if_false,xk,xl]);exact⟨rfl,by rw[<-bV.o];exact b7.o,bR.o,bP.o⟩
    ·rw[hcn]at c2;go_wp2_with fail;refine(AK b B wc.heap.size be [⟨#[83,84,65,84,85,83,58,67,65,78,67,69,76,76,69,68]⟩] wc rfl aa.o (xb U F.o.size) (by simp) (by simp only[xh,xi,xa,xf,xe,xc,xd];omega) (by have:=az.o;omega)).mono ?_;rintro x a6 ⟨rfl,hf,hk,hq⟩;obtain⟨ax,hy⟩: ∃y,y=be++[str ([83,84,65,84,85,83,58,67,65,78,67,69,76,76,69,68])]:=⟨_,rfl⟩
     have a8:=Lh (show EC b B ax a6 from by rw[hy];simpa only[xh,xi,xa,xf,xe,xj,xk,xl]using hf);have ce:=Lh hy;have aO:=Lh (show ax.length<=xs.length+11 from by rw[hy,xg];have:=az.o;simp only[xc,xd];omega);have ap:=Lh (F.o.trans hk);have aV:=Lh (hq G _ 61 (by decide) V J.o);have aW:=Lh (ab.o.trans hq);clear hf hy hk hq aa J F ab;clear c0 c1 c2 c3 c4 c5 c6 R M c9 E A D;go_wp2_with fail;refine(AK b B a6.heap.size ax [⟨#[69,78,68,58,86,69,86,69,78,84]⟩] a6 rfl a8.o (xb U ap.o.size) (by simp) (by simp only[xh,xi,xa,xf,xe,xc,xd];omega) (by have:=aO.o;omega)).mono ?_;rintro x dd ⟨rfl,hf,hk,hq⟩;obtain⟨aJ,hy⟩: ∃y,y=ax++[str ([69,78,68,58,86,69,86,69,78,84])]:=⟨_,rfl⟩
     have cc:=Lh (show EC b B aJ dd from by rw[hy];simpa only[xh,xi,xa,xf,xe,xj,xk,xl]using hf);have bZ:=Lh hy;have dL:=Lh (show aJ.length<=xs.length+12 from by rw[hy,xg];have:=aO.o;simp only[xc,xd];omega);have bY:=Lh (ap.o.trans hk);have dS:=Lh (hq G _ 61 (by decide) V aV.o);have bG:=Lh (aW.o.trans hq);clear hf hy hk hq a8 aV ap aW;go_wp2_with fail;go_end0
     have bV:=Lh (show aJ=xs++(Ao e z.data.toList).map str from by rw[bZ.o,ce.o,O.o];unfold Ao LN;rw[hcn];simp only[xq,xh,xi,xj,if_true,xk,xl]);exact⟨rfl,by rw[<-bV.o];exact cc.o,bY.o,bG.o⟩
theorem DX(a b:ByteArray):A4 a b=true ↔ a.toList<b.toList:=by unfold A4;rw[bytesLess_eq];simp
theorem CX{a b c:ByteArray}(h:A4 a b=true)(k:A4 b c=true):A4 a c=true:=by
 rw[DX]at*;exact List.lt_trans h k
theorem Ch(a:ByteArray):A4 a a=false:=by
 rw[<-Bool.not_eq_true,DX];exact List.lt_irrefl _
theorem G8{p u:ByteArray}(h:Ia (some p) u=false):A4 p u=true:=by
 have h:(Op.bytesLess u.toList p.toList || u.toList==p.toList)=false:=h;rw[Bool.or_eq_false_iff]at h;obtain⟨w,A⟩:=h;rw[bytesLess_eq,decide_eq_false_iff_not]at w;rw[beq_eq_false_iff_ne]at A;rw[DX];exact Std.lt_of_le_of_ne (List.not_lt.1 w) (fun e=>A e.symm)
def V4(es:List Ev):Prop:=∀(i j:Nat) (a b:Ev),i<j->es[i]?=some a->es[j]?=some b->A4 a.uid b.uid=true
theorem QF(v:Int)(p:ByteArray)(es:List Ev)(h:Bn v (some p) es=0): ∀(j:Nat) (b:Ev),es[j]?=some b->A4 p b.uid=true:=by
 induction es generalizing p with
 | nil=>intro j b hb;simp at hb
 | cons e r ih=>
  intro j b hb;unfold Bn at h;split at h
  ·cases h
  ·split at h
   ·cases h
   ·rename_i A
    have hp:=G8 (by simpa using A);split at h
    ·rename_i w;exact absurd h w
    ·cases j with
     | zero=>simp at hb;subst hb;exact hp
     | succ j=>exact CX hp (ih e.uid h j b (by simpa using hb))
theorem Uk(v:Int)(p:Option ByteArray)(es:List Ev)(h:Bn v p es=0):V4 es:=by
 induction es generalizing p with
 | nil=>intro i j a b _ ha;simp at ha
 | cons e r ih=>
  unfold Bn at h;split at h
  ·cases h
  ·split at h
   ·cases h
   ·split at h
    ·rename_i w;exact absurd h w
    ·intro i j a b A ha hb;cases j with
     | zero=>omega
     | succ j=>
      have hb:r[j]?=some b:=by simpa using hb
      cases i with
      | zero=>simp at ha;subst ha;exact QF v e.uid r h j b hb
      | succ i=>exact ih (some e.uid) h i j a b (by omega) (by simpa using ha) hb
theorem Qw{p u:ByteArray}(h:A4 p u=true):Ia (some p) u=false:=by
 rw[DX]at h;show(Op.bytesLess u.toList p.toList || u.toList==p.toList)=false
 rw[Bool.or_eq_false_iff,bytesLess_eq,decide_eq_false_iff_not,beq_eq_false_iff_ne];exact⟨fun k=>List.lt_irrefl _ (List.lt_trans h k),fun e=>by rw[e]at h;exact List.lt_irrefl _ h⟩
theorem DH{s u:ByteArray}(h:A4 s u=false)(hne: ¬s=u):Ia (some u) s=false:=by
 show(Op.bytesLess s.toList u.toList || s.toList==u.toList)=false
 rw[Bool.or_eq_false_iff];exact⟨h,D9 hne⟩
theorem BL(v:Int)(p:Option ByteArray)(e:Ev)(r:List Ev):Bn v p (e::r)=0 ↔ A8 e.uid.data.toList=true/\Ia p e.uid=false/\Ax e v=0/\Bn v (some e.uid) r=0:=by
 rw[Bn];constructor
 ·intro h;split at h
  ·cases h
  ·rename_i A
   split at h
   ·cases h
   ·rename_i D
    split at h
    ·rename_i w;exact absurd h w
    ·rename_i w;exact⟨by simpa using A,by simpa using D,by simpa using w,h⟩
 ·rintro⟨A,D,w,E⟩;rw[if_neg (by rw[A];simp),if_neg (by rw[D];simp),if_neg (by rw[w];simp)];exact E
theorem GI(v:Int)(e:Ev)(hr:A8 e.uid.data.toList=true)(hc:Ax e v=0): ∀(es:List Ev) (p:Option ByteArray),Ia p e.uid=false->Bn v p es=0->Bn v p (Cl e es)=0
 | [],p,hp,_=>by
  show Bn v p [e]=0
  exact(BL v p e []).2 ⟨hr,hp,hc,by rw[Bn]⟩
 | s::r,p,hp,h=>by
  obtain⟨A,E,D,w⟩:=(BL v p s r).1 h;unfold Cl;by_cases k1:A4 s.uid e.uid=true
  ·rw[if_pos k1];exact(BL v p s _).2 ⟨A,E,D,GI v e hr hc r (some s.uid) (Qw k1) w⟩
  ·rw[if_neg k1];by_cases k2:s.uid=e.uid
   ·rw[if_pos k2];exact(BL v p e r).2 ⟨hr,hp,hc,by rw[<-k2];exact w⟩
   ·rw[if_neg k2];exact(BL v p e _).2 ⟨hr,hp,hc,(BL v _ s r).2 ⟨A,DH (by simpa using k1) k2,D,w⟩⟩
theorem Nu{e:Ev}{v v':Int}(h:Ax e v=0)(hv:v<=v'):Ax e v'=0:=by
 unfold Ax at h ⊢;by_cases w:e.seq<1∨v<e.seq
 ·rw[if_pos w]at h;cases h
 ·rw[if_neg w]at h;rw[if_neg (by omega)];exact h
theorem Hf{v v':Int}(hv:v<=v'): ∀(es:List Ev) (p:Option ByteArray),Bn v p es=0->Bn v' p es=0
 | [],_,_=>by rw[Bn]
 | s::r,p,h=>by
  obtain⟨w,E,D,A⟩:=(BL v p s r).1 h;exact(BL v' p s r).2 ⟨w,E,Nu D hv,Hf hv r _ A⟩
theorem V4.first{es:List Ev}(h:V4 es){i j:Nat}{a b:Ev}{u:ByteArray}(w:i<=j)(ha:es[i]?=some a)(hb:es[j]?=some b)(hl:A4 b.uid u=true):A4 a.uid u=true:=by
 rcases Nat.lt_or_eq_of_le w with k | k
 ·exact CX (h i j a b k ha hb) hl
 ·subst k;rw[ha]at hb;cases hb;exact hl
def Gg(a b:ByteArray):Int:=Lib.compareBytes a.data.toList b.data.toList
theorem SN(e:Ev)(u:ByteArray)(p F:Option Addr)(n E c c2:Nat)(w:World):
  Calls Tryz.prog 114 #[AW e (jd p n c) (jd F E c2),jc u] w fun x w'=>x=jh (ja jb (Gg e.uid u))/\Below w.heap.size w w':=by
 have D:Hid (∀W,Calls Tryz.prog 115 #[jc e.uid,jc u] W fun x w'=>x=jh (ja jb (Gg e.uid u))/\w'=W):=Lh (fun W=>Tryz.strings_Compare e.uid u W);unfold AW Ae;go_enter Tryz.func114,Tryz.ntmps114;go_wp2_with fail;refine(D.o _).mono ?_;rintro x G ⟨rfl,A⟩;rw[A];clear A G;go_wp2_with fail;go_ret;exact⟨rfl,Aa _ _⟩
def ahead(es:List Ev)(u:ByteArray)(k:Nat):Prop:=∃e,es[k]?=some e/\Gg e.uid u<0
def OK(es:List Ev)(u:ByteArray)(w:World)(x:Ending)(w':World):Prop:=∃(i:Nat) (f:Bool),x=jh (jg #[ja jb i,je f])/\i<=es.length/\(∀k,k<i->ahead es u k)/\(∀k,i<=k-> ¬ahead es u k)/\(f=true ↔ ∃e,es[i]?=some e/\Gg e.uid u=0)/\Below w.heap.size w w'
theorem Qb(es:List Ev)(u:ByteArray)(ao:Option Addr)(c:Nat)(w:World)(hE:GQ w.heap.size w ao es)(hn:es.length<=1000000000)(hS: ∀a b,a<=b->ahead es u b->ahead es u a):
  Calls Tryz.prog 113 #[jd ao es.length c,jc u,.func (.func 114) #[] #[]] w (OK es u w):=by
 have HE:=Lh hE;have HS:=Lh hS;clear hE hS;obtain⟨n,hne⟩: ∃n,n=es.length:=⟨_,rfl⟩
 rw[<-hne]at hn ⊢;have T:=Lh hne;clear hne;have aj:(n:Int)<=1000000000:=by omega
 go_enter Tryz.func113,Tryz.ntmps113;go_wp2_with fail;go_loopw [9,10] (fun Z jv wr=> ∃i j:Nat,Z=ja jb i/\jv=ja jb j/\i<=j/\j<=n/\Hid (∀k,k<i->ahead es u k)/\Hid (∀k,j<=k-> ¬ahead es u k)/\Hid (Below w.heap.size w wr)) (fun Z jv _=>(intOf jv - intOf Z).toNat)
 case atStart=>exact⟨0,n,rfl,rfl,Nat.zero_le _,xn _,Lh (fun k h=>absurd h (Nat.not_lt_zero _)),Lh (fun k h ⟨e,he,_⟩=>by have:=(xo.1 he).1;rw[<-T.o]at this;omega),Lh (Below.refl _ _)⟩
 case round=>
  obtain⟨i,j,rfl,rfl,ah,O,HA,HZ,J⟩:=hrel;by_cases af:i<j
  ·have ac:(i:Int)<j:=by omega
   have ae:(i:Int)+j<=2000000000:=by omega
   obtain⟨h,hh⟩: ∃h:Nat,((i:Int)+j) / 2=h:=⟨(i+j) / 2,by omega⟩
   have ag:i<=h:=by omega
   have al:h<j:=by omega
   have ak:(h:Int)<n:=by omega
   have A:h<es.length:=by rw[<-T.o];omega
   obtain⟨g,o,R,hg,hc⟩: ∃g o,ao=some ⟨g,o,none⟩/\g<w.heap.size/\ ∀(j:Nat) (e:Ev),es[j]?=some e->ND e/\ ∃v v',Ps g (o+j*13) e v v' w/\NC w.heap.size w v e.days.ex/\NC w.heap.size w v' e.days.xt:=by
    rcases HE.o with h | h
    ·exfalso;rw[h]at A;simp at A
    ·exact h
   subst R;obtain⟨-,v,v',hv,⟨px,kx,hx, -⟩,⟨py,ky,hy, -⟩⟩:=hc h _ (xm A);obtain⟨e,D⟩: ∃e,e=es[h]:=⟨_,rfl⟩
   rw[<-D]at hv hx hy;have U:=Lh (show es[h]?=some e from by rw[xm A,D]);subst hx;subst hy;obtain⟨c0,c1,c2,c3,c4,c5,c6,c7,c8,c9,H,G,M⟩:=hv.below hg J.o;clear hc hv D;go_wp2_with fail;refine(SN e u _ _ _ _ _ _ _).mono ?_;rintro x w1 ⟨rfl,hb1⟩;have E:=Lh (J.o.trans (hb1.mono J.o.size));clear hb1 c0 c1 c2 c3 c4 c5 c6 c7 c8 c9 H G M hh;by_cases F:Gg e.uid u<0
   ·have aa:=Lh (show ∀k,k<h+1->ahead es u k from fun k hk=>HS.o k h (by omega) ⟨e,U.o,F⟩);go_wp2_with fail;go_roundw
    case rel=>exact⟨h+1,j,by go_num,rfl,by omega,O,aa,HZ,E⟩
    case measure=>simp[intOf];omega
   ·have ab:=Lh (show ∀k,h<=k-> ¬ahead es u k from fun k hk ha=>by
     obtain⟨e2,V,hlt2⟩:=HS.o h k hk ha;rw[U.o]at V;cases V;exact F hlt2)
    go_wp2_with fail;go_roundw
    case rel=>exact⟨i,h,rfl,rfl,by omega,by omega,HA,ab,E⟩
    case measure=>simp[intOf];omega
  ·obtain rfl:i=j:=by omega
   by_cases ai:i<n
   ·have X:(i:Int)<n:=by omega
    have A:i<es.length:=by rw[<-T.o];omega
    obtain⟨g,o,R,hg,hc⟩: ∃g o,ao=some ⟨g,o,none⟩/\g<w.heap.size/\ ∀(j:Nat) (e:Ev),es[j]?=some e->ND e/\ ∃v v',Ps g (o+j*13) e v v' w/\NC w.heap.size w v e.days.ex/\NC w.heap.size w v' e.days.xt:=by
     rcases HE.o with h | h
     ·exfalso;rw[h]at A;simp at A
     ·exact h
    subst R;obtain⟨-,v,v',hv,⟨px,kx,hx, -⟩,⟨py,ky,hy, -⟩⟩:=hc i _ (xm A);obtain⟨e,D⟩: ∃e,e=es[i]:=⟨_,rfl⟩
    rw[<-D]at hv hx hy;have U:=Lh (show es[i]?=some e from by rw[xm A,D]);subst hx;subst hy;obtain⟨c0,c1,c2,c3,c4,c5,c6,c7,c8,c9,H,G,M⟩:=hv.below hg J.o;clear hc hv D;go_wp2_with fail;refine(SN e u _ _ _ _ _ _ _).mono ?_;rintro x w1 ⟨rfl,hb1⟩;have E:=Lh (J.o.trans (hb1.mono J.o.size));clear hb1 c0 c1 c2 c3 c4 c5 c6 c7 c8 c9 H G M;have HF:=Lh (show((Gg e.uid u==0)=true ↔ ∃e2,es[i]?=some e2/\Gg e2.uid u=0)from by
     rw[beq_iff_eq];exact⟨fun h=>⟨e,U.o,h⟩,fun⟨e2,Y,h3⟩=>by rw[U.o]at Y;cases Y;exact h3⟩)
    go_wp2_with fail;go_ret2;exact⟨i,_,rfl,by rw[<-T.o];exact O,HA.o,HZ.o,HF.o,E.o⟩
   ·have X: ¬(i:Int)<n:=by omega
    have HF:=Lh (show(false=true ↔ ∃e2,es[i]?=some e2/\Gg e2.uid u=0)from
     ⟨fun h=>(by cases h),fun⟨e2,Y,_⟩=>by have:=(xo.1 Y).1;rw[<-T.o]at this;omega⟩)
    go_wp2_with fail;go_ret2;exact⟨i,_,rfl,by rw[<-T.o];exact O,HA.o,HZ.o,HF.o,J.o⟩
theorem VA(es:List Ev)(u:ByteArray)(ao:Option Addr)(c:Nat)(w:World)(A:GQ w.heap.size w ao es)(hn:es.length<=1000000000)(G: ∀a b,a<=b->ahead es u b->ahead es u a):
  Calls Tryz.prog 83 #[jd ao es.length c,jc u] w (OK es u w):=by
 have O:=Lh (Qb es u ao c w A hn G);clear A G;go_enter Tryz.func83,Tryz.ntmps83;go_wp2_with fail;refine O.o.mono ?_;rintro x R ⟨i,f,rfl,D,J,F,E,M⟩;have H:=Lh (And.intro D (And.intro J (And.intro F (And.intro E M))));clear D J F E M;go_wp2_with fail;go_ret2;exact⟨i,f,rfl,H.o.1,H.o.2.1,H.o.2.2.1,H.o.2.2.2.1,H.o.2.2.2.2⟩
theorem FJ(u:ByteArray): ∀(es:List Ev) (k:Int),(∀e∈es,¬e.uid=u)->Aw u es k= -1
 | [],_,_=>rfl
 | e::r,k,h=>by
  unfold Aw;rw[if_neg (h e (xu ..))];exact FJ u r (k+1) (fun a ha=>h a (xw _ ha))
theorem If(u:ByteArray): ∀(es:List Ev) (k:Int) (i:Nat) (e:Ev),es[i]?=some e->e.uid=u->(∀j a,j<i->es[j]?=some a-> ¬a.uid=u)->Aw u es k=k+i
 | [],_,_,_,h,_,_=>by simp at h
 | s::r,k,0,e,h,he,_=>by
  simp at h;subst h;unfold Aw;rw[if_pos he];simp
 | s::r,k,i+1,e,h,he,hj=>by
  unfold Aw;rw[if_neg (hj 0 s (by omega) (by simp)),If u r (k+1) i e (by simpa using h) he (fun j a w ha=>hj (j+1) a (by omega) (by simpa using ha))];omega
theorem Ep: ∀x y:List UInt8,(Lib.compareBytes x y<0 ↔ x<y)/\(Lib.compareBytes x y=0 ↔ x=y)
 | [],[]=>by simp[Lib.compareBytes]
 | [],_::_=>by simp[Lib.compareBytes]
 | _::_,[]=>by simp[Lib.compareBytes]
 | a::xs,b::ys=>by
  obtain⟨w,A⟩:=Ep xs ys;unfold Lib.compareBytes;by_cases k1:a<b
  ·rw[if_pos k1];have hne: ¬a=b:=fun e=>by rw[e]at k1;exact absurd k1 (UInt8.lt_irrefl _)
   simp[List.cons_lt_cons_iff,k1,hne]
  ·rw[if_neg k1];by_cases k2:b<a
   ·rw[if_pos k2];have hne: ¬a=b:=fun e=>by rw[e]at k2;exact absurd k2 (UInt8.lt_irrefl _)
    simp[List.cons_lt_cons_iff,k1,hne]
   ·rw[if_neg k2];have he:a=b:=UInt8.le_antisymm (UInt8.not_lt.1 k2) (UInt8.not_lt.1 k1);subst he;simp[w,A]
theorem D3(a b:ByteArray):Gg a b<0 ↔ A4 a b=true:=by
 rw[DX,Lib.toList_data,Lib.toList_data];exact(Ep _ _).1
theorem Di(a b:ByteArray):Gg a b=0 ↔ a=b:=by
 unfold Gg;rw[(Ep _ _).2];exact⟨fun h=>ByteArray.ext (Array.toList_inj.mp h),fun h=>by rw[h]⟩
theorem OH{es:List Ev}(h:V4 es)(u:ByteArray): ∀a b,a<=b->ahead es u b->ahead es u a:=by
 rintro a b w ⟨e,he,hl⟩;have hb:b<es.length:=(xo.1 he).1;obtain⟨s,hs⟩: ∃s,es[a]?=some s:=⟨_,xm (by omega)⟩
 exact⟨s,hs,(D3 _ _).2 (h.first w hs he ((D3 _ _).1 hl))⟩
theorem Mh{es:List Ev}{u:ByteArray}{i:Nat}(h:V4 es)(w: ∀k,k<i->ahead es u k)(A: ∀k,i<=k-> ¬ahead es u k)(hf: ¬ ∃e,es[i]?=some e/\Gg e.uid u=0):Aw u es 0= -1:=by
 refine FJ u es 0 (fun e he hu=>?_);obtain⟨j,hj⟩:=List.mem_iff_getElem?.1 he;rcases Nat.lt_trichotomy j i with k | k | k
 ·obtain⟨s,hs,hl⟩:=w j k;rw[hj]at hs;cases hs;rw[hu,(Di u u).2 rfl]at hl;exact absurd hl (by decide)
 ·subst k;exact hf ⟨e,hj,(Di _ _).2 hu⟩
 ·have hi:i<es.length:=by have:=(xo.1 hj).1;omega
  exact A i (xn _) ⟨es[i],xm hi,(D3 _ _).2 (by rw[<-hu];exact h i j _ _ k (xm hi) hj)⟩
theorem Hr{es:List Ev}{u:ByteArray}{i:Nat}{e:Ev}(w: ∀k,k<i->ahead es u k)(he:es[i]?=some e)(hc:Gg e.uid u=0):Aw u es 0=i:=by
 rw[If u es 0 i e he ((Di _ _).1 hc) (fun j a hj ha hu=>?_)]
 ·simp
 ·obtain⟨s,hs,hl⟩:=w j hj;rw[ha]at hs;cases hs;rw[hu,(Di u u).2 rfl]at hl;exact absurd hl (by decide)
def Bo(c:Int)(e:Ev)(ns:List Nt):List Nt:=if c=0 then ns else ns++[⟨c,e.uid,e.seq⟩]
def C5(s:List Ev × List Nt)(e:Ev):List Ev × List Nt:=
 if Aw e.uid s.1 0<0 then(Cl e s.1,Bo (C4 true e.canc) e s.2)
 else match s.1[(Aw e.uid s.1 0).toNat]? with
  | none=>s
  | some o=>if o.seq<e.seq then(Cl e s.1,Bo (C4 o.canc e.canc) e s.2)else s
def DV(es fs:List Ev):List Ev × List Nt:=fs.foldl C5 (es,[])
def BK(rv tag:Int)(es:List Ev)(n:ByteArray)(v:Int)(fs:List Ev):Int × Int × List Ev × List Nt × Int:=
 if Cw rv es=false then(0,0,[],[],1)
 else if Aq n v fs≠0 then(0,0,[],[],Aq n v fs)
 else if v<=rv then(rv,tag,es,[],0)
 else if 256<((DV es fs).1.length:Int)then(0,0,[],[],2)
 else(v,tag,(DV es fs).1,(DV es fs).2,0)
theorem Gx(es fs:List Ev)(k:Nat)(e:Ev)(h:fs[k]?=some e):DV es (fs.take (k+1))=C5 (DV es (fs.take k)) e:=by
 obtain⟨w,A⟩:=xo.1 h;unfold DV;rw[List.take_succ_eq_append_getElem w,List.foldl_append,A];rfl
theorem Iz(es fs:List Ev):DV es (fs.take fs.length)=DV es fs:=by rw[List.take_length]
theorem LL{ts:List (Ev × Value × Value)}{t:Ev × Value × Value}{i:Nat}(w: ∀k,k<i->ahead (ts.map (·.1)) t.1.uid k):Gm t ts i:=by
 intro j s hj hs;obtain⟨e,he,hl⟩:=w j hj;rw[xx,hs]at he;cases he;exact(D3 _ _).1 hl
theorem NZ{ts:List (Ev × Value × Value)}{t:Ev × Value × Value}{i:Nat}(hi:i<=ts.length)(w: ∀k,k<i->ahead (ts.map (·.1)) t.1.uid k)(A: ∀k,i<=k-> ¬ahead (ts.map (·.1)) t.1.uid k)
  (hf: ¬ ∃e,(ts.map (·.1))[i]?=some e/\Gg e.uid t.1.uid=0):Cx t ts=ts.take i++t::ts.drop i:=by
 rcases Nat.lt_or_eq_of_le hi with k | k
 ·have hs:ts[i]?=some ts[i]:=xm k;have hm:(ts.map (·.1))[i]?=some ts[i].1:=by rw[xx,hs];rfl
  refine IX t ts i _ (LL w) hs ?_ (fun he=>hf ⟨_,hm,(Di _ _).2 he⟩);rw[<-Bool.not_eq_true];exact fun hl=>A i (xn _) ⟨_,hm,(D3 _ _).2 hl⟩
 ·subst k;rw[IZ t ts (LL w),List.take_length,List.drop_length]
theorem NY{ts:List (Ev × Value × Value)}{t s:Ev × Value × Value}{i:Nat}(w: ∀k,k<i->ahead (ts.map (·.1)) t.1.uid k)(hs:ts[i]?=some s)(hc:Gg s.1.uid t.1.uid=0):Cx t ts=ts.set i t:=by
 have he:=(Di _ _).1 hc;rw[G0 t ts i s (LL w) hs (by rw[he];exact Ch _) he];exact(List.set_eq_take_append_cons_drop ..).symm▸(by rw[if_pos (xo.1 hs).1])
theorem IP{w:List Ev}{A:List Nt}{e:Ev}(h:Aw e.uid w 0= -1):C5 (w,A) e=(Cl e w,Bo (C4 true e.canc) e A):=by
 unfold C5;rw[if_pos (by show Aw e.uid w 0<0;rw[h];decide)]
theorem FX{w:List Ev}{A:List Nt}{e o:Ev}{i:Nat}(h:Aw e.uid w 0=i)(ho:w[i]?=some o):C5 (w,A) e=if o.seq<e.seq then(Cl e w,Bo (C4 o.canc e.canc) e A)else(w,A):=by
 unfold C5;rw[if_neg (by show ¬Aw e.uid w 0<0;rw[h];omega)];show(match w[(Aw e.uid w 0).toNat]? with | none=>(w,A) | some o=>if o.seq<e.seq then(Cl e w,Bo (C4 o.canc e.canc) e A)else(w,A))=_
 rw[h,Int.toNat_natCast,ho]
theorem By(v:Int): ∀(es:List Ev) (p:Option ByteArray),Bn v p es=0-> ∀e∈es,A8 e.uid.data.toList=true/\Ax e v=0
 | [],_,_,_,he=>by cases he
 | s::r,p,h,e,he=>by
  obtain⟨w,E,D,A⟩:=(BL v p s r).1 h;rcases List.mem_cons.1 he with rfl | he
  ·exact⟨w,D⟩
  ·exact By v r _ A e he
theorem Me{v:Int}{s:List Ev × List Nt}{e:Ev}(hr:A8 e.uid.data.toList=true)(hc:Ax e v=0)(h:Bn v none s.1=0):Bn v none (C5 s e).1=0:=by
 unfold C5;split
 ·exact GI v e hr hc s.1 none rfl h
 ·split
  ·exact h
  ·split
   ·exact GI v e hr hc s.1 none rfl h
   ·exact h
theorem KE{v:Int}: ∀(fs:List Ev) (s:List Ev × List Nt),(∀e∈fs,A8 e.uid.data.toList=true/\Ax e v=0)->Bn v none s.1=0->Bn v none (fs.foldl C5 s).1=0
 | [],_,_,h=>h
 | e::r,s,hf,h=>by
  rw[List.foldl_cons];exact KE r _ (fun a ha=>hf a (xw _ ha)) (Me (hf e (xu ..)).1 (hf e (xu ..)).2 h)
theorem RU{rv v:Int}{es fs:List Ev}(hv:rv<=v)(he:Bn rv none es=0)(hf:Bn v none fs=0)(k:Nat):Bn v none (DV es (fs.take k)).1=0:=
 KE (fs.take k) (es,[]) (fun e h=>By v fs none hf e (List.mem_of_mem_take h)) (Hf hv es none he)
theorem ER(e:Ev): ∀es:List Ev,(Cl e es).length<=es.length+1
 | []=>xn _
 | s::r=>by
  unfold Cl;split
  ·simpa using ER e r
  ·split<;>simp
theorem PD(s:List Ev × List Nt)(e:Ev):(C5 s e).1.length<=s.1.length+1/\(C5 s e).2.length<=s.2.length+1:=by
 have hn: ∀c,(Bo c e s.2).length<=s.2.length+1:=fun c=>by unfold Bo;split<;>simp
 unfold C5;split
 ·exact⟨ER e s.1,hn _⟩
 ·split
  ·omega
  ·split
   ·exact⟨ER e s.1,hn _⟩
   ·omega
theorem Fj(es fs:List Ev): ∀k,k<=fs.length->(DV es (fs.take k)).1.length<=es.length+k/\(DV es (fs.take k)).2.length<=k
 | 0,_=>by show es.length<=es.length+0/\0<=0;omega
 | k+1,h=>by
  have ih:=Fj es fs k (by omega);rw[Gx es fs k _ (xm (show k<fs.length by omega))];have:=PD (DV es (fs.take k)) fs[k];omega
theorem BT(v:Int)(es:List Ev):Cw v es=true ↔ 0<=v/\v<=64/\es.length<=256/\Bn v none es=0:=by
 unfold Cw;simp only[xy,Bool.not_eq_true',decide_eq_false_iff_not,decide_eq_true_eq];omega
theorem BC{n:ByteArray}{v:Int}{es:List Ev}(h:Aq n v es=0):0<=v/\v<=64/\es.length<=256/\Bn v none es=0:=by
 unfold Aq at h;split at h
 ·cases h
 ·split at h
  ·cases h
  ·split at h
   ·cases h
   ·exact⟨by omega,by omega,by omega,h⟩
