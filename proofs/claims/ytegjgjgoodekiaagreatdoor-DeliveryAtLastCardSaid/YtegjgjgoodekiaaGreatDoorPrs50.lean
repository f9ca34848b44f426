/- feed.Parse (function 50) on the text of a valid feed. -/
import Derived.Test.YtegjgjgoodekiaaGreatDoorEvP
import Derived.Test.YtegjgjgoodekiaaGreatDoorPk18
import Derived.Test.YtegjgjgoodekiaaGreatDoorQk12
import Derived.Test.YtegjgjgoodekiaaGreatDoorQk16
open Go.Value renaming int->ja,string->jc,slice->jd,bool->je,pointer->jf,tuple->jg
open Go.IntKind renaming i64->jb
open Go.Ending renaming returned->jh
open Go.Obj renaming cells->ji
open List renaming getElem_cons_zero->xa,getElem_toArray->xb,getElem_cons_succ->xc,length_map->xe,map_append->xg,mem_singleton->xh,length_append->xi,append_assoc->xl,not_mem_nil->xm,mem_append->xn,mem_cons->xo
open Nat renaming le_refl->xd,le_trans->xf,lt_of_lt_of_le->xk
open Go.World.ownsRow renaming alloc->xj
open Option.some renaming inj->xp
namespace Go.Proofs.YtegjgjgoodekiaaGreatDoor
open Go.RowKit
structure Q5 (p g:Nat) (z:ByteArray) (L1 L2:List ByteArray) (l:Bool) (w x:World):Prop where
 par: ∃o cap,Bl p g o cap (if l=true then L2 else L1) z false x
 but:AO p w.heap.size w x
theorem Q5.start{p g:Nat}{z:ByteArray}{A D:List ByteArray}{w:World}(h: ∃o cap,Bl p g o cap A z false w):Q5 p g z A D false w w.drew:=by
 obtain⟨o,cap,hp⟩:=h;exact⟨⟨o,cap,hp.other rfl rfl⟩,Nw (AO.refl p _ w)⟩
theorem Q5.alloc{p g:Nat}{z:ByteArray}{D A:List ByteArray}{l:Bool}{w x:World}(h:Q5 p g z D A l w x)(o:Obj)(hg:g<w.heap.size):Q5 p g z D A l w (x.alloc o):=by
 obtain⟨q,cap,hp⟩:=h.par;exact⟨⟨q,cap,hp.below (Aa x _) (xk hg h.but.size)⟩,Hi h.but h.but.size o⟩
theorem Q5.feed{p g:Nat}{z n:ByteArray}{v:Int}{ev:Value}{D A:List ByteArray}{l:Bool}{w x:World}(h:Q5 p g z D A l w x)(hf:AF (p+1) n v ev w):AF (p+1) n v ev x:=hf.block (h.but.block (p+1) hf.lt (by omega))
theorem Q5.ev{p g:Nat}{z:ByteArray}{G F:List ByteArray}{l:Bool}{w x:World}{ev:Ev}{D m:Int}(h:Q5 p g z G F l w x)(hu:l=false)(H:G=(Ao ev z.data.toList).map str++F)(hg:g<w.heap.size)(M:3<p)(T:CD w)(hm:w.cell? ⟨0,0,none⟩=some (ja jb m))(J:Ax ev D=0)(E:D<=64)(hz:z.size<=1000)(hp:p<w.heap.size):
  Calls Tryz.prog 73 #[jf (some ⟨p,0,none⟩)] x fun e x1=> ∃v v',e=jh (AW ev v v')/\Ah x.heap.size x1 v ev.days.ex/\Ah x.heap.size x1 v' ev.days.xt/\Q5 p g z G F true w x1/\AO p x.heap.size x x1:=by
 obtain⟨o,cap,A⟩:=h.par;subst hu;have hb:=h.but.below (xd p) (Nat.le_of_lt hp);have A:Bl p g o cap ((Ao ev z.data.toList).map str++F) z false x:=by rw[<-H];exact A
 refine(Sz p g o cap F ev D m z x A (xk hg h.but.size) M (T.below M hb) ((hb.cell (p:=⟨0,0,none⟩) (by show 0<p;omega)).trans hm) J E hz).mono ?_;rintro e x1 ⟨v,v',rfl,V,U,R,O⟩;exact⟨v,v',rfl,V,U,⟨R,Ba h.but O h.but.size⟩,O⟩
theorem Av.butT{b lo:Nat}{w w':World}{v:Value}{ts:List (Ev × Value × Value)}(h:Av lo w v ts)(hb:b<lo)(ho:AO b w.heap.size w w'):Av lo w' v ts:=⟨Am h.row hb ho,fun t ht=>⟨(h.ref t ht).1,Am (h.ref t ht).2.1 hb ho,Am (h.ref t ht).2.2 hb ho⟩⟩
theorem AF.grownT{f:Nat}{n:ByteArray}{v:Int}{ev u:Value}{w w':World}{B k c:Nat}{e:TypeId}{xs:List Value}(h:AF f n v ev w)(hr:w.ownsRow B e k u c xs)(hf:f<B)(hg:w.grownBy w' u.ownBlock):AF f n v ev w':=
 h.block (hg.block f h.lt fun he=>by have:=(hr.lt f he.symm).1;omega)
theorem Bl.grownT{b g o cap:Nat}{xs:List ByteArray}{z:ByteArray}{bad:Bool}{w w':World}{B k c:Nat}{e:TypeId}{u:Value}{ys:List Value}(h:Bl b g o cap xs z bad w)(hr:w.ownsRow B e k u c ys)(hb:b<B)(A:g<b)(hg:w.grownBy w' u.ownBlock):Bl b g o cap xs z bad w':=
 h.other (hg.block b h.lt fun he=>by have:=(hr.lt b he.symm).1;omega) (hg.block g (by have:=h.lt;omega) fun he=>by have:=(hr.lt g he.symm).1;omega)
def FC(es:List Ev)(z:List UInt8):List ByteArray:=(es.flatMap fun e=>Ao e z).map str++[str [69,78,68,58,86,67,65,76,69,78,68,65,82]]
theorem tail_cons(e:Ev)(r:List Ev)(z:List UInt8):FC (e::r) z=(Ao e z).map str++FC r z:=by unfold FC;rw[List.flatMap_cons,xg,xl]
theorem Pz(e:Ev)(r:List Ev)(z:List UInt8): ∃q,FC (e::r) z=str (Jg++[])::q:=⟨_,by rw[tail_cons];rfl⟩
theorem M5(n:List UInt8)(v:Int)(es:List Ev)(z:List UInt8):(AI n v es z).map str=str (Ji++[])::str (EY++[50,46,48])::str (GB++[45,47,47,116,105,109,101,116,97,98,108,101,47,47,69,78])::str (MN++n)::str (DZ++Lib.decDigits v.toNat)::FC es z:=by
 unfold AI FC;rw[xg,xg];rfl
theorem TO(e:Ev)(z:List UInt8): ∀l∈Ao e z,Lib.hasPrefix l [88,45]=false:=by
 intro l hl;unfold Ao Ke JX JY Oi Ly LN at hl;simp only[xn,xo,xm,or_false]at hl;rcases hl with((((h | h) | h) | h) | h) | h
 ·rcases h with rfl | rfl | rfl | rfl | rfl | rfl<;>exact BY _ _ (by decide)
 ·split at h
  ·cases h
  ·rw[xh.1 h];exact BY _ _ (by decide)
 ·split at h
  ·cases h
  ·rw[xh.1 h];exact BY _ _ (by decide)
 ·subst h;exact BY _ _ (by decide)
 ·split at h
  ·cases h
  ·rw[xh.1 h];exact BY _ _ (by decide)
 ·rcases h with rfl | rfl
  ·split<;>exact BY _ _ (by decide)
  ·exact BY _ _ (by decide)
theorem WA(n:List UInt8)(v:Int)(es:List Ev)(z:List UInt8): ∀x∈(AI n v es z).map str,Lib.hasPrefix x.data.toList [88,45]=false:=by
 intro x hx;obtain⟨l,hl,rfl⟩:=List.mem_map.1 hx;show Lib.hasPrefix l [88,45]=false
 unfold AI CI at hl;simp only[xn,xo,xm,or_false,List.mem_flatMap]at hl;rcases hl with(h | ⟨e,_,h⟩) | h
 ·rcases h with rfl | rfl | rfl | rfl | rfl<;>exact BY _ _ (by decide)
 ·exact TO e z l h
 ·subst h;exact BY _ _ (by decide)
set_option maxHeartbeats 16000000 in
set_option maxRecDepth 100000 in
theorem RH(s n z:ByteArray)(v m:Int)(es:List Ev)(ls:List (List UInt8))(w:World)(hs:s.size<=262144)(hv:Aq n v es=0)(aD:Tt.code z.data.toList=true)(bu: ∀e∈es,ND e)(hu:Tt.unf s.data.toList=some ls)(bN:AA (ls.map str)=(AI n.data.toList v es z.data.toList).map str)(hm:w.cell? ⟨0,0,none⟩=some (ja jb m))(hL:CD w)(bS:Pow w)(h6:6<w.heap.size):
  Calls Tryz.prog 43 #[jc s,jc z] w fun x w'=> ∃(V:Option Addr) (cu:Nat) (ts:List (Ev × Value × Value)),ts.map (·.1)=es/\x=jh (jg #[.agg #[jc n,ja jb v,jd V ts.length cu],ja jb 0])/\Av w.heap.size w' (jd V ts.length cu) ts/\Below w.heap.size w w':=by
 have HZ:=Lh aD;have hz:z.size<=1000:=xf (CC aD) (by decide);obtain⟨cZ,cz,cU,bK⟩:=BC hv;have cN:=Lh (By v es none bK);have bm:=Lh hv;have cn:=Lh bu;obtain⟨cp,bj⟩:=Dz (n:=n) hv aD;obtain⟨xs,aE⟩: ∃xs,xs=(AI n.data.toList v es z.data.toList).map str:=⟨_,rfl⟩
 have bj:xs.length<=4000:=by rw[aE];exact bj
 have ba:=Lh aE;have cC:=Lh (show AA (ls.map str)=xs from by rw[aE];exact bN);have HU:=Lh hu;have bP:=Lh hL;have cg:=Lh bS;have HM:=Lh hm;have H6:=Lh h6;have L0:Below w.heap.size w (w.alloc (ji #[jc ⟨#[]⟩,ja jb 0,jd none 0 0] 41)):=(Below.refl _ w).alloc (xd _) _;have R0:AF w.heap.size ⟨#[]⟩ 0 (jd none 0 0) (w.alloc (ji #[jc ⟨#[]⟩,ja jb 0,jd none 0 0] 41)):=heap_alloc_new w _;have bH:=(L0.cell (p:=⟨0,0,none⟩) (show 0<w.heap.size by omega)).trans hm;have cX: ¬((262144:Int)<(s.size:Int)):=by omega
 clear aD hu hv bK hm hL bS cp aE bu bN;go_enter Tryz.func43,Tryz.ntmps43;go_wp2_with fail;refine(BV _ _).mono ?_;rintro e w1 ⟨rfl,hw⟩;rw[hw];clear hw w1;rw[HZ.o];go_wp2_with fail;refine(FT s (by omega) _ m bH).mono ?_;rintro e w1 ⟨hU,hb1⟩;obtain⟨g,cap,ys,a7,rfl,G,cK,ac,aF,cS,bM⟩: ∃(g cap:Nat) (ys:List ByteArray),ys=ls.map str/\e=jh (jg #[jd (some ⟨g,0,none⟩) ys.length cap,je true])/\BW w1 (some ⟨g,0,none⟩) ys/\w.heap.size+1<=g/\g<w1.heap.size/\ys.length<=cap/\ys.length<=s.size+1/\ ∀j,w1.frozen? ⟨g,j,none⟩=false:=by
  rcases hU with⟨h1,_⟩ | ⟨g,cap,ys,h1,h2,h3,h4,h5,h6,h7,t,cs,h8⟩
  ·rw[HU.o]at h1;cases h1
  ·rw[HU.o]at h1;exact⟨g,cap,ys,Ei (by rw[<-xp h1];simp[List.map_map,Function.comp_def,str]),h2,h3,by simpa using h4,h5,h6,by rw[Lib.size_eq];exact h7,fun j=>Lib.frozen_of_heap h8 j⟩
 have c7:=Lh a7;have bv:AA ys=xs:=by rw[a7];exact cC.o
 have ap:=Lh G;have L1:=L0.trans (hb1.mono (by simp));have R1:AF w.heap.size ⟨#[]⟩ 0 (jd none 0 0) w1:=(hb1.block _ (by simp)).trans R0;have s1:w.heap.size+1<=w1.heap.size:=by have:=hb1.size;simpa using this
 have bs:=Lh bM;have aY:=Lh bv;clear G bH L0 R0 hb1 hU a7 bM bv;go_wp2_with fail;refine(KZ g cap ys _ (by omega) aF ap.o bs.o).mono ?_;rintro e w2 ⟨rfl,G,ax⟩;rw[aY.o]at G ⊢;have cY:xs.length<=ys.length:=by rw[<-aY.o];exact List.length_filter_le _ _
 have L1:=L1.trans (ax.below (show w.heap.size<=g by omega));have R1:=R1.block (ax.2.2.2.2 w.heap.size (by omega));have ac:g<w2.heap.size:=by rw[ax.2.2.2.1];exact ac
 have s1:w.heap.size+1<=w2.heap.size:=by rw[ax.2.2.2.1];exact s1
 obtain⟨w1,aJ⟩: ∃q,q=w2:=⟨_,rfl⟩
 rw[<-aJ]at G L1 R1 ac s1 ⊢;have ap:=Lh G;clear G ax aJ bs aY;go_wp2_with fail;obtain⟨W,hW,P0,F0,R2,L2,T2,s2⟩:=Hu w.heap.size g cap xs z w w1 0 cK ac (by omega) ap.o L1 R1;rw[show w1.drewN 0=w1 from rfl]at hW;have HW:=Lh hW;obtain⟨p,hp⟩: ∃p,p=w1.heap.size:=⟨_,rfl⟩
 have HP:=Lh hp;rw[<-HP.o]at P0 F0 s2 s1 ac;have cW:w.heap.size<p:=by omega
 have cV:g<W.heap.size:=by omega
 obtain⟨tl,bi⟩: ∃q,q=FC es z.data.toList:=⟨_,rfl⟩
 have bJ:=Lh bi;have bn:Bl p g 0 cap (str (Ji++[])::str (EY++[50,46,48])::str (GB++[45,47,47,116,105,109,101,116,97,98,108,101,47,47,69,78])::str (MN++n.data.toList)::str (DZ++Lib.decDigits v.toNat)::tl) z false W:=by
  have:=P0;rw[ba.o,M5,<-bJ.o]at this;exact this
 clear hW hp P0 L1 R1 aF bi;rw[<-HW.o,<-HP.o];refine(CW p g _ _ _ _ z ⟨#[66,69,71,73,78,58,86,67,65,76,69,78,68,65,82]⟩ _ W bn (BE Ji _)).mono ?_;rintro e w3 ⟨rfl,⟨o3,c3,P3⟩,K3⟩;rw[show(⟨(Lib.trimPrefix (str (Ji++[])).data.toList (⟨#[66,69,71,73,78,58,86,67,65,76,69,78,68,65,82]⟩:ByteArray).data.toList).toArray⟩:ByteArray)=str []from congrArg str (CV Ji _)];clear bn;go_wp2_with fail;refine(CW p g _ _ _ _ z ⟨#[86,69,82,83,73,79,78,58]⟩ _ w3 P3 (BE EY _)).mono ?_;rintro e w4 ⟨rfl,⟨o4,c4,P4⟩,K4⟩;rw[show(⟨(Lib.trimPrefix (str (EY++[50,46,48])).data.toList (⟨#[86,69,82,83,73,79,78,58]⟩:ByteArray).data.toList).toArray⟩:ByteArray)=str [50,46,48]from congrArg str (CV EY _)];clear P3;go_wp2_with fail;refine(CW p g _ _ _ _ z ⟨#[80,82,79,68,73,68,58]⟩ _ w4 P4 (BE GB _)).mono ?_;rintro e w5 ⟨rfl,⟨o5,c5,P5⟩,K5⟩;rw[show(⟨(Lib.trimPrefix (str (GB++[45,47,47,116,105,109,101,116,97,98,108,101,47,47,69,78])).data.toList (⟨#[80,82,79,68,73,68,58]⟩:ByteArray).data.toList).toArray⟩:ByteArray)=str [45,47,47,116,105,109,101,116,97,98,108,101,47,47,69,78]from congrArg str (CV GB _)];clear P4;go_wp2_with fail;refine(CW p g _ _ _ _ z ⟨#[78,65,77,69,58]⟩ _ w5 P5 (BE MN _)).mono ?_;rintro e w6 ⟨rfl,⟨o6,c6,P6⟩,K6⟩;rw[show(⟨(Lib.trimPrefix (str (MN++n.data.toList)).data.toList (⟨#[78,65,77,69,58]⟩:ByteArray).data.toList).toArray⟩:ByteArray)=str n.data.toList from congrArg str (CV MN _)];clear P5;rw[Mb];have K:B7 p W w6:=((K3.trans K4).trans K5).trans K6;have F6:=F0.block (K.2.2.2.2 (p+1) (by omega));have R6:=R2.block (K.2.2.2.2 w.heap.size (by omega));have T6:=Bm T2 (K.2.2.2.2 g (by have:=P6.ne;omega));have L6:=L2.trans (K.below (by omega));have s6:W.heap.size<=w6.heap.size:=Nat.le_of_eq K.2.2.2.1.symm;clear K3 K4 K5 K6 K F0 R2 T2 L2;have hf:=F6.fr 0;have cf:=F6.c0;have cT:g<p:=ac;go_wp2_with fail;obtain⟨w7,ag⟩: ∃w7,w7=w6.setCell ⟨p+1,0,none⟩ (jc n):=⟨_,rfl⟩
 rw[<-ag];have J: ∀k,k≠p+1->w7.heap[k]?=w6.heap[k]?:=fun k hk=>by rw[ag];exact Below.heap_setCell _ _ _ _ hk
 have F7:AF (p+1) n 0 (jd none 0 0) w7:=by
  rw[ag];exact F6.name
 have P7:=P6.other (J p (by omega)) (J g (by omega));have R7:=R6.block (J w.heap.size (by omega));have T7:=Bm T6 (J g (by omega));have L7:Below w.heap.size w w7:=by rw[ag];exact L6.setCell (by simp;omega) _
 have s7:W.heap.size<=w7.heap.size:=by rw[ag];simpa[World.setCell]using s6
 have cF:Hid (p+2<=w7.heap.size):=F7.lt;clear hf cf ag J F6 P6 R6 T6 L6 s6;refine(CW p g _ _ _ _ z ⟨#[82,69,86,73,83,73,79,78,58]⟩ _ w7 P7 (BE DZ _)).mono ?_;rintro e w8 ⟨rfl,⟨o8,c8,P8⟩,K8⟩;rw[show(⟨(Lib.trimPrefix (str (DZ++(Lib.decDigits v.toNat))).data.toList (⟨#[82,69,86,73,83,73,79,78,58]⟩:ByteArray).data.toList).toArray⟩:ByteArray)=str (Lib.decDigits v.toNat)from congrArg str (CV DZ _)];clear P7;go_wp2_with fail;refine(Cy p g _ _ _ z (str (Lib.decDigits v.toNat)) v (by rw[show(str (Lib.decDigits v.toNat)).size=(Lib.decDigits v.toNat).length from size_mk _];exact xf (Tt.dec_len 4 _ (by omega)) (by decide)) (by rw[show(str (Lib.decDigits v.toNat)).data.toList=Lib.decDigits v.toNat from rfl,Tt.atoi_dec];congr 1;omega) w8 P8 (by rw[K8.2.2.2.1];omega)).mono ?_;rintro e w9 ⟨rfl,P9,K9⟩;have aB: ∀k,k<w7.heap.size->k≠p->w9.heap[k]?=w7.heap[k]?:=fun k hk bq=>(K9.block k (by rw[K8.2.2.2.1];exact hk) bq).trans (K8.2.2.2.2 k bq)
 have F9:=F7.block (aB (p+1) F7.lt (by omega));have R9:=R7.block (aB w.heap.size R7.lt (by omega));have T9:=Bm T7 (aB g (by omega) (by omega));have s9:W.heap.size<=w9.heap.size:=by have:=K9.size;rw[K8.2.2.2.1]at this;omega
 have L9:=L7.trans ((K8.below (by omega:w.heap.size<=p)).trans (K9.below (by omega) (by rw[K8.2.2.2.1];omega)));have hf:=F9.fr 1;have cf:=F9.c1;have cb:=P9.c2;clear P8 K8 K9 aB F7 R7 T7 L7 s7 cF;go_upto_block 1 with fail
 obtain⟨ak,X⟩: ∃ak,ak=w9.setCell ⟨p+1,1,none⟩ (ja jb v):=⟨_,rfl⟩
 rw[<-X];have J: ∀k,k≠p+1->ak.heap[k]?=w9.heap[k]?:=fun k hk=>by rw[X];exact Below.heap_setCell _ _ _ _ hk
 have aU:=Lh (show AF (p+1) n v (jd none 0 0) ak from by rw[X];exact F9.rev);have bR:=Lh (P9.other (J p (by omega)) (J g (by omega)));have bh:=Lh (R9.block (J w.heap.size (by omega)));have bW:=Lh (Bm T9 (J g (by omega)));have bD:Hid (Below w.heap.size w ak):=Lh (by rw[X];exact L9.setCell (by simp;omega) _);have aS:Hid (p+2<=ak.heap.size):=Lh aU.o.lt;clear hf cf cb X J F9 P9 R9 T9 L9 s9;obtain⟨i0,hi,ck,cG,cB⟩:=info_parts Lv;have cM:p+1≠g:=by omega
 have da:p+1≠p:=by omega
 have cd:3<p:=by omega
 have aL:g<p:=ac;go_loopg [] es.length (fun j wx=> ∃(V:Option Addr) (cu:Nat) (ts:List (Ev × Value × Value)) (e2:List Ev),Hid (e2.length=j)/\Hid (ts.map (·.1)++e2=es)/\Hid (∃o cap,Bl p g o cap (FC e2 z.data.toList) z false wx)/\Hid (AF (p+1) n v (jd V ts.length cu) wx)/\Hid (Av (p+2) wx (jd V ts.length cu) ts)/\Hid (AF w.heap.size ⟨#[]⟩ 0 (jd none 0 0) wx)/\Hid (BW wx (some ⟨g,0,none⟩) xs)/\Hid (Below w.heap.size w wx)/\p+2<=wx.heap.size)
 case atStart=>exact⟨none,0,[],es,Lh rfl,Lh rfl,Lh ⟨_,_,by rw[<-bJ.o];exact bR.o⟩,aU,Lh (Av.nil _ _),bh,bW,bD,aS.o⟩
 case round=>
  clear aU bR bh bW bD aS;obtain⟨V,cu,ts,e2,HJ,ar,HP,HF,HT,HR,bt,aj,aX⟩:=hrel;have bl:wr.cell? ⟨p,2,none⟩=some (je false):=by obtain⟨o,cap,h⟩:=HP.o;exact h.c2
  cases gk with
  | zero=>
   have cq:e2=[]:=List.eq_nil_of_length_eq_zero HJ.o;subst cq;have aq:=Lh (show ts.map (·.1)=es from by have h:=ar.o;rwa [List.append_nil]at h);obtain⟨o,cap2,aR⟩:=HP.o;have bQ:=Lh aR;clear aR ar HJ HP;have bT:Lib.hasPrefix (str [69,78,68,58,86,67,65,76,69,78,68,65,82]).data.toList (⟨#[66,69,71,73,78,58,86,69,86,69,78,84]⟩:ByteArray).data.toList=false:=rfl;have HC:Hid (Calls Tryz.prog 72 #[jf (some ⟨p,0,none⟩),jc ⟨#[66,69,71,73,78,58,86,69,86,69,78,84]⟩] wr fun e w'=> ∃q,e=jh (jg #[jc q,je false])/\w'=wr):=Lh (by
    have h1:=Dv p g o cap2 _ _ z ⟨#[66,69,71,73,78,58,86,69,86,69,78,84]⟩ false wr bQ.o;rw[bT]at h1;exact h1.mono fun e w' hh=>⟨_,hh⟩)
   go_wp2_with fail;refine HC.o.mono ?_;rintro e wq ⟨q,rfl,hx⟩;rw[hx];clear hx wq HC bT;obtain⟨pa,ca,b6, -,aO⟩:=HT.o.seg;cases b6;have cQ:ts.length<=256:=by have h:=congrArg List.length aq.o;rw[xe]at h;omega
   have aP:Hid (GQ wr.heap.size wr V es):=Lh (by rw[<-aq.o];exact aO.evs);clear aO;have HV:Hid (∀W,Below wr.heap.size wr W->Calls Tryz.prog 74 #[.agg #[jc n,ja jb v,jd V ts.length cu]] W fun e w'=>e=jh (ja jb 0)/\Below W.heap.size W w'):=Lh (fun W hW=>by
    have h:=Gq n v es V cu wr.heap.size W hW.size (aP.o.below hW) (by omega);rw[bm.o,<-aq.o,xe]at h;exact h)
   have cD:Hid (∀W,Below wr.heap.size wr W->Calls Tryz.prog 76 #[.agg #[jc n,ja jb v,jd V ts.length cu],jc z] W fun e w'=> ∃g cap,e=jh (jd (some ⟨g,0,none⟩) xs.length cap)/\BW w' (some ⟨g,0,none⟩) xs/\Below W.heap.size W w'):=Lh (fun W hW=>by
    have h:=FQ n v V cu es z wr.heap.size W hW.size (aP.o.below hW) bm.o HZ.o ((bP.o.below (by omega) aj.o).below (by omega) hW) ((cg.o.below H6.o aj.o).below (by omega) hW) (by have:=hW.size;omega);rw[show es.length=ts.length from by rw[<-aq.o,xe]]at h;refine h.mono ?_;rintro e w' ⟨g2,cap2,rfl,h1,_,_,_,h2⟩;refine⟨g2,cap2,?_,by rw[ba.o];exact h1,h2⟩;rw[ba.o,xe])
   have al:=HF.o.c0;have aw:=HF.o.c1;have am:=HF.o.c2;go_wp2_with fail;refine(HV.o _ (Below.refl _ _)).mono ?_;rintro e cy ⟨rfl,O⟩;have aA:=HF.o.block (O.block _ HF.o.lt);clear al aw am;have al:=aA.c0;have aw:=aA.c1;have am:=aA.c2;go_wp2_with fail;refine(cD.o cy O).mono ?_;rintro e bf ⟨g2,cap2,rfl,bo,aQ⟩;have af:=Lh (O.trans (aQ.mono O.size));have bO:=Lh bo;have cL:=HF.o.block (af.o.block _ HF.o.lt);have bC:=Lh (Bm bt.o (af.o.block g (by omega)));clear al aw am aA O aQ bo;go_wp2_with fail;refine(KW _ _ _ _ _ _ xs xs rfl rfl (by omega) (by omega) bf bO.o bC.o).mono ?_;rintro e ai ⟨rfl,q2,hw⟩;rw[hw,show decide (xs=xs)=true from decide_eq_true rfl];clear hw ai;have ab:Hid (Below wr.heap.size wr (bf.drewN q2)):=Lh (af.o.trans ⟨rfl,rfl,rfl,xd _,fun k hk=>rfl⟩);obtain⟨ai,hw⟩: ∃ai,ai=bf.drewN q2:=⟨_,rfl⟩
   rw[<-hw]at ab ⊢;clear hw cL bC bO af;have aW:=HF.o.block (ab.o.block _ HF.o.lt);have M:=HR.o.block (ab.o.block _ HR.o.lt);have cH:=HT.o.made ab.o;have al:=aW.c0;have aw:=aW.c1;have am:=aW.c2;have aV:=M.c0;have aT:=M.c1;have a6:=M.c2;have bY:=M.fr 0;have cI:=M.fr 1;have b4:=M.fr 2;go_wp2_with fail;obtain⟨au,hw⟩: ∃au,au=((ai.setCell ⟨w.heap.size,0,none⟩ (jc n)).setCell ⟨w.heap.size,1,none⟩ (ja jb v)).setCell ⟨w.heap.size,2,none⟩ (jd V ts.length cu):=⟨_,rfl⟩
   rw[<-hw];have bc:AF w.heap.size n v (jd V ts.length cu) au:=by rw[hw];exact M.name.rev.evs
   have cO:Below w.heap.size w au:=by
    rw[hw];exact(((aj.o.trans (ab.o.mono (by omega))).setCell (xd _) _).setCell (xd _) _).setCell (xd _) _
   have co:Av (p+2) au (jd V ts.length cu) ts:=by
    rw[hw];exact((cH.set (show Af w.heap.size _ 41 ai from M) (by decide) (by decide) 0 _).set (show Af w.heap.size _ 41 _ from M.name) (by decide) (by decide) 1 _).set (show Af w.heap.size _ 41 _ from M.name.rev) (by decide) (by decide) 2 _
   clear hw al aw am aV aT a6 bY cI b4;have aV:=bc.c0;have aT:=bc.c1;have a6:=bc.c2;refine bodyPost_ret (v:=jg #[.agg #[jc n,ja jb v,jd V ts.length cu],ja jb 0]) (by simp[results,Tryz.results43,go_sem,aV,aT,a6]) rfl ?_;exact⟨V,cu,ts,aq.o,rfl,co.mono (by omega),cO⟩
  | succ j=>
   obtain⟨ev,e3,rfl⟩: ∃ev e3,e2=ev::e3:=by
    cases e2 with
    | nil=>exact absurd HJ.o (by simp)
    | cons a r=>exact⟨a,r,rfl⟩
   have ay:ev∈es:=by rw[<-ar.o];simp
   have db:ts.length<=256:=by have h:=congrArg List.length ar.o;rw[xi,xe]at h;omega
   have cc:=Lh (cN.o ev ay).2;have bk:=Lh (cn.o ev ay);clear ay;have bB:p<wr.heap.size:=by omega
   have aI:p<=wr.heap.size:=by omega
   have bI:=Lh (show g<wr.heap.size by omega);have bV:=Lh (bP.o.below (by omega) aj.o);have bx:=Lh ((aj.o.cell (p:=⟨0,0,none⟩) (show 0<w.heap.size by omega)).trans HM.o);obtain⟨L1,hl1⟩: ∃q,q=FC (ev::e3) z.data.toList:=⟨_,rfl⟩
   obtain⟨L2,hl2⟩: ∃q,q=FC e3 z.data.toList:=⟨_,rfl⟩
   have b7:=Lh (show L1=(Ao ev z.data.toList).map str++L2 from by rw[hl1,hl2];exact tail_cons _ _ _);have b3:=Lh hl2;obtain⟨lq,aZ⟩:=Pz ev e3 z.data.toList;rw[<-hl1]at HP aZ;have cm:=Lh aZ;clear hl1 hl2 aZ;have HC:Hid (Calls Tryz.prog 72 #[jf (some ⟨p,0,none⟩),jc ⟨#[66,69,71,73,78,58,86,69,86,69,78,84]⟩] wr fun e w'=> ∃q,e=jh (jg #[jc q,je true])/\w'=wr):=Lh (by
    obtain⟨o,cap,h⟩:=HP.o;rw[cm.o]at h;have h1:=Dv p g o cap _ _ z ⟨#[66,69,71,73,78,58,86,69,86,69,78,84]⟩ false wr h;rw[show(str (Jg++[])).data.toList=Jg++[]from rfl]at h1;refine h1.mono ?_;rintro e w' ⟨rfl,rfl⟩;exact⟨_,by rw[show Lib.hasPrefix (Jg++[]) (⟨#[66,69,71,73,78,58,86,69,86,69,78,84]⟩:ByteArray).data.toList=true from BE Jg []],rfl⟩)
   go_wp2_with fail;refine HC.o.mono ?_;rintro e wq ⟨q,rfl,hx⟩;rw[hx];clear hx wq HC bl;go_upto_region 19 with(fail)
   refine Dj 5 (by kernel_rfl) (fun F a x=> ∃(l0 l1 l2 l3 l4:Bool) (Z U Y aa R:Value),F=#[l0,l1,l2,l3,l4,false,false,false]/\a=⟨(jc s::jc z::undef::undef::jf (some ⟨w.heap.size,0,none⟩)::ja jb 0::jd (some ⟨g,0,none⟩) xs.length cap::je true::jf (some ⟨p,0,none⟩)::jf (some ⟨p+1,0,none⟩)::jc q::je true::jc s::ja jb s.size::je false::undef::jc z::je true::je false::undef::jg #[jd (some ⟨g,0,none⟩) ys.length cap,je true]::jc s::jg #[jd (some ⟨g,0,none⟩) ys.length cap,je true]::jd (some ⟨g,0,none⟩) ys.length cap::je true::je true::je false::undef::jd (some ⟨g,0,none⟩) ys.length cap::jd (some ⟨g,0,none⟩) xs.length cap::jd (some ⟨g,0,none⟩) xs.length cap::jc z::.agg #[jd (some ⟨g,0,none⟩) xs.length cap,jc z,je false]::jf (some ⟨p,0,none⟩)::jf (some ⟨p,0,none⟩)::jc (str [])::jf (some ⟨p,0,none⟩)::jc (str [50,46,48])::jf (some ⟨p,0,none⟩)::jc (str [45,47,47,116,105,109,101,116,97,98,108,101,47,47,69,78])::jf (some ⟨p,0,none⟩)::jc n::jf (some ⟨p+1,0,none⟩)::jf (some ⟨p,0,none⟩)::jf (some ⟨p,0,none⟩)::jc (str (Lib.decDigits v.toNat))::ja jb v::jf (some ⟨p+1,1,none⟩)::jf (some ⟨p,0,none⟩)::jf (some ⟨p,0,none⟩)::jf (some ⟨p,2,none⟩)::je false::je true::jg #[jc q,je true]::jf (some ⟨p,0,none⟩)::jg #[jc q,je true]::jc q::je true::je true::je false::Z::U::Y::aa::R::u65::u66::undef::undef::undef::undef::undef::undef::undef::undef::undef::undef::undef::undef::undef::undef::undef::undef::undef::undef::undef::[]).toArray,[]⟩/\Hid (l0=true->Z=jf (some ⟨p+1,2,none⟩))/\Hid (l1=true->U=jd V ts.length cu)/\Hid (l2=true->Y=jf (some ⟨p,0,none⟩))/\Hid (l3=true->l4=false-> ∃(pv:Option Addr) (cv:Nat) (pw:Option Addr) (cw:Nat),aa=AW ev (jd pv ev.days.ex.length cv) (jd pw ev.days.xt.length cw)/\Ah wr.heap.size x (jd pv ev.days.ex.length cv) ev.days.ex/\Ah wr.heap.size x (jd pw ev.days.xt.length cw) ev.days.xt)/\Hid (l4=true-> ∃(pv:Option Addr) (cv:Nat) (pw:Option Addr) (cw:Nat) (gg:Nat),R=jd (some ⟨gg,0,none⟩) 1 1/\wr.heap.size<=gg/\Af gg (Ae ev (jd pv ev.days.ex.length cv) (jd pw ev.days.xt.length cw)) 61 x/\Ah wr.heap.size x (jd pv ev.days.ex.length cv) ev.days.ex/\Ah wr.heap.size x (jd pw ev.days.xt.length cw) ev.days.xt)/\Hid (Q5 p g z L1 L2 l3 wr x)) (by decide) (by kernel_rfl) (by kernel_rfl) ?_ ?_ ?_ ?_
   ·exact⟨false,false,false,false,false,_,_,_,_,_,rfl,rfl,Lh (fun h=>by cases h),Lh (fun h=>by cases h),Lh (fun h=>by cases h),Lh (fun h=>by cases h),Lh (fun h=>by cases h),Lh (Q5.start HP.o)⟩
   ·intro F a x hj;obtain⟨l0,hj⟩:=hj;obtain⟨l1,hj⟩:=hj;obtain⟨l2,hj⟩:=hj;obtain⟨l3,hj⟩:=hj;obtain⟨l4,hj⟩:=hj;obtain⟨Z,hj⟩:=hj;obtain⟨U,hj⟩:=hj;obtain⟨Y,hj⟩:=hj;obtain⟨aa,hj⟩:=hj;obtain⟨R,hj⟩:=hj;obtain⟨h1, -⟩:=hj;subst h1;exact⟨rfl,fun k h1 h2=>by(have h2:k<8:=h2);rcases(show k=5∨k=6∨k=7 by omega)with rfl | rfl | rfl<;>rfl⟩
   ·intro F a x i hj cr hu D;obtain⟨l0,hj⟩:=hj;obtain⟨l1,hj⟩:=hj;obtain⟨l2,hj⟩:=hj;obtain⟨l3,hj⟩:=hj;obtain⟨l4,hj⟩:=hj;obtain⟨Z,hj⟩:=hj;obtain⟨U,hj⟩:=hj;obtain⟨Y,hj⟩:=hj;obtain⟨aa,hj⟩:=hj;obtain⟨R,hj⟩:=hj;obtain⟨be,hj⟩:=hj;obtain⟨av,hj⟩:=hj;obtain⟨H0,hj⟩:=hj;obtain⟨H1,hj⟩:=hj;obtain⟨H2,hj⟩:=hj;obtain⟨H3,hj⟩:=hj;obtain⟨H4,hj⟩:=hj;have HS:=hj;clear hj;subst be;subst av;rcases(show ∀i:Nat,i<5->(i=0∨i=1∨i=2∨i=3∨i=4)by decide) i cr with rfl | rfl | rfl | rfl | rfl
    ·have D:=D _ rfl;clear D;have hu:l0=false:=hu;refine AJ rfl fun QQ T=>?_
     have H:=Lh T;clear T;simp only[xb,xa];go_wp2_with fail;exact H.o _ _ ⟨true,l1,l2,l3,l4,_,_,_,_,_,rfl,rfl,Lh (fun _=>rfl),H1,H2,H3,H4,HS⟩
    ·have D:=D _ rfl;have q0:l0=true:=D ⟨0,Go.Ground.data⟩ (by simp) rfl;clear D;have hu:l1=false:=hu;have e0:=(H0.o q0)
     subst e0;clear H0;have hc:=(HS.o.feed HF.o).c2;refine AJ rfl fun QQ T=>?_
     have H:=Lh T;clear T;simp only[xb,xa,xc];go_wp2_with fail;exact H.o _ _ ⟨l0,true,l2,l3,l4,_,_,_,_,_,rfl,rfl,Lh (fun _=>rfl),Lh (fun _=>rfl),H2,H3,H4,HS⟩
    ·have D:=D _ rfl;clear D;have hu:l2=false:=hu;refine AJ rfl fun QQ T=>?_
     have H:=Lh T;clear T;simp only[xb,xa,xc];go_wp2_with fail;exact H.o _ _ ⟨l0,l1,true,l3,l4,_,_,_,_,_,rfl,rfl,H0,H1,Lh (fun _=>rfl),H3,H4,HS⟩
    ·have D:=D _ rfl;have q2:l2=true:=D ⟨2,Go.Ground.data⟩ (by simp) rfl;clear D;have hu:l3=false:=hu;have e2:=(H2.o q2)
     subst e2;clear H2;refine AJ rfl fun QQ T=>?_
     have H:=Lh T;clear T;simp only[xb,xa,xc];go_wp2_with fail;refine(HS.o.ev hu b7.o bI.o cd bV.o bx.o cc.o cz hz bB).mono ?_;rintro e x1 ⟨v,v2,rfl,hX,hY,bF,bG⟩;have hk:=Kept.but bG bB;have hX:Ah wr.heap.size x1 v ev.days.ex:=Ab hX HS.o.but.size;have hY:Ah wr.heap.size x1 v2 ev.days.xt:=Ab hY HS.o.but.size;obtain⟨pv,cv,hv⟩:=hX.slice;obtain⟨pw,cw,hw⟩:=hY.slice;subst hv;subst hw;have bg:=Lh hX;have a8:=Lh hY;have b1:=Lh bF;clear hX hY bF bG;go_wp2_with fail;exact H.o _ _ ⟨l0,l1,l2,true,l4,_,_,_,_,_,rfl,rfl,H0,H1,Lh (fun _=>rfl),Lh (fun _ _=>⟨pv,cv,pw,cw,rfl,bg.o,a8.o⟩),Lh (fun h=>(by obtain⟨pv,cv,pw,cw,gg,e,c0,c1,c2,c3⟩:=H4.o h;exact⟨pv,cv,pw,cw,gg,e,c0,(hk _ _ _ c0 c1),(BR c2 hk),(BR c3 hk)⟩)),b1⟩
    ·have D:=D _ rfl;have q3:l3=true:=D ⟨3,Go.Ground.data⟩ (by simp) rfl;clear D;have hu:l4=false:=hu;obtain⟨b8,bZ,cA,cx,e3,aH,aM⟩:=(H3.o q3 hu)
     subst e3;clear H3;unfold AW Ae;have bg:=Lh aH;have a8:=Lh aM;clear aH aM;refine AJ rfl fun QQ T=>?_
     have H:=Lh T;clear T;simp only[xb,xa,xc];go_wp2_with fail;exact H.o _ _ ⟨l0,l1,l2,l3,true,_,_,_,_,_,rfl,rfl,H0,H1,H2,Lh (fun _ h=>by cases h),Lh (fun _=>⟨b8,bZ,cA,cx,_,rfl,HS.o.but.size,Af.new x _ _,xj bg.o _,xj a8.o _⟩),Lh (HS.o.alloc _ bI.o)⟩
   ·intro F a x hj hall;obtain⟨l0,hj⟩:=hj;obtain⟨l1,hj⟩:=hj;obtain⟨l2,hj⟩:=hj;obtain⟨l3,hj⟩:=hj;obtain⟨l4,hj⟩:=hj;obtain⟨Z,hj⟩:=hj;obtain⟨U,hj⟩:=hj;obtain⟨Y,hj⟩:=hj;obtain⟨aa,hj⟩:=hj;obtain⟨R,hj⟩:=hj;obtain⟨be,hj⟩:=hj;obtain⟨av,hj⟩:=hj;obtain⟨H0,hj⟩:=hj;obtain⟨H1,hj⟩:=hj;obtain⟨H2,hj⟩:=hj;obtain⟨H3,hj⟩:=hj;obtain⟨H4,hj⟩:=hj;have HS:=hj;clear hj;subst be;subst av;have q1:l1=true:=hall 1 (by omega);have q3:l3=true:=hall 3 (by omega);have q4:l4=true:=hall 4 (by omega);clear hall;have e1:=(H1.o q1)
    subst e1;obtain⟨ch,cj,cJ,cl,b2,e4,bp,aN,aG,aK⟩:=(H4.o q4)
    subst e4;have ah:=Lh (HT.o.butT (Nat.lt_add_of_pos_right (by decide)) HS.o.but);have bE:=HS.o.feed HF.o;have br:=HS.o.but.size;have ce:p+2<=x.heap.size:=xf aX br;have bL:Cf (p+2) x (ev,(jd ch ev.days.ex.length cj),(jd cJ ev.days.xt.length cl)):=⟨bk.o,Ab aG aX,Ab aK aX⟩
    obtain⟨o1,cP,bw⟩: ∃o cap,Bl p g o cap L2 z false x:=by have h:=HS.o.par;rw[q3]at h;exact h
    have bz:=HS.o.but;clear aG aK;refine L8 (fun a x=> ∃(Z U Y aa R bA bU:Value),a=⟨(jc s::jc z::undef::undef::jf (some ⟨w.heap.size,0,none⟩)::ja jb 0::jd (some ⟨g,0,none⟩) xs.length cap::je true::jf (some ⟨p,0,none⟩)::jf (some ⟨p+1,0,none⟩)::jc q::je true::jc s::ja jb s.size::je false::undef::jc z::je true::je false::undef::jg #[jd (some ⟨g,0,none⟩) ys.length cap,je true]::jc s::jg #[jd (some ⟨g,0,none⟩) ys.length cap,je true]::jd (some ⟨g,0,none⟩) ys.length cap::je true::je true::je false::undef::jd (some ⟨g,0,none⟩) ys.length cap::jd (some ⟨g,0,none⟩) xs.length cap::jd (some ⟨g,0,none⟩) xs.length cap::jc z::.agg #[jd (some ⟨g,0,none⟩) xs.length cap,jc z,je false]::jf (some ⟨p,0,none⟩)::jf (some ⟨p,0,none⟩)::jc (str [])::jf (some ⟨p,0,none⟩)::jc (str [50,46,48])::jf (some ⟨p,0,none⟩)::jc (str [45,47,47,116,105,109,101,116,97,98,108,101,47,47,69,78])::jf (some ⟨p,0,none⟩)::jc n::jf (some ⟨p+1,0,none⟩)::jf (some ⟨p,0,none⟩)::jf (some ⟨p,0,none⟩)::jc (str (Lib.decDigits v.toNat))::ja jb v::jf (some ⟨p+1,1,none⟩)::jf (some ⟨p,0,none⟩)::jf (some ⟨p,0,none⟩)::jf (some ⟨p,2,none⟩)::je false::je true::jg #[jc q,je true]::jf (some ⟨p,0,none⟩)::jg #[jc q,je true]::jc q::je true::je true::je false::Z::U::Y::aa::R::bA::bU::undef::undef::undef::undef::undef::undef::undef::undef::undef::undef::undef::undef::undef::undef::undef::undef::undef::undef::undef::[]).toArray,[]⟩/\ ∃(az:Option Addr) (aC:Nat) (t:Ev × Value × Value),t.1=ev/\AF (p+1) n v (jd az (ts.length+1) aC) x/\Av (p+2) x (jd az (ts.length+1) aC) (ts++[t])/\(∃o cap,Bl p g o cap L2 z false x)/\Below p wr x/\p+2<=x.heap.size) ?_ fun QQ T=>?_
    ·intro a x A;obtain⟨Z,A⟩:=A;obtain⟨U,A⟩:=A;obtain⟨Y,A⟩:=A;obtain⟨aa,A⟩:=A;obtain⟨R,A⟩:=A;obtain⟨bA,A⟩:=A;obtain⟨bU,A⟩:=A;obtain⟨av,A⟩:=A;subst av;obtain⟨az,aC,t,p0,p1,p2,p3,p4,p5⟩:=A;go_wp2_with fail;go_roundg j
     case measure=>omega
     case rel=>
      refine⟨az,aC,ts++[t],e3,Lh (by have h:=HJ.o;simpa using h),Lh (by rw[<-ar.o,xg,xl];simp[p0]),Lh (by rw[<-b3.o];exact p3),Lh (by rw[xi];exact p1),Lh (by rw[xi];exact p2),Lh (HR.o.block (p4.block _ (by omega))),Lh (Bm bt.o (p4.block g aL)),Lh (aj.o.trans (p4.mono (by omega))),p5⟩
    have H:=Lh T;clear T;simp only[List.drop_succ_cons,List.drop_zero];go_wp2_with (at_builtin;refine wpList_append_own_at _ rfl (.tmp 61) (.tmp 64) 39 rfl (p+2) 61 i0 _ 13 160 Tryz.underlying39 hi ck cG cB rfl (by decide) _ _ _ rfl ah.o.row ⟨b2,0,none⟩ 1 1 _ rfl rfl (Bd aN) (CB _ _ _ _ _ _ _) (by unfold maxLen;omega) (by omega) (by omega) ?_);intro v' x8 ae E _ b5;obtain⟨p8,q8,ci⟩:=AM ae;subst ci;have T8:=ah.o.snoc bL E ae;have F8:=bE.grownT ah.o.row (Nat.lt_succ_self _) E;have P8:=bw.grownT ah.o.row (by omega) aL E;have K8:=Ak (bz.below (xd p) aI) ah.o.row (by omega) (xf aI br) E;have hc:=F8.c2;have cR:=F8.fr 2;have b0:=Lh (F8.evs (ev':=jd p8 (ts.length+1) q8));have ct:=Lh (T8.set (show Af (p+1) _ 41 x8 from F8) (by decide) (by decide) 2 (jd p8 (ts.length+1) q8));have bX:=Lh (P8.set (show p+1≠p by omega) cM 2 (jd p8 (ts.length+1) q8));have b9:=Lh (K8.setCell (p:=⟨p+1,2,none⟩) (show p<=p+1 by omega) (jd p8 (ts.length+1) q8));have cE:=Lh (show p+2<=x8.heap.size from xf ce E.size);clear E ae b5 T8 F8 P8 K8 bE ah bL bw bz bp aN;go_wp2_with fail;exact H.o _ _ ⟨_,_,_,_,_,_,_,rfl,_,_,(ev,_,_),rfl,b0.o,ct.o,⟨_,_,bX.o⟩,b9.o,by simpa[World.setCell]using cE.o⟩
