/- The days of any line, read: the program's (*parser).days on any text: a list of days, or the parser is bad. The parser's event (function 108) on any lines: some event, some lines left. -/
import Derived.Test.YtegjgjgoodekiaaGreatDoorQk12
import Derived.Test.YtegjgjgoodekiaaGreatDoorQk13
import Derived.Test.YtegjgjgoodekiaaGreatDoorEvP
open Go.Value renaming int->ja,string->jc,slice->jd,bool->je,pointer->jf,tuple->jg
open Go.IntKind renaming i64->jb
open Go.Ending renaming returned->jh
open Go.Obj renaming cells->ji
open List renaming getElem?_cons_zero->xa,getElem?_cons_succ->xb,getElem?_toArray->xc,length_append->xi
open Nat renaming le_of_lt->xd,lt_of_lt_of_le->xe,le_refl->xf,zero_le->xg
open Go.World.ownsRow renaming alloc->xh
set_option maxRecDepth 100000
set_option maxHeartbeats 40000000
namespace Go.Proofs.YtegjgjgoodekiaaGreatDoor
open Go.RowKit
def Dg(b g o cap:Nat)(xs:List ByteArray)(z:ByteArray)(bad:Bool)(w x:World):Prop:=∃c:Bool,(bad=true->c=true)/\Bl b g o cap xs z c x/\AO b w.heap.size w x
def PB(b g o cap:Nat)(xs:List ByteArray)(z:ByteArray)(bad:Bool)(x:World):Prop:=∃c:Bool,(bad=true->c=true)/\Bl b g o cap xs z c x
theorem PB.drew{b g o cap:Nat}{xs:List ByteArray}{z:ByteArray}{bad:Bool}(w:World)(hg:g<w.heap.size)(h:PB b g o cap xs z bad w):PB b g o cap xs z bad w.drew:=by
 obtain⟨c,h,k⟩:=h;exact⟨c,h,k.below (Ac (Below.refl _ w)) hg⟩
theorem Dg.mk{b g o cap:Nat}{xs:List ByteArray}{z:ByteArray}{bad:Bool}{w x:World}(h:gI (PB b g o cap xs z bad) b g w x)(hg:g<w.heap.size)(hp:Bl b g o cap xs z bad w):Dg b g o cap xs z bad w x:=by
 obtain⟨c,A,D⟩:=h.2 hg ⟨bad,fun h=>h,hp⟩;exact⟨c,A,D,h.1⟩
theorem Dg.to{b g o cap:Nat}{xs:List ByteArray}{z:ByteArray}{bad:Bool}{w x y:World}(h:Dg b g o cap xs z bad w y)(hb:AO b x.heap.size x y):gI (PB b g o cap xs z bad) b g x y:=by
 obtain⟨c,A,D,_⟩:=h;exact⟨hb,fun _ _=>⟨c,A,D⟩⟩
theorem Dg.below{b g o cap:Nat}{xs:List ByteArray}{z:ByteArray}{bad:Bool}{w x:World}(h:Dg b g o cap xs z bad w x)(hb:b<=w.heap.size):Below b w x:=by
 obtain⟨c,_,hp,hk⟩:=h;exact hk.below (xf b) hb
theorem Dg.num{b g o cap:Nat}{xs:List ByteArray}{z:ByteArray}{bad:Bool}{w x:World}(h:Dg b g o cap xs z bad w x)(s:ByteArray)(hg:g<w.heap.size)(hs:s.size<=281474976710656)(E:Gk x):
  Calls Tryz.prog 71 #[jf (some ⟨b,0,none⟩),jc s] x fun e x1=> ∃n:Int,e=jh (ja jb n)/\Dg b g o cap xs z bad w x1/\AO b x.heap.size x x1:=by
 obtain⟨c,hc,hp,hk⟩:=h;refine(Ga b g o cap xs z s c x hp (xe hg hk.size) hs E).mono ?_;rintro e x1 ⟨n,c2,rfl,D,hp2,A⟩;exact⟨n,rfl,⟨c2,fun h=>D (hc h),hp2,Ba hk A hk.size⟩,A⟩
def Wv(b g o cap:Nat)(xs:List ByteArray)(z s:ByteArray)(bad:Bool)(w:World)(e:Ending)(w':World):Prop:=∃(v:Value) (ds:List Int) (st:Int) (c:Bool),e=jh (jg #[v,ja jb st])/\Ah w.heap.size w' v ds/\ds.length<=s.size+1/\(bad=true->c=true)/\(c=false->ds≠[])/\Bl b g o cap xs z c w'/\AO b w.heap.size w w'
theorem count_le(s:ByteArray):Lib.countB s ⟨#[44]⟩<=s.size:=Lib.countB_le ⟨#[44]⟩ (by decide) s.size s (xf _)
theorem SK(b g o cap:Nat)(xs:List ByteArray)(z s:ByteArray)(bad:Bool)(m:Int)(w:World)(aa:Bl b g o cap xs z bad w)(hg:g<w.heap.size)(aB:3<b)(hL:CD w)(hE:Gk w)(hm:w.cell? ⟨0,0,none⟩=some (ja jb m))(hs:s.size<=262144):
  Calls Tryz.prog 102 #[jf (some ⟨b,0,none⟩),jc s] w (Wv b g o cap xs z s bad w):=by
 obtain⟨i0,hi,bf,bc,aV⟩:=info_parts Dy;have M:=aa.lt;have aI:=Lh (count_le s);have aD:=Lh (Lib.splitB_all ⟨#[44]⟩ (by decide) 0 (Lib.countB s ⟨#[44]⟩) s rfl);have ah:=Lh aa;have HL:=Lh hL;have HE:=Lh hE;clear aa hL hE;go_enter Tryz.func102,Tryz.ntmps102;go_wp2_with fail;refine(Tryz.strings_Split s ⟨#[44]⟩ m w (by omega) hm (by decide)).mono ?_;rintro e w1 ⟨rfl,hw⟩;obtain⟨ps,ap⟩: ∃ps,ps=Lib.splitB ⟨#[44]⟩ 0 (Lib.countB s ⟨#[44]⟩) s:=⟨_,rfl⟩
 rw[<-ap]at hw;obtain⟨n,hn⟩: ∃n,n=Lib.countB s ⟨#[44]⟩+1:=⟨_,rfl⟩
 have aP:=Lh (show ps.length=n from by rw[ap,hn];exact aD.o);have bM:n<=s.size+1:=by rw[hn];have:=aI.o;omega
 have bH:0<n:=by omega
 rw[<-hn];obtain⟨G,hG⟩: ∃G,G=w.heap.size:=⟨_,rfl⟩
 have aG:=Lh (show Af G (ps.map Value.string).toArray 9 w1 from by rw[hw,hG];exact Af.new w _ 9);have hb1:Below w.heap.size w w1:=by rw[hw];exact Aa w _
 have aM:=Lh (ah.o.below hb1 hg);have aN:=Lh (AO.of_below (b:=b) hb1);have bD:b<G:=by omega
 rw[<-hG];clear hw hb1 aD aI ah ap hn hG;go_wp2_with fail;go_loopw [4,5,13] (fun v t i wr=> ∃(k:Nat) (ds:List Int) (st:Int) (bd:Bool),i=ja jb k/\k<=n/\t=ja jb st/\Hid (ds.length=k)/\Hid (bad=true->bd=true)/\Hid (Ah w.heap.size wr v ds)/\Hid (Af G (ps.map Value.string).toArray 9 wr)/\Hid (Bl b g o cap xs z bd wr)/\Hid (AO b w.heap.size w wr)) (fun _ _ i _=>n - (intOf i).toNat)
 case atStart=>exact⟨0,[],0,bad,rfl,xg _,rfl,Lh rfl,Lh (fun h=>h),Lh (Ah.nil _ _),aG,aM,aN⟩
 case round=>
  clear aG aM aN;obtain⟨k,ds,st,bz,rfl,hk,rfl,V,aF,HO,av,HP,HK⟩:=hrel;have a6:=HK.o.size;by_cases aQ:k<n
  ·have hx:k<ps.length:=by rw[aP.o];exact aQ
   have aC:(k:Int)<n:=by omega
   have bv:=V.o;obtain⟨q,hq⟩: ∃q,q=ps[k]:=⟨_,rfl⟩
   have hcell:wr.cell? ⟨G,k,none⟩=some (jc q):=by rw[av.o.cell k,hq];simp[hx]
   clear hq;by_cases bi:q.size=15
   ·have aR:((q.size:Int) !=15)=false:=by simp;omega
    have T:=Lh (show b<wr.heap.size from by omega);have A:=Lh (show g<wr.heap.size from by omega);have D:=HP;have U:=Lh (HE.o.below (by omega) (HK.o.below (xf b) (xd M)));have bg:=Lh (HL.o.below aB (HK.o.below (xf b) (xd M)));go_upto_region 7 with(fail);refine AH (GR.inv (I:=PB b g o cap xs z bz) (b:=b) (g:=g) PB.drew) 17 [gE _,gE _,gE _,fun _ u x=> ∃(n:Int),u=ja jb n,gE _,gE _,gE _,fun _ u x=> ∃(n:Int),u=ja jb n,gE _,gE _,gE _,fun _ u x=> ∃(n:Int),u=ja jb n,fun _ u x=> ∃(d:Int) (c:Int),u=jg #[ja jb d,ja jb c],fun _ u x=> ∃(d:Int) (c:Int),u=jg #[ja jb d,ja jb c],fun _ u x=> ∃(n:Int),u=ja jb n,fun _ u x=> ∃(n:Int),u=ja jb n,fun _ u x=> ∃(n:Int),u=ja jb n] rfl EA ⟨qE,qE,qE,by
     intro v x J h Y K;have H:=Lh (Dg.mk J A.o D.o);simp only[A2,A1]at h;obtain⟨⟨_,e0,_⟩,⟨_,e2,_⟩, -⟩:=h;simp only[e0,e2]at K ⊢;go_wp2_with fail;refine(H.o.num (q.extract 0 4) A.o (by rw[Au q 0 4 (by omega)];decide) (U.o.below (by omega) (H.o.below (xd T.o)))).mono ?_;rintro y1 x1 ⟨nn,rfl,E,hb1⟩;have O:=E.to hb1;clear hb1 E;go_wp2_with fail;exact K _ _ ⟨_,rfl⟩ (.inr O),
     qE,qE,qE,by
     intro v x J h Y K;have H:=Lh (Dg.mk J A.o D.o);simp only[A2,A1]at h;obtain⟨⟨_,e4,_⟩,⟨_,e6,_⟩, -⟩:=h;simp only[e4,e6]at K ⊢;go_wp2_with fail;refine(H.o.num (q.extract 4 6) A.o (by rw[Au q 4 6 (by omega)];decide) (U.o.below (by omega) (H.o.below (xd T.o)))).mono ?_;rintro y1 x1 ⟨nn,rfl,E,hb1⟩;have O:=E.to hb1;clear hb1 E;go_wp2_with fail;exact K _ _ ⟨_,rfl⟩ (.inr O),
     qE,qE,qE,by
     intro v x J h Y K;have H:=Lh (Dg.mk J A.o D.o);simp only[A2,A1]at h;obtain⟨⟨_,e8,_⟩,⟨_,aY,_⟩, -⟩:=h;simp only[e8,aY]at K ⊢;go_wp2_with fail;refine(H.o.num (q.extract 6 8) A.o (by rw[Au q 6 8 (by omega)];decide) (U.o.below (by omega) (H.o.below (xd T.o)))).mono ?_;rintro y1 x1 ⟨nn,rfl,E,hb1⟩;have O:=E.to hb1;clear hb1 E;go_wp2_with fail;exact K _ _ ⟨_,rfl⟩ (.inr O),
     by
     intro v x J h Y K;have H:=Lh (Dg.mk J A.o D.o);simp only[A2,A1]at h;obtain⟨⟨aX,⟨n3,e3⟩,z3⟩,⟨bs,⟨n7,e7⟩,z7⟩,⟨bj,⟨bq,ba⟩,bJ⟩, -⟩:=h;simp only[e3,e7,ba]at K ⊢;go_wp2_with fail;refine(Pf _ _ _ x (bg.o.below aB (H.o.below (xd T.o)))).mono ?_;rintro y1 x1 ⟨⟨d,c,rfl⟩,rfl⟩;go_wp2_with fail;exact K _ _ ⟨_,_,rfl⟩ (.inl rfl),
     by
     intro v x J h Y K;have H:=Lh (Dg.mk J A.o D.o);simp only[A2,A1]at h;obtain⟨⟨bk,⟨bo,bI,aZ⟩,bB⟩, -⟩:=h;simp only[aZ]at K ⊢;go_wp2_with fail;exact K _ _ ⟨_,_,rfl⟩ (.inl rfl),
     by
     intro v x J h Y K;have H:=Lh (Dg.mk J A.o D.o);simp only[A2,A1]at h;obtain⟨⟨aA,⟨be,c13,ax⟩,bh⟩, -⟩:=h;simp only[ax]at K ⊢;go_wp2_with fail;exact K _ _ ⟨_,rfl⟩ (.inl rfl),
     by
     intro v x J h Y K;have H:=Lh (Dg.mk J A.o D.o);simp only[A2,A1]at h;obtain⟨⟨aA,⟨be,c13,ax⟩,bh⟩, -⟩:=h;simp only[ax]at K ⊢;go_wp2_with fail;exact K _ _ ⟨_,rfl⟩ (.inl rfl),
     by
     intro v x J h Y K;have H:=Lh (Dg.mk J A.o D.o);simp only[A2,A1]at h;obtain⟨⟨bl,⟨bp,a8⟩,bG⟩, -⟩:=h;simp only[a8]at K ⊢;go_wp2_with fail;exact K _ _ ⟨_,rfl⟩ (.inl rfl),
     trivial⟩ ?_
    intro v x J h;have H:=Lh (Dg.mk J A.o D.o);simp only[Dt,Nat.reduceAdd]at h;obtain⟨-, -, -, -, -, -, -, -, -, -, -, -, -, -, -,⟨_,⟨c,aT⟩,_⟩,⟨_,⟨d,aW⟩,_⟩, -⟩:=h;refine DE fun Y Z=>?_
    have HQ:=Lh Z;clear Z;simp only[aT,aW,Ci];go_wp2_with fail;rw[HQ.o];refine Cm (fun x=>Dg b g o cap xs z bz wr x) H.o ?_;clear HQ H;intro x hS;have aq:=Lh hS;clear hS;go_upto_region 8 with(fail);go_cut [40,41,42,43,44,45,46,47,48,49,50] (fun bL bw bK bF bx bu bE bt bA bC bn wx=> ∃bd:Bool,Hid (bad=true->bd=true)/\Hid (Bl b g o cap xs z bd wx)/\Hid (Ah w.heap.size wx u4 ds)/\Hid (Af G (ps.map Value.string).toArray 9 wx)/\Hid (AO b w.heap.size w wx))
    case first=>
     obtain⟨bd,ae,hp,hk⟩:=aq.o;have ar:=Lh (show Ah w.heap.size x u4 ds from BR HO.o (Kept.but (B:=w.heap.size) hk M));have au:=Lh (av.o.but hk (by omega));have aj:=Lh (Ba HK.o hk a6);have c2:=hp.c2;have f2:=hp.f0 2;have ai:=Lh hp;have aS:=Lh ae;clear hp hk ae aq;cases bd
     ·by_cases ac:c=0
      ·have q0:(c !=0)=false:=by simp[ac]
       have on:=AN x b 2 (je false);have F:=Lh on;clear on ac;go_wp2_with fail;go_meet;exact⟨false,Lh (fun h=>aS.o (aF.o h)),Lh (ai.o.set2 false),Lh (BR ar.o (Kept.only (B:=w.heap.size) F.o M)),Lh (au.o.only F.o (by omega)),Lh (aj.o.trans F.o.but)⟩
      ·have q0:(c !=0)=true:=by simp[ac]
       have on:=AN x b 2 (je true);have F:=Lh on;clear on ac;go_wp2_with fail;go_meet;exact⟨true,Lh (fun _=>rfl),Lh (ai.o.set2 true),Lh (BR ar.o (Kept.only (B:=w.heap.size) F.o M)),Lh (au.o.only F.o (by omega)),Lh (aj.o.trans F.o.but)⟩
     ·have on:=AN x b 2 (je true);have F:=Lh on;clear on;go_wp2_with fail;go_meet;exact⟨true,Lh (fun _=>rfl),Lh (ai.o.set2 true),Lh (BR ar.o (Kept.only (B:=w.heap.size) F.o M)),Lh (au.o.only F.o (by omega)),Lh (aj.o.trans F.o.but)⟩
    case rest=>
     obtain⟨b8,aK,al,X,aw,af⟩:=hcut;obtain⟨W8,ay⟩: ∃q,q=wc:=⟨_,rfl⟩
     rw[<-ay]at al X aw af ⊢;clear ay;have aL:=af.o.size;clear HO av HP HK aq D;go_wp2_with (at_builtin;refine wpList_append_own_at _ rfl (.tmp 51) (.tmp 53) 22 rfl w.heap.size 3 i0 (ja jb 0) 1 8 Tryz.underlying22 hi bf bc aV rfl (by decide) _ _ _ rfl (xh X.o _) ⟨W8.heap.size,0,none⟩ 1 1 [ja jb d] rfl rfl (Bq _ _ _) (by intro u hu;simp at hu;subst hu;rfl) (by unfold maxLen;omega) (by omega) (by simp;omega) ?_);intro v9 W9 ag R _ aU;have aO:=Lh (show Ah w.heap.size W9 v9 (ds++[d])from Ah.snoc (by rw[V.o];exact ag));have aH:=Lh ((aw.o.alloc _).grown (xh X.o _) R (by decide));have az:=Lh (Kz al.o X.o M hg aL _ R);have ab:=Lh (D4 (af.o.trans (AO.of_below ((Aa W8 _).mono aL))) (xh X.o _) (by simp;omega) R);clear ag R aU X aw al af;have a7:=ab.o.size;by_cases aE:k=0
     ·have q0:((k:Int)==0)=true:=by rw[aE];rfl
      clear aE;have T:=Lh (show b<W9.heap.size from by omega);have A:=Lh (show g<W9.heap.size from by omega);have D:=az;have U:=Lh (HE.o.below (by omega) (ab.o.below (xf b) (xd M)));obtain⟨bz,am⟩: ∃q,q=b8:=⟨_,rfl⟩
      rw[<-am]at D;have aJ:=Lh am;clear am;go_upto_region 11 with(fail)
      refine AH (GR.inv (I:=PB b g o cap xs z bz) (b:=b) (g:=g) PB.drew) 9 [gE _,gE _,gE _,fun _ u x=> ∃(n:Int),u=ja jb n,fun _ u x=> ∃(n:Int),u=ja jb n,gE _,gE _,gE _,fun _ u x=> ∃(n:Int),u=ja jb n] rfl EA ⟨qE,qE,qE,by
       intro v x J h Y K;have H:=Lh (Dg.mk J A.o D.o);simp only[A2,A1]at h;obtain⟨⟨_,e0,_⟩,⟨_,e2,_⟩, -⟩:=h;simp only[e0,e2]at K ⊢;go_wp2_with fail;refine(H.o.num (q.extract 9 11) A.o (by rw[Au q 9 11 (by omega)];decide) (U.o.below (by omega) (H.o.below (xd T.o)))).mono ?_;rintro y1 x1 ⟨nn,rfl,E,hb1⟩;have O:=E.to hb1;clear hb1 E;go_wp2_with fail;exact K _ _ ⟨_,rfl⟩ (.inr O),
       by
       intro v x J h Y K;have H:=Lh (Dg.mk J A.o D.o);simp only[A2,A1]at h;obtain⟨⟨aX,⟨n3,e3⟩,z3⟩, -⟩:=h;simp only[e3]at K ⊢;go_wp2_with fail;exact K _ _ ⟨_,rfl⟩ (.inl rfl),
       qE,qE,qE,by
       intro v x J h Y K;have H:=Lh (Dg.mk J A.o D.o);simp only[A2,A1]at h;obtain⟨⟨_,e5,_⟩,⟨_,e7,_⟩, -⟩:=h;simp only[e5,e7]at K ⊢;go_wp2_with fail;refine(H.o.num (q.extract 11 13) A.o (by rw[Au q 11 13 (by omega)];decide) (U.o.below (by omega) (H.o.below (xd T.o)))).mono ?_;rintro y1 x1 ⟨nn,rfl,E,hb1⟩;have O:=E.to hb1;clear hb1 E;go_wp2_with fail;exact K _ _ ⟨_,rfl⟩ (.inr O),
       trivial⟩ ?_
      intro v x J h;have H:=Lh (Dg.mk J A.o D.o);simp only[Dt,Nat.reduceAdd]at h;obtain⟨-, -, -, -,⟨bN,⟨n4,e4⟩,z4⟩, -, -, -,⟨br,⟨n8,e8⟩,z8⟩, -⟩:=h;refine DE fun Y Z=>?_
      have HQ:=Lh Z;clear Z;simp only[e4,e8,Ci];go_wp2_with fail;rw[HQ.o];refine Cm (fun x=>Dg b g o cap xs z bz W9 x) H.o ?_;clear HQ;intro x ak;obtain⟨bd,ae,hp,hk⟩:=ak;go_wp2_with fail;go_roundw
      case rel=>exact⟨k+1,ds++[d],_,bd,by go_num,by omega,rfl,Lh (by rw[xi,V.o];rfl),Lh (fun h=>ae (aJ.o.trans (aK.o h))),Lh (BR aO.o (Kept.but (B:=w.heap.size) hk M)),Lh (aH.o.but hk (by omega)),Lh hp,Lh (Ba ab.o hk a7)⟩
      case measure=>simp[intOf];omega
     ·have q0:((k:Int)==0)=false:=beq_eq_false_iff_ne.2 (by omega);go_wp2_with fail;go_roundw
      case rel=>exact⟨k+1,ds++[d],st,b8,by go_num,by omega,rfl,Lh (by rw[xi,V.o];rfl),aK,aO,aH,az,ab⟩
      case measure=>simp[intOf];omega
   ·have aR:((q.size:Int) !=15)=true:=by simp;omega
    have c2:=HP.o.c2;have f2:=HP.o.f0 2;have F:=Lh (AN wr b 2 (je true));go_wp2_with fail;go_ret2;refine⟨_,[],_,true,rfl,Ah.nil _ _,xg _,fun _=>rfl,fun h=>(by cases h),HP.o.set2 true,HK.o.trans F.o.but⟩
  ·have bm:k=n:=by omega
   have aC: ¬(k:Int)<n:=by omega
   go_wp2_with fail;go_ret2;refine⟨_,ds,_,bz,rfl,HO.o,by rw[V.o];omega,aF.o,fun _ h=>?_,HP.o,HK.o⟩;have:=V.o;rw[h]at this;simp at this;omega
theorem LX(s:ByteArray):(B8 s.data.toList).size<=s.size:=by
 unfold B8;rw[size_mk,Lib.size_eq];cases h:Tt.unesc s.data.toList with
 | none=>exact xg _
 | some r=>exact Tt.unesc_length _ _ _ (xf _) h
structure Bc (b g G R M:Nat) (xs ys:List ByteArray) (z:ByteArray) (bad:Bool) (cs rs:Array Value) (w0 w:World):Prop where
 par: ∃o cap,Bl b g o cap ys z bad w
 left:Left M xs ys
 ev:Af G cs 61 w
 res:Af R rs 61 w
 but:AO b w0.heap.size w0 w
section
variable {b g G R M:Nat} {xs ys:List ByteArray} {z:ByteArray} {bad:Bool} {cs rs:Array Value} {w0 w:World}
theorem Bc.row{B k n:Nat}{v:Value}{A:List Value}(h:Bc b g G R M xs ys z bad cs rs w0 w)(hr:w.ownsRow B 3 k v n A)(i:Nat)(u:Value):(w.setCell ⟨G,i,none⟩ u).ownsRow B 3 k v n A:=A7 hr h.ev (by decide) i u
theorem Bc.start{o cap:Nat}{w:World}(h:Bl b g o cap xs z bad w)(hg:g<w.heap.size):Bc b g (w.heap.size+1) w.heap.size M xs xs z bad cs rs w ((w.alloc (ji rs 61)).alloc (ji cs 61)):=by
 have A:Below w.heap.size w ((w.alloc (ji rs 61)).alloc (ji cs 61)):=(Aa w _).trans ((Aa _ _).mono (by simp));exact⟨⟨o,cap,h.below A hg⟩,Left.refl _ _,Af.new' _ _ 61 (by simp),(Af.new w _ 61).alloc _,AO.of_below A⟩
theorem Bc.zone(h:Bc b g G R M xs ys z bad cs rs w0 w):w.cell? ⟨b,1,none⟩=some (jc z):=by
 obtain⟨o,cap,hp⟩:=h.par;exact Kk hp
theorem Bc.badc(h:Bc b g G R M xs ys z bad cs rs w0 w):w.cell? ⟨b,2,none⟩=some (je bad):=by
 obtain⟨o,cap,hp⟩:=h.par;exact hp.c2
theorem Bc.fz(h:Bc b g G R M xs ys z bad cs rs w0 w)(i:Nat):w.frozen? ⟨b,i,none⟩=false:=by
 obtain⟨o,cap,hp⟩:=h.par;exact hp.f0 i
theorem Bc.set2(h:Bc b g G R M xs ys z bad cs rs w0 w)(A:G≠b)(D:R≠b)(c:Bool):Bc b g G R M xs ys z c cs rs w0 (w.setCell ⟨b,2,none⟩ (je c)):=by
 obtain⟨o,cap,hp⟩:=h.par;exact⟨⟨o,cap,hp.set2 c⟩,h.left,h.ev.only (AN w b 2 _) A,h.res.only (AN w b 2 _) D,h.but.trans (AN w b 2 _).but⟩
theorem Bc.below{w':World}(h:Bc b g G R M xs ys z bad cs rs w0 w)(hg:g<w0.heap.size)(hb:Below w.heap.size w w'):Bc b g G R M xs ys z bad cs rs w0 w':=by
 obtain⟨o,cap,hp⟩:=h.par;exact⟨⟨o,cap,hp.below hb (xe hg h.but.size)⟩,h.left,h.ev.below hb h.ev.lt,h.res.below hb h.res.lt,h.but.trans (AO.of_below (hb.mono h.but.size))⟩
theorem Bc.set(h:Bc b g G R M xs ys z bad cs rs w0 w)(A:G≠b)(hg:G≠g)(D:R≠G)(E:w0.heap.size<=G)(i:Nat)(u:Value):Bc b g G R M xs ys z bad (cs.setIfInBounds i u) rs w0 (w.setCell ⟨G,i,none⟩ u):=by
 obtain⟨o,cap,hp⟩:=h.par;refine⟨⟨o,cap,hp.set A hg i u⟩,h.left,h.ev.set i u,h.res.only (AN w G i u) D,h.but.trans ?_⟩;exact⟨rfl,rfl,rfl,by simp[World.setCell],fun k hk _=>by simp[World.setCell,Array.getElem?_modify,show ¬G=k by omega]⟩
theorem Bc.take(h:Bc b g G R M xs ys z bad cs rs w0 w)(D: ∀x∈xs,x.size<=M)(A:G≠b)(E:R≠b)(K:ByteArray):
  Calls Tryz.prog 70 #[jf (some ⟨b,0,none⟩),jc K] w fun e w'=> ∃(r:ByteArray) (us:List ByteArray) (c:Bool),e=jh (jc r)/\r.size<=M/\(bad=true->c=true)/\Bc b g G R M xs us z c cs rs w0 w'/\B7 b w w':=by
 obtain⟨o,cap,hp⟩:=h.par;refine(L5 b g o cap M ys z K bad w hp (h.left.sz D)).mono ?_;rintro e w' ⟨r,us,c,rfl,hr,hl,hc,hq,ho⟩;exact⟨r,us,c,rfl,hr,hc,⟨hq,h.left.trans hl,h.ev.only ho A,h.res.only ho E,h.but.trans ho.but⟩,ho⟩
theorem Bc.num(h:Bc b g G R M xs ys z bad cs rs w0 w)(hg:g<w0.heap.size)(A:G≠b)(D:R≠b)(s:ByteArray)(hs:s.size<=281474976710656)(E:Gk w):
  Calls Tryz.prog 71 #[jf (some ⟨b,0,none⟩),jc s] w fun e w'=> ∃(n:Int) (c:Bool),e=jh (ja jb n)/\(bad=true->c=true)/\Bc b g G R M xs ys z c cs rs w0 w'/\AO b w.heap.size w w':=by
 obtain⟨o,cap,hp⟩:=h.par;refine(Ga b g o cap ys z s bad w hp (xe hg h.but.size) hs E).mono ?_;rintro e w' ⟨n,c,rfl,hc,hq,ho⟩;exact⟨n,c,rfl,hc,⟨⟨_,_,hq⟩,h.left,h.ev.but ho A,h.res.but ho D,Ba h.but ho h.but.size⟩,ho⟩
theorem Bc.text(h:Bc b g G R M xs ys z bad cs rs w0 w)(hg:g<w0.heap.size)(D:G≠b)(A:R≠b)(s:ByteArray)(hs:s.size<=70368744177664):
  Calls Tryz.prog 105 #[jf (some ⟨b,0,none⟩),jc s] w fun e w'=> ∃(r:ByteArray) (c:Bool),e=jh (jc r)/\r.size<=s.size/\Bc b g G R M xs ys z c cs rs w0 w'/\AO b w.heap.size w w':=by
 obtain⟨o,cap,hp⟩:=h.par;refine(OP b g o cap ys z s bad w hp (xe hg h.but.size) hs).mono ?_;rintro e w' ⟨rfl,hq,ho⟩;exact⟨_,_,rfl,LX s,⟨⟨_,_,hq⟩,h.left,h.ev.but ho D,h.res.but ho A,Ba h.but ho h.but.size⟩,ho⟩
theorem Bc.days(h:Bc b g G R M xs ys z bad cs rs w0 w)(hg:g<w0.heap.size)(D:G≠b)(E:R≠b)(A:3<b)(F:CD w)(H:Gk w){m:Int}(hm:w.cell? ⟨0,0,none⟩=some (ja jb m))(s:ByteArray)(hs:s.size<=262144):
  Calls Tryz.prog 102 #[jf (some ⟨b,0,none⟩),jc s] w fun e w'=> ∃(p:Option Addr) (c:Nat) (ds:List Int) (st:Int) (d:Bool),e=jh (jg #[jd p ds.length c,ja jb st])/\Ah w0.heap.size w' (jd p ds.length c) ds/\ds.length<=s.size+1/\(bad=true->d=true)/\(d=false->ds≠[])/\Bc b g G R M xs ys z d cs rs w0 w'/\AO b w.heap.size w w':=by
 obtain⟨o,cap,hp⟩:=h.par;refine(SK b g o cap ys z s bad m w hp (xe hg h.but.size) A F H hm hs).mono ?_;rintro e w' ⟨v,ds,st,d,rfl,hr,hn,hc,hne,hq,ho⟩;obtain⟨p,c,rfl⟩:=hr.slice;exact⟨p,c,ds,st,d,rfl,Ab hr h.but.size,hn,hc,hne,⟨⟨_,_,hq⟩,h.left,h.ev.but ho D,h.res.but ho E,Ba h.but ho h.but.size⟩,ho⟩
theorem Bc.see(h:Bc b g G R M xs ys z bad cs rs w0 w)(K:ByteArray):
  Calls Tryz.prog 72 #[jf (some ⟨b,0,none⟩),jc K] w fun e w'=> ∃(q:ByteArray) (c:Bool),e=jh (jg #[jc q,je c])/\w'=w:=by
 obtain⟨o,cap,hp⟩:=h.par;cases ys with
 | nil=>exact(Lk b g o cap z K bad w hp).mono fun e w' hh=>⟨_,_,hh⟩
 | cons x r=>exact(Dv b g o cap x r z K bad w hp).mono fun e w' hh=>⟨_,_,hh⟩
theorem Bc.world(h:Bc b g G R M xs ys z bad cs rs w0 w)(hb:b<w0.heap.size):Below b w0 w:=h.but.below (xf b) (xd hb)
theorem Bc.done{ds ks:List Value}(h:Bc b g G R M xs ys z bad cs ds.toArray w0 w)(hl:ds.length=ks.length)(F:R≠b)(hg:R≠g)(E:w0.heap.size<=R):
  Af R ks.toArray 61 (setAll w R 0 ks)/\(∃o cap,Bl b g o cap ys z bad (setAll w R 0 ks))/\AO b w0.heap.size w0 (setAll w R 0 ks)/\ ∀(B k n:Nat) (v:Value) (A:List Value),w.ownsRow B 3 k v n A->(setAll w R 0 ks).ownsRow B 3 k v n A:=by
 obtain⟨o,cap,hp⟩:=h.par;refine⟨?_,⟨o,cap,hp.setAll F hg ks 0 w⟩,Er E ks 0 w h.but,fun B k n v A hr=>A0 (by decide) ks 0 w _ hr h.res⟩;have D:=Af.puts (g:=R) (ty:=61) ks [] ds [] w (by simpa using h.res) hl;simpa using D
end
def VZ(b g M:Nat)(xs:List ByteArray)(z:ByteArray)(w:World)(x:Ending)(w':World):Prop:=∃(e:Ev) (p p':Option Addr) (c c':Nat) (us:List ByteArray) (d:Bool),x=jh (AW e (jd p e.days.ex.length c) (jd p' e.days.xt.length c'))/\ND e/\Ah w.heap.size w' (jd p e.days.ex.length c) e.days.ex/\Ah w.heap.size w' (jd p' e.days.xt.length c') e.days.xt/\Left M xs us/\(∃o cap,Bl b g o cap us z d w')/\AO b w.heap.size w w'
theorem QH(b g o cap M:Nat)(x0:ByteArray)(xs:List ByteArray)(m:Int)(z:ByteArray)(w:World)(bF:Bl b g o cap (x0::xs) z false w)(cH:Lib.hasPrefix x0.data.toList [66,69,71,73,78,58,86,69,86,69,78,84]=true)(hM: ∀x∈xs,x.size<=M)(eM:M<=262144)(hg:g<w.heap.size)(cu:3<b)(hL:CD w)(hE:Gk w)(hm:w.cell? ⟨0,0,none⟩=some (ja jb m))(hz:z.size<=1000):
  Calls Tryz.prog 73 #[jf (some ⟨b,0,none⟩)] w (VZ b g M xs z w):=by
 have cJ:b<w.heap.size:=bF.lt;have aF:=Lh hM;have bM:Hid (∀W,Below b w W->CD W):=Lh (fun W h=>hL.below cu h);have bm:Hid (∀W,Below b w W->Gk W):=Lh (fun W h=>hE.below (by omega) h);have cg:Hid (∀W,Below b w W->W.cell? ⟨0,0,none⟩=some (ja jb m)):=Lh (fun W h=>(h.cell (p:=⟨0,0,none⟩) (show 0<b by omega)).trans hm);obtain⟨G,hG⟩: ∃G,G=w.heap.size+1:=⟨_,rfl⟩
 obtain⟨R,hR⟩: ∃R,R=w.heap.size:=⟨_,rfl⟩
 have F:=Lh (show G≠b by omega);have ac:=Lh (show R≠b by omega);have ai:=Lh (show G≠g by omega);have dw:=Lh (show R≠g by omega);have ak:=Lh (show R≠G by omega);have aj:=Lh (show w.heap.size<=G by omega);have dy:=Lh (show w.heap.size<=R by omega);have aL:=Lh hg;have T:=Lh cJ;have bQ:=Lh cu;have dk:=Lh cH;obtain⟨rs,cr⟩: ∃rs:Array Value,rs=#[jc ⟨#[]⟩,ja jb 0,je false,ja jb 0,ja jb 0,ja jb 0,ja jb 0,jd none 0 0,jd none 0 0,ja jb 0,ja jb 0,jc ⟨#[]⟩,jc ⟨#[]⟩]:=⟨_,rfl⟩
 have bG:=Lh cr;have aP:=Lh (show Bc b g (w.heap.size+1) w.heap.size M (x0::xs) (x0::xs) z false #[jc ⟨#[]⟩,ja jb 0,je false,ja jb 0,ja jb 0,ja jb 0,ja jb 0,jd none 0 0,jd none 0 0,ja jb 0,ja jb 0,jc ⟨#[]⟩,jc ⟨#[]⟩] rs w ((w.alloc (ji #[jc ⟨#[]⟩,ja jb 0,je false,ja jb 0,ja jb 0,ja jb 0,ja jb 0,jd none 0 0,jd none 0 0,ja jb 0,ja jb 0,jc ⟨#[]⟩,jc ⟨#[]⟩] 61)).alloc (ji #[jc ⟨#[]⟩,ja jb 0,je false,ja jb 0,ja jb 0,ja jb 0,ja jb 0,jd none 0 0,jd none 0 0,ja jb 0,ja jb 0,jc ⟨#[]⟩,jc ⟨#[]⟩] 61))from by rw[cr];exact Bc.start bF hg);rw[<-hG,<-hR]at aP;obtain⟨w0,cA⟩: ∃w0,w0=((w.alloc (ji #[jc ⟨#[]⟩,ja jb 0,je false,ja jb 0,ja jb 0,ja jb 0,ja jb 0,jd none 0 0,jd none 0 0,ja jb 0,ja jb 0,jc ⟨#[]⟩,jc ⟨#[]⟩] 61)).alloc (ji #[jc ⟨#[]⟩,ja jb 0,je false,ja jb 0,ja jb 0,ja jb 0,ja jb 0,jd none 0 0,jd none 0 0,ja jb 0,ja jb 0,jc ⟨#[]⟩,jc ⟨#[]⟩] 61)):=⟨_,rfl⟩
 rw[<-cA]at aP;obtain⟨A,hA⟩: ∃A:ByteArray,A=⟨#[59,84,90,73,68,61]⟩++z++⟨#[58]⟩:=⟨_,rfl⟩
 have eW:A.size<=1007:=by rw[hA,ByteArray.size_append,ByteArray.size_append];have:(⟨#[59,84,90,73,68,61]⟩:ByteArray).size=6:=rfl;have:(⟨#[58]⟩:ByteArray).size=1:=rfl;omega
 clear hL hE hm bF hg cJ cu cr hM cH;go_enter Tryz.func73,Tryz.ntmps73;go_upto_region 2 with(fail);rw[<-hG,<-hR,<-cA];clear cA hG hR;have ee:=aP.o.zone;go_wp2_with fail;rw[<-hA];clear hA ee;obtain⟨oa,dz,c7⟩:=aP.o.par;refine(CW b g oa dz x0 xs z ⟨#[66,69,71,73,78,58,86,69,86,69,78,84]⟩ false w0 c7 dk.o).mono ?_;rintro x w1 ⟨rfl,hq,ho⟩;have cO:=Lh (show Bc b g G R M xs xs z false #[jc ⟨#[]⟩,ja jb 0,je false,ja jb 0,ja jb 0,ja jb 0,ja jb 0,jd none 0 0,jd none 0 0,ja jb 0,ja jb 0,jc ⟨#[]⟩,jc ⟨#[]⟩] rs w w1 from⟨hq,Left.refl _ _,aP.o.ev.only ho F.o,aP.o.res.only ho ac.o,aP.o.but.trans ho.but⟩);clear hq ho c7 aP dk;go_wp2_with fail;refine(cO.o.take aF.o F.o ac.o _).mono ?_;rintro x w2 ⟨r2,y2,b2,rfl,e6,hc,hs,ho⟩;have bN:=Lh hs;have eJ:=Lh hc;clear hs ho hc;clear cO;have ei:=bN.o.ev.frozen 0;have cQ:=bN.o.ev.cell 0;simp only[xc,xa]at cQ;go_wp2_with fail;obtain⟨w3,V⟩: ∃X,X=(w2.setCell ⟨G,0,none⟩ (jc r2)):=⟨_,rfl⟩
 rw[<-V];have dh:=Lh (show Bc b g G R M xs y2 z b2 #[jc r2,ja jb 0,je false,ja jb 0,ja jb 0,ja jb 0,ja jb 0,jd none 0 0,jd none 0 0,ja jb 0,ja jb 0,jc ⟨#[]⟩,jc ⟨#[]⟩] rs w w3 from by rw[V];exact(bN.o.set F.o ai.o ak.o aj.o 0 (jc r2)));clear V ei cQ;clear bN;refine(dh.o.take aF.o F.o ac.o _).mono ?_;rintro x w4 ⟨r4,y4,b4,rfl,eI,hc,hs,ho⟩;have cl:=Lh hs;have eH:=Lh hc;clear hs ho hc;clear dh;go_wp2_with fail;refine(cl.o.num aL.o F.o ac.o _ (by omega) (bm.o _ (cl.o.world T.o))).mono ?_;rintro x w5 ⟨n5,b5,rfl,hc,hs,ho⟩;have bJ:=Lh hs;have eQ:=Lh hc;clear hs ho hc;clear cl;have em:=bJ.o.ev.frozen 1;have df:=bJ.o.ev.cell 1;simp only[xc,xa,xb]at df;go_wp2_with fail;obtain⟨w6,V⟩: ∃X,X=(w5.setCell ⟨G,1,none⟩ (ja jb n5)):=⟨_,rfl⟩
 rw[<-V];have dA:=Lh (show Bc b g G R M xs y4 z b5 #[jc r2,ja jb n5,je false,ja jb 0,ja jb 0,ja jb 0,ja jb 0,jd none 0 0,jd none 0 0,ja jb 0,ja jb 0,jc ⟨#[]⟩,jc ⟨#[]⟩] rs w w6 from by rw[V];exact(bJ.o.set F.o ai.o ak.o aj.o 1 (ja jb n5)));clear V em df;clear bJ;refine(dA.o.take aF.o F.o ac.o _).mono ?_;rintro x w7 ⟨r7,y7,b7,rfl,eR,hc,hs,ho⟩;have bu:=Lh hs;have eP:=Lh hc;clear hs ho hc;clear dA;go_wp2_with fail;refine(bu.o.days aL.o F.o ac.o bQ.o (bM.o _ (bu.o.world T.o)) (bm.o _ (bu.o.world T.o)) (cg.o _ (bu.o.world T.o)) _ (by omega)).mono ?_;rintro x w8 ⟨p8,c8,d8,J,b8,rfl,aB,ey,hc,hne,hs,ho⟩;have br:=Lh hs;have eN:=Lh hc;have cU:=Lh hne;have dq:=Lh aB;clear hs ho aB hc hne;clear bu;have dX:=br.o.ev.frozen 9;have dt:=br.o.ev.cell 9;simp only[xc,xa,xb]at dt;go_wp2_with fail;obtain⟨w9,V⟩: ∃X,X=(w8.setCell ⟨G,9,none⟩ (ja jb J)):=⟨_,rfl⟩
 rw[<-V];have cM:=Lh (show Bc b g G R M xs y7 z b8 #[jc r2,ja jb n5,je false,ja jb 0,ja jb 0,ja jb 0,ja jb 0,jd none 0 0,jd none 0 0,ja jb J,ja jb 0,jc ⟨#[]⟩,jc ⟨#[]⟩] rs w w9 from by rw[V];exact(br.o.set F.o ai.o ak.o aj.o 9 (ja jb J)));have cV:=Lh (show Ah w.heap.size w9 (jd p8 d8.length c8) d8 from by rw[V];exact(br.o.row dq.o 9 (ja jb J)));clear V dX dt;clear br dq;refine(cM.o.take aF.o F.o ac.o _).mono ?_;rintro x ek ⟨cW,d5,eK,rfl,eC,hc,hs,ho⟩;have bo:=Lh hs;have cT:=Lh hc;have bW:=Lh (show Ah w.heap.size ek (jd p8 d8.length c8) d8 from Am cV.o T.o ho.but);clear hs ho hc;clear cM cV;go_wp2_with fail;refine(Tryz.strings_TrimSuffix _ _ _ (by omega)).mono ?_;rintro x wt ⟨rfl,hx⟩;rw[hx];clear hx wt;obtain⟨qt,cp⟩: ∃q:ByteArray,q=⟨(Lib.trimSuffix cW.data.toList (⟨#[77]⟩:ByteArray).data.toList).toArray⟩:=⟨_,rfl⟩
 have eX:qt.size<=cW.size:=by rw[cp,size_mk,Lib.size_eq];exact Lib.trimSuffix_le _ _
 rw[<-cp];clear cp;go_wp2_with fail;refine(bo.o.num aL.o F.o ac.o _ (by omega) (bm.o _ (bo.o.world T.o))).mono ?_;rintro x dg ⟨O,en,rfl,hc,hs,ho⟩;have aN:=Lh hs;have cY:=Lh hc;have b6:=Lh (show Ah w.heap.size dg (jd p8 d8.length c8) d8 from Am bW.o T.o ho);clear hs ho hc;clear bo bW;have cX:=aN.o.ev.frozen 10;have cb:=aN.o.ev.cell 10;simp only[xc,xa,xb]at cb;go_wp2_with fail;obtain⟨dl,V⟩: ∃X,X=(dg.setCell ⟨G,10,none⟩ (ja jb O)):=⟨_,rfl⟩
 rw[<-V];have bT:=Lh (show Bc b g G R M xs d5 z en #[jc r2,ja jb n5,je false,ja jb 0,ja jb 0,ja jb 0,ja jb 0,jd none 0 0,jd none 0 0,ja jb J,ja jb O,jc ⟨#[]⟩,jc ⟨#[]⟩] rs w dl from by rw[V];exact(aN.o.set F.o ai.o ak.o aj.o 10 (ja jb O)));have b9:=Lh (show Ah w.heap.size dl (jd p8 d8.length c8) d8 from by rw[V];exact(aN.o.row b6.o 10 (ja jb O)));clear V cX cb;clear aN b6;refine(bT.o.take aF.o F.o ac.o _).mono ?_;rintro x aK ⟨er,aU,dO,rfl,eE,hc,hs,ho⟩;have ae:=Lh hs;have dB:=Lh hc;have bt:=Lh (show Ah w.heap.size aK (jd p8 d8.length c8) d8 from Am b9.o T.o ho.but);clear hs ho hc;clear bT b9;have bf:=ae.o.badc;cases hbb:dO
 ·rw[hbb]at bf;have ae:=Lh (show Bc b g G R M xs aU z false #[jc r2,ja jb n5,je false,ja jb 0,ja jb 0,ja jb 0,ja jb 0,jd none 0 0,jd none 0 0,ja jb J,ja jb O,jc ⟨#[]⟩,jc ⟨#[]⟩] rs w aK from by have h:=ae.o;rw[hbb]at h;exact h);have dn:d8≠[]:=cU.o (Bool.eq_false_iff.2 (fun h=>by have h9:=dB.o (cY.o (cT.o (h)));rw[hbb]at h9;cases h9));obtain⟨da,dr,bL⟩: ∃a r,d8=a::r:=by
   cases hh:d8 with
   | nil=>exact absurd hh dn
   | cons a r=>exact⟨a,r,rfl⟩
  obtain⟨g2,hp2,ef⟩: ∃g2,p8=some ⟨g2,0,none⟩/\aK.cell? ⟨g2,0,none⟩=some (ja jb da):=by
   obtain⟨ao,c,hv,hi⟩:=Ah.ints bt.o;rw[Value.slice.injEq]at hv;obtain⟨a,ha,_,hc⟩:=hi 0 da (by rw[bL];rfl);rcases bt.o.2 with⟨hv2,h0⟩ | ⟨g,cap,cur,hv2,_⟩
   ·rw[bL]at h0;simp at h0
   ·rw[Value.slice.injEq]at hv2;rw[hv2.1]at hv ⊢;refine⟨g,rfl,?_⟩;have:ao=some ⟨g,0,none⟩:=hv.1.symm;rw[this]at ha;cases ha;exact hc
  have eo:0<d8.length:=by rw[bL];simp
  have dD:(0:Int)<(d8.length:Int):=by omega
  subst hp2;clear hbb dn bL;go_wp2_with fail;clear bf ef;refine(Qj da er aK (bM.o _ (ae.o.world T.o)) (xe bQ.o (Nat.le_trans (xd T.o) ae.o.but.size))).mono ?_;rintro x db ⟨ra,rb,rc,rd,re,rfl,hb⟩;have aQ:=Lh (ae.o.below aL.o hb);clear hb bt;clear ae;have bf:=aQ.o.badc;have dm:=aQ.o.fz 2;obtain⟨cR,V⟩: ∃X,X=db.alloc (ji #[ja jb ra,ja jb rb,ja jb rc,ja jb rd,jd none 0 0,jd none 0 0] 59):=⟨_,rfl⟩
  obtain⟨P,hP⟩: ∃P,P=db.heap.size:=⟨_,rfl⟩
  have aO:=Lh (show Bc b g G R M xs aU z false #[jc r2,ja jb n5,je false,ja jb 0,ja jb 0,ja jb 0,ja jb 0,jd none 0 0,jd none 0 0,ja jb J,ja jb O,jc ⟨#[]⟩,jc ⟨#[]⟩] rs w cR from by rw[V];exact aQ.o.below aL.o (Aa _ _));have bk:=Lh (show Af P #[ja jb ra,ja jb rb,ja jb rc,ja jb rd,jd none 0 0,jd none 0 0] 59 cR from by rw[V,hP];exact Af.new _ _ 59);have ch:=Lh (show P≠b from by rw[hP];have:=aQ.o.but.size;have:=T.o;omega);go_upto_region 13 with(fail);rw[<-V,<-hP];clear V hP bf dm;clear aQ;go_cut [64,65,66,67,68] (fun eY u65 u66 eO e5 wx=> ∃bd:Bool,Hid (Bc b g G R M xs aU z bd #[jc r2,ja jb n5,je false,ja jb 0,ja jb 0,ja jb 0,ja jb 0,jd none 0 0,jd none 0 0,ja jb J,ja jb O,jc ⟨#[]⟩,jc ⟨#[]⟩] rs w wx)/\Hid (Af P #[ja jb ra,ja jb rb,ja jb rc,ja jb rd,jd none 0 0,jd none 0 0] 59 wx))
  case first=>
   have bf:=aO.o.badc;have dm:=aO.o.fz 2;by_cases cL:re=0
   ·have ep:(re !=0)=false:=by simp[cL]
    go_wp2_with fail;go_meet;exact⟨false,Lh (aO.o.set2 F.o ac.o false),Lh (bk.o.set_other ch.o 2 _)⟩
   ·have ep:(re !=0)=true:=by simp[cL]
    go_wp2_with fail;go_meet;exact⟨true,Lh (aO.o.set2 F.o ac.o true),Lh (bk.o.set_other ch.o 2 _)⟩
  case rest=>
   clear aO bk;obtain⟨bd,al,cj⟩:=hcut;obtain⟨wz,hx⟩: ∃q,q=wc:=⟨_,rfl⟩
   rw[<-hx]at al cj ⊢;clear hx;have p0:=cj.o.c6;have d6:=al.o.ev.frozen 3;have cI:=al.o.ev.cell 3;simp only[xc,xa,xb]at cI;have eb:=al.o.ev.frozen 4;have de:=al.o.ev.cell 4;simp only[xc,xa,xb]at de;have dV:=al.o.ev.frozen 5;have dj:=al.o.ev.cell 5;simp only[xc,xa,xb]at dj;have ec:=al.o.ev.frozen 6;have cZ:=al.o.ev.cell 6;simp only[xc,xa,xb]at cZ;have cc:=al.o.ev.frozen 7;have bn:=al.o.ev.cell 7;simp only[xc,xa,xb]at bn;have cD:=al.o.ev.frozen 8;have bp:=al.o.ev.cell 8;simp only[xc,xa,xb]at bp;go_upto_region 15 with(fail);obtain⟨dU,V⟩: ∃X,X=((((((wz.setCell ⟨G,3,none⟩ (ja jb ra)).setCell ⟨G,4,none⟩ (ja jb rb)).setCell ⟨G,5,none⟩ (ja jb rc)).setCell ⟨G,6,none⟩ (ja jb rd)).setCell ⟨G,7,none⟩ (jd none 0 0)).setCell ⟨G,8,none⟩ (jd none 0 0)):=⟨_,rfl⟩
   rw[<-V];have aM:=Lh (show Bc b g G R M xs aU z bd #[jc r2,ja jb n5,je false,ja jb ra,ja jb rb,ja jb rc,ja jb rd,jd none 0 0,jd none 0 0,ja jb J,ja jb O,jc ⟨#[]⟩,jc ⟨#[]⟩] rs w dU from by rw[V];exact((((((al.o.set F.o ai.o ak.o aj.o 3 (ja jb ra)).set F.o ai.o ak.o aj.o 4 (ja jb rb)).set F.o ai.o ak.o aj.o 5 (ja jb rc)).set F.o ai.o ak.o aj.o 6 (ja jb rd)).set F.o ai.o ak.o aj.o 7 (jd none 0 0)).set F.o ai.o ak.o aj.o 8 (jd none 0 0)));clear V d6 cI eb de dV dj ec cZ cc bn cD bp;clear al;clear p0 cj ch;go_wp2_with fail;refine(aM.o.see _).mono ?_;rintro x wq ⟨e4,bl,rfl,hx⟩;rw[hx];clear hx wq;go_upto_if 78 with(fail)
   go_cut [79] (fun _ wx=> ∃(yy:List ByteArray) (bb:Bool) (Z:Option Addr) (Y:Nat) (D:List Int),D.length<=300000/\Hid (Bc b g G R M xs yy z bb #[jc r2,ja jb n5,je false,ja jb ra,ja jb rb,ja jb rc,ja jb rd,jd Z D.length Y,jd none 0 0,ja jb J,ja jb O,jc ⟨#[]⟩,jc ⟨#[]⟩] rs w wx)/\Hid (Ah w.heap.size wx (jd Z D.length Y) D))
   case first=>
    cases bl
    ·go_wp2_with fail;go_meet;exact⟨aU,bd,none,0,[],xg _,aM,Lh (Ah.nil _ _)⟩
    ·go_wp2_with fail;refine(aM.o.take aF.o F.o ac.o _).mono ?_;rintro x ej ⟨dP,cv,ea,rfl,dH,hc,hs,ho⟩;have aw:=Lh hs;have dJ:=Lh hc;clear hs ho hc;clear aM;go_wp2_with fail;refine(aw.o.days aL.o F.o ac.o bQ.o (bM.o _ (aw.o.world T.o)) (bm.o _ (aw.o.world T.o)) (cg.o _ (aw.o.world T.o)) _ (by omega)).mono ?_;rintro x cG ⟨ay,aA,aq,dC,cF,rfl,aB,di,hc,hne,hs,ho⟩;have ar:=Lh hs;have dF:=Lh hc;have dp:=Lh hne;have a6:=Lh aB;clear hs ho aB hc hne;clear aw;have cc:=ar.o.ev.frozen 7;have bn:=ar.o.ev.cell 7;simp only[xc,xa,xb]at bn;go_wp2_with fail;obtain⟨bi,V⟩: ∃X,X=(cG.setCell ⟨G,7,none⟩ (jd ay aq.length aA)):=⟨_,rfl⟩
     rw[<-V];have bI:=Lh (show Bc b g G R M xs cv z cF #[jc r2,ja jb n5,je false,ja jb ra,ja jb rb,ja jb rc,ja jb rd,jd ay aq.length aA,jd none 0 0,ja jb J,ja jb O,jc ⟨#[]⟩,jc ⟨#[]⟩] rs w bi from by rw[V];exact(ar.o.set F.o ai.o ak.o aj.o 7 (jd ay aq.length aA)));have bP:=Lh (show Ah w.heap.size bi (jd ay aq.length aA) aq from by rw[V];exact(ar.o.row a6.o 7 (jd ay aq.length aA)));clear V cc bn;clear ar a6;go_meet;exact⟨_,_,ay,aA,aq,by omega,bI,bP⟩
   case rest=>
    clear aM;obtain⟨el,dR,Z,Y,D,eD,aT,aS⟩:=hcut;obtain⟨eF,hx⟩: ∃q,q=wc:=⟨_,rfl⟩
    rw[<-hx]at aT aS ⊢;have aE:=aT;have aI:=aS;clear hx aT aS;go_wp2_with fail;refine(aE.o.see _).mono ?_;rintro x wq ⟨e8,bl,rfl,hx⟩;rw[hx];clear hx wq;go_upto_if 97 with(fail)
    go_cut [98] (fun _ wx=> ∃(yy:List ByteArray) (bb:Bool) (ab:Option Addr) (aa:Nat) (E:List Int),E.length<=300000/\Hid (Bc b g G R M xs yy z bb #[jc r2,ja jb n5,je false,ja jb ra,ja jb rb,ja jb rc,ja jb rd,jd Z D.length Y,jd ab E.length aa,ja jb J,ja jb O,jc ⟨#[]⟩,jc ⟨#[]⟩] rs w wx)/\Hid (Ah w.heap.size wx (jd ab E.length aa) E)/\Hid (Ah w.heap.size wx (jd Z D.length Y) D))
    case first=>
     cases bl
     ·go_wp2_with fail;go_meet;exact⟨el,dR,none,0,[],xg _,aE,Lh (Ah.nil _ _),aI⟩
     ·go_wp2_with fail;refine(aE.o.take aF.o F.o ac.o _).mono ?_;rintro x cx ⟨eh,ce,dT,rfl,dM,hc,hs,ho⟩;have ax:=Lh hs;have dG:=Lh hc;have a7:=Lh (show Ah w.heap.size cx (jd Z D.length Y) D from Am aI.o T.o ho.but);clear hs ho hc;clear aE aI;go_wp2_with fail;refine(ax.o.days aL.o F.o ac.o bQ.o (bM.o _ (ax.o.world T.o)) (bm.o _ (ax.o.world T.o)) (cg.o _ (ax.o.world T.o)) _ (by omega)).mono ?_;rintro x bx ⟨ap,am,af,dL,cB,rfl,aB,du,hc,hne,hs,ho⟩;have ah:=Lh hs;have dK:=Lh hc;have cS:=Lh hne;have aY:=Lh aB;have aX:=Lh (show Ah w.heap.size bx (jd Z D.length Y) D from Am a7.o T.o ho);clear hs ho aB hc hne;clear ax a7;have cD:=ah.o.ev.frozen 8;have bp:=ah.o.ev.cell 8;simp only[xc,xa,xb]at bp;go_wp2_with fail;obtain⟨aR,V⟩: ∃X,X=(bx.setCell ⟨G,8,none⟩ (jd ap af.length am)):=⟨_,rfl⟩
      rw[<-V];have bK:=Lh (show Bc b g G R M xs ce z cB #[jc r2,ja jb n5,je false,ja jb ra,ja jb rb,ja jb rc,ja jb rd,jd Z D.length Y,jd ap af.length am,ja jb J,ja jb O,jc ⟨#[]⟩,jc ⟨#[]⟩] rs w aR from by rw[V];exact(ah.o.set F.o ai.o ak.o aj.o 8 (jd ap af.length am)));have bH:=Lh (show Ah w.heap.size aR (jd Z D.length Y) D from by rw[V];exact(ah.o.row aX.o 8 (jd ap af.length am)));have bO:=Lh (show Ah w.heap.size aR (jd ap af.length am) af from by rw[V];exact(ah.o.row aY.o 8 (jd ap af.length am)));clear V cD bp;clear ah aX aY;go_meet;exact⟨_,_,ap,am,af,by omega,bK,bO,bH⟩
    case rest=>
     clear aE aI;obtain⟨eU,eL,ab,aa,E,eA,aT,cy,aS⟩:=hcut;obtain⟨ew,hx⟩: ∃q,q=wc:=⟨_,rfl⟩
     rw[<-hx]at aT cy aS ⊢;have bs:=aT;have bh:=cy;have bA:=aS;clear hx aT cy aS;go_wp2_with fail;refine(bs.o.take aF.o F.o ac.o _).mono ?_;rintro x bw ⟨dS,cd,dY,rfl,dI,hc,hs,ho⟩;have a8:=Lh hs;have dN:=Lh hc;have be:=Lh (show Ah w.heap.size bw (jd ab E.length aa) E from Am bh.o T.o ho.but);have ba:=Lh (show Ah w.heap.size bw (jd Z D.length Y) D from Am bA.o T.o ho.but);clear hs ho hc;clear bs bh bA;go_wp2_with fail;refine(a8.o.text aL.o F.o ac.o _ (by omega)).mono ?_;rintro x aV ⟨H,cC,rfl,dE,hs,ho⟩;have ag:=Lh hs;have aZ:=Lh (show Ah w.heap.size aV (jd ab E.length aa) E from Am be.o T.o ho);have bc:=Lh (show Ah w.heap.size aV (jd Z D.length Y) D from Am ba.o T.o ho);clear hs ho;clear a8 be ba;have dc:=ag.o.ev.frozen 11;have bS:=ag.o.ev.cell 11;simp only[xc,xa,xb]at bS;go_upto_region 22 with(fail);obtain⟨aW,V⟩: ∃X,X=(aV.setCell ⟨G,11,none⟩ (jc H)):=⟨_,rfl⟩
     rw[<-V];have av:=Lh (show Bc b g G R M xs cd z cC #[jc r2,ja jb n5,je false,ja jb ra,ja jb rb,ja jb rc,ja jb rd,jd Z D.length Y,jd ab E.length aa,ja jb J,ja jb O,jc H,jc ⟨#[]⟩] rs w aW from by rw[V];exact(ag.o.set F.o ai.o ak.o aj.o 11 (jc H)));have aD:=Lh (show Ah w.heap.size aW (jd ab E.length aa) E from by rw[V];exact(ag.o.row aZ.o 11 (jc H)));have aC:=Lh (show Ah w.heap.size aW (jd Z D.length Y) D from by rw[V];exact(ag.o.row bc.o 11 (jc H)));clear V dc bS;clear ag aZ bc;go_wp2_with fail;refine(av.o.see _).mono ?_;rintro x wq ⟨ql,bl,rfl,hx⟩;rw[hx];clear hx wq;go_upto_if 119 with(fail)
     go_cut [120] (fun _ wx=> ∃(yy:List ByteArray) (bb:Bool) (lo:ByteArray),lo.size<=M/\Hid (Bc b g G R M xs yy z bb #[jc r2,ja jb n5,je false,ja jb ra,ja jb rb,ja jb rc,ja jb rd,jd Z D.length Y,jd ab E.length aa,ja jb J,ja jb O,jc H,jc lo] rs w wx)/\Hid (Ah w.heap.size wx (jd ab E.length aa) E)/\Hid (Ah w.heap.size wx (jd Z D.length Y) D))
     case first=>
      cases bl
      ·go_wp2_with fail;go_meet;exact⟨_,_,⟨#[]⟩,xg _,av,aD,aC⟩
      ·go_wp2_with fail;refine(av.o.take aF.o F.o ac.o _).mono ?_;rintro x bV ⟨et,dd,ex,rfl,eq,hc,hs,ho⟩;have bq:=Lh hs;have dQ:=Lh hc;have bz:=Lh (show Ah w.heap.size bV (jd ab E.length aa) E from Am aD.o T.o ho.but);have bC:=Lh (show Ah w.heap.size bV (jd Z D.length Y) D from Am aC.o T.o ho.but);clear hs ho hc;clear av aD aC;go_wp2_with fail;refine(bq.o.text aL.o F.o ac.o _ (by omega)).mono ?_;rintro x bE ⟨aG,dv,rfl,d9,hs,ho⟩;have az:=Lh hs;have bv:=Lh (show Ah w.heap.size bE (jd ab E.length aa) E from Am bz.o T.o ho);have bD:=Lh (show Ah w.heap.size bE (jd Z D.length Y) D from Am bC.o T.o ho);clear hs ho;clear bq bz bC;have cP:=az.o.ev.frozen 12;have bU:=az.o.ev.cell 12;simp only[xc,xa,xb]at bU;go_wp2_with fail;obtain⟨bB,V⟩: ∃X,X=(bE.setCell ⟨G,12,none⟩ (jc aG)):=⟨_,rfl⟩
       rw[<-V];have ct:=Lh (show Bc b g G R M xs dd z dv #[jc r2,ja jb n5,je false,ja jb ra,ja jb rb,ja jb rc,ja jb rd,jd Z D.length Y,jd ab E.length aa,ja jb J,ja jb O,jc H,jc aG] rs w bB from by rw[V];exact(az.o.set F.o ai.o ak.o aj.o 12 (jc aG)));have cf:=Lh (show Ah w.heap.size bB (jd ab E.length aa) E from by rw[V];exact(az.o.row bv.o 12 (jc aG)));have cE:=Lh (show Ah w.heap.size bB (jd Z D.length Y) D from by rw[V];exact(az.o.row bD.o 12 (jc aG)));clear V cP bU;clear az bv bD;go_meet;exact⟨_,_,aG,by omega,ct,cf,cE⟩
     case rest=>
      clear av aD aC;obtain⟨yl,eV,lo,hlo,ck,ci,co⟩:=hcut;obtain⟨e7,hx⟩: ∃q,q=wc:=⟨_,rfl⟩
      rw[<-hx]at ck ci co ⊢;have bR:=ck;have bX:=ci;have b0:=co;clear hx ck ci co;go_wp2_with fail;refine(bR.o.take aF.o F.o ac.o _).mono ?_;rintro x cm ⟨dZ,dW,d7,rfl,eu,hc,hs,ho⟩;have aH:=Lh hs;have ez:=Lh hc;have b3:=Lh (show Ah w.heap.size cm (jd ab E.length aa) E from Am bX.o T.o ho.but);have ca:=Lh (show Ah w.heap.size cm (jd Z D.length Y) D from Am b0.o T.o ho.but);clear hs ho hc;clear bR bX b0;obtain⟨cn,hcn⟩: ∃q:Bool,q=(dZ.toList==[67,65,78,67,69,76,76,69,68]):=⟨_,rfl⟩
      have ed:=aH.o.ev.frozen 2;have cK:=aH.o.ev.cell 2;simp only[xc,xa,xb]at cK;go_upto_region 26 with(fail);rw[<-hcn];clear hcn ed cK;obtain⟨cz,V⟩: ∃X,X=(cm.setCell ⟨G,2,none⟩ (je cn)):=⟨_,rfl⟩
      rw[<-V];have bY:=Lh (show Bc b g G R M xs dW z d7 #[jc r2,ja jb n5,je cn,ja jb ra,ja jb rb,ja jb rc,ja jb rd,jd Z D.length Y,jd ab E.length aa,ja jb J,ja jb O,jc H,jc lo] rs w cz from by rw[V];exact(aH.o.set F.o ai.o ak.o aj.o 2 (je cn)));have b1:=Lh (show Ah w.heap.size cz (jd ab E.length aa) E from by rw[V];exact(aH.o.row b3.o 2 (je cn)));have bZ:=Lh (show Ah w.heap.size cz (jd Z D.length Y) D from by rw[V];exact(aH.o.row ca.o 2 (je cn)));clear V;clear aH b3 ca;go_wp2_with fail;refine(bY.o.take aF.o F.o ac.o _).mono ?_;rintro x bg ⟨e3,d0,eg,rfl,eB,hc,hs,ho⟩;have bj:=Lh hs;have eG:=Lh hc;have cN:=Lh (show Ah w.heap.size bg (jd ab E.length aa) E from Am b1.o T.o ho.but);have dx:=Lh (show Ah w.heap.size bg (jd Z D.length Y) D from Am bZ.o T.o ho.but);clear hs ho hc;clear bY b1 bZ;have a0:=bj.o.ev.c13;have au:=bj.o.res;rw[bG.o]at au;have f0:=fun i=>au.frozen i;have o0:=au.c13;clear au
      go_wp2_with fail;clear a0 f0 o0;have aJ:=bj.o;rw[bG.o]at aJ;obtain⟨hA,hB,hC,hD⟩:=Bc.done (ds:=[jc ⟨#[]⟩,ja jb 0,je false,ja jb 0,ja jb 0,ja jb 0,ja jb 0,jd none 0 0,jd none 0 0,ja jb 0,ja jb 0,jc ⟨#[]⟩,jc ⟨#[]⟩]) (ks:=[jc r2,ja jb n5,je cn,ja jb ra,ja jb rb,ja jb rc,ja jb rd,jd Z D.length Y,jd ab E.length aa,ja jb J,ja jb O,jc H,jc lo]) aJ rfl ac.o dw.o dy.o;have cq:=Lh aJ.left;clear aJ;have V:Ah w.heap.size (setAll bg R 0 [jc r2,ja jb n5,je cn,ja jb ra,ja jb rb,ja jb rc,ja jb rd,jd Z D.length Y,jd ab E.length aa,ja jb J,ja jb O,jc H,jc lo]) (jd Z D.length Y) D:=hD _ _ _ _ _ dx.o;have hY:Ah w.heap.size (setAll bg R 0 [jc r2,ja jb n5,je cn,ja jb ra,ja jb rb,ja jb rc,ja jb rd,jd Z D.length Y,jd ab E.length aa,ja jb J,ja jb O,jc H,jc lo]) (jd ab E.length aa) E:=hD _ _ _ _ _ cN.o;clear hD;obtain⟨U,hU⟩: ∃U,U=(((((((((((((bg.setCell ⟨R,0,none⟩ (jc r2)).setCell ⟨R,1,none⟩ (ja jb n5)).setCell ⟨R,2,none⟩ (je cn)).setCell ⟨R,3,none⟩ (ja jb ra)).setCell ⟨R,4,none⟩ (ja jb rb)).setCell ⟨R,5,none⟩ (ja jb rc)).setCell ⟨R,6,none⟩ (ja jb rd)).setCell ⟨R,7,none⟩ (jd Z D.length Y)).setCell ⟨R,8,none⟩ (jd ab E.length aa)).setCell ⟨R,9,none⟩ (ja jb J)).setCell ⟨R,10,none⟩ (ja jb O)).setCell ⟨R,11,none⟩ (jc H)).setCell ⟨R,12,none⟩ (jc lo)):=⟨_,rfl⟩
      rw[<-hU];rw[show setAll bg R 0 [jc r2,ja jb n5,je cn,ja jb ra,ja jb rb,ja jb rc,ja jb rd,jd Z D.length Y,jd ab E.length aa,ja jb J,ja jb O,jc H,jc lo]=U from by rw[hU];rfl]at hA hB hC V hY;clear hU;have cw:=hA.c13;refine bodyPost_ret (v:=.agg #[jc r2,ja jb n5,je cn,ja jb ra,ja jb rb,ja jb rc,ja jb rd,jd Z D.length Y,jd ab E.length aa,ja jb J,ja jb O,jc H,jc lo]) (by simp[results,Tryz.results73,go_sem,cw]) rfl ?_;exact⟨⟨r2,n5,cn,⟨ra,rb,rc,rd,D,E⟩,J,O,H,lo⟩,_,_,_,_,d0,eg,rfl,⟨by show D.length<=_;omega,by show E.length<=_;omega,by show r2.size<=_;omega,by show H.size<=_;omega,by show lo.size<=_;omega⟩,V,hY,cq.o,hB,hC⟩
 ·rw[hbb]at bf;have ae:=Lh (show Bc b g G R M xs aU z true #[jc r2,ja jb n5,je false,ja jb 0,ja jb 0,ja jb 0,ja jb 0,jd none 0 0,jd none 0 0,ja jb J,ja jb O,jc ⟨#[]⟩,jc ⟨#[]⟩] rs w aK from by have h:=ae.o;rw[hbb]at h;exact h);clear hbb;have a0:=ae.o.ev.c13;have au:=ae.o.res;rw[bG.o]at au;have f0:=fun i=>au.frozen i;have o0:=au.c13;clear au
  go_wp2_with fail;clear a0 f0 o0;have aJ:=ae.o;rw[bG.o]at aJ;obtain⟨hA,hB,hC,hD⟩:=Bc.done (ds:=[jc ⟨#[]⟩,ja jb 0,je false,ja jb 0,ja jb 0,ja jb 0,ja jb 0,jd none 0 0,jd none 0 0,ja jb 0,ja jb 0,jc ⟨#[]⟩,jc ⟨#[]⟩]) (ks:=[jc r2,ja jb n5,je false,ja jb 0,ja jb 0,ja jb 0,ja jb 0,jd none 0 0,jd none 0 0,ja jb J,ja jb O,jc ⟨#[]⟩,jc ⟨#[]⟩]) aJ rfl ac.o dw.o dy.o;have cq:=Lh aJ.left;clear aJ;have V:Ah w.heap.size (setAll aK R 0 [jc r2,ja jb n5,je false,ja jb 0,ja jb 0,ja jb 0,ja jb 0,jd none 0 0,jd none 0 0,ja jb J,ja jb O,jc ⟨#[]⟩,jc ⟨#[]⟩]) (jd none 0 0) []:=Ah.nil _ _;have hY:Ah w.heap.size (setAll aK R 0 [jc r2,ja jb n5,je false,ja jb 0,ja jb 0,ja jb 0,ja jb 0,jd none 0 0,jd none 0 0,ja jb J,ja jb O,jc ⟨#[]⟩,jc ⟨#[]⟩]) (jd none 0 0) []:=Ah.nil _ _;clear hD;obtain⟨U,hU⟩: ∃U,U=(((((((((((((aK.setCell ⟨R,0,none⟩ (jc r2)).setCell ⟨R,1,none⟩ (ja jb n5)).setCell ⟨R,2,none⟩ (je false)).setCell ⟨R,3,none⟩ (ja jb 0)).setCell ⟨R,4,none⟩ (ja jb 0)).setCell ⟨R,5,none⟩ (ja jb 0)).setCell ⟨R,6,none⟩ (ja jb 0)).setCell ⟨R,7,none⟩ (jd none 0 0)).setCell ⟨R,8,none⟩ (jd none 0 0)).setCell ⟨R,9,none⟩ (ja jb J)).setCell ⟨R,10,none⟩ (ja jb O)).setCell ⟨R,11,none⟩ (jc ⟨#[]⟩)).setCell ⟨R,12,none⟩ (jc ⟨#[]⟩)):=⟨_,rfl⟩
  rw[<-hU];rw[show setAll aK R 0 [jc r2,ja jb n5,je false,ja jb 0,ja jb 0,ja jb 0,ja jb 0,jd none 0 0,jd none 0 0,ja jb J,ja jb O,jc ⟨#[]⟩,jc ⟨#[]⟩]=U from by rw[hU];rfl]at hA hB hC V hY;clear hU;have cw:=hA.c13;refine bodyPost_ret (v:=.agg #[jc r2,ja jb n5,je false,ja jb 0,ja jb 0,ja jb 0,ja jb 0,jd none 0 0,jd none 0 0,ja jb J,ja jb O,jc ⟨#[]⟩,jc ⟨#[]⟩]) (by simp[results,Tryz.results73,go_sem,cw]) rfl ?_;exact⟨⟨r2,n5,false,⟨0,0,0,0,[],[]⟩,J,O,⟨#[]⟩,⟨#[]⟩⟩,_,_,_,_,aU,true,rfl,⟨by show 0<=_;omega,by show 0<=_;omega,by show r2.size<=_;omega,by show 0<=_;omega,by show 0<=_;omega⟩,V,hY,cq.o,hB,hC⟩
