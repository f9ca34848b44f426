/- The series of ascending days is valid, and its days are those days. No program in sight. The event of a session fits a feed: its identifier is right, its series is valid, its days are those of the session. No program in sight. The events of a timetable from one version to the next: plain functions on ascending lists of events. No program in sight. changes.Valid and the reference's: sessions by themselves and in pairs: plain functions and contracts. A published timetable's error: plain functions. No program in sight. The least week of a set: math/bits.TrailingZeros, the reference's low. The event of a session: the reference's EventOf. -/
import Derived.Test.YtegjgjgoodekiaaGreatDoorQk21
import Derived.Test.YtegjgjgoodekiaaGreatDoorQk10
import Derived.Laws.StructEq
import Derived.Shelf.Spec.TrailingZeros
import Derived.Test.YtegjgjgoodekiaaGreatDoorQk13
open Go.Value renaming int->ja,string->jc,slice->jd,bool->je,tuple->jg
open Go.IntKind renaming i64->jb
open Go.Ending renaming returned->jh
open Go.Obj renaming cells->ji
open Bool renaming and_eq_true->xa,or_eq_true->xf
open List renaming drop_eq_getElem_cons->xb,mem_cons->xc,getElem?_eq_some_iff->xd,mem_singleton->xe,mem_append->xi,mem_of_getElem?->xj,length_append->xk,length_cons->xl
open Nat renaming le_trans->xg,le_refl->xm
open Go.World.ownsRow renaming alloc->xh
set_option maxRecDepth 100000
set_option maxHeartbeats 40000000
namespace Tt
theorem KG(ds:List Int)(s:Ser): ∀k,(exK ds s k).length+(xtK ds s k).length<=k
 | 0=>xm _
 | k+1=>by
  have ih:=KG ds s k;rw[exK,xtK];cases hr:regB s (s.first+k)with
  | true=>
   rw[if_neg (show ¬(true=false/\_)from fun h=>by cases h.1)];split
   ·rw[xk];simp;omega
   ·omega
  | false=>
   rw[if_neg (show ¬(false=true/\_)from fun h=>by cases h.1)];split
   ·rw[xk];simp;omega
   ·omega
theorem IC(ds:List Int)(s:Ser)(d:Int): ∀k,d∈exK ds s k ↔ s.first<=d/\d<s.first+k/\regB s d=true/\ ¬d∈ds
 | 0=>by simp[exK];intro w D;omega
 | k+1=>by
  have ih:=IC ds s d k;rw[exK];split
  ·rename_i h
   rw[xi,ih,xe];constructor
   ·rintro(⟨w,D,A⟩ | rfl)
    ·exact⟨w,by omega,A⟩
    ·exact⟨by omega,by omega,h⟩
   ·rintro⟨w,D,A⟩;by_cases hd:d=s.first+k
    ·exact .inr hd
    ·exact .inl ⟨w,by omega,A⟩
  ·rename_i h
   rw[ih];constructor
   ·rintro⟨w,D,A⟩;exact⟨w,by omega,A⟩
   ·rintro⟨w,D,A⟩;refine⟨w,?_,A⟩;by_cases hd:d=s.first+k
    ·subst hd;exact absurd A h
    ·omega
theorem IA(ds:List Int)(s:Ser)(d:Int): ∀k,d∈xtK ds s k ↔ s.first<=d/\d<s.first+k/\regB s d=false/\d∈ds
 | 0=>by simp[xtK];intro w D;omega
 | k+1=>by
  have ih:=IA ds s d k;rw[xtK];split
  ·rename_i h
   rw[xi,ih,xe];constructor
   ·rintro(⟨w,D,A⟩ | rfl)
    ·exact⟨w,by omega,A⟩
    ·exact⟨by omega,by omega,h⟩
   ·rintro⟨w,D,A⟩;by_cases hd:d=s.first+k
    ·exact .inr hd
    ·exact .inl ⟨w,by omega,A⟩
  ·rename_i h
   rw[ih];constructor
   ·rintro⟨w,D,A⟩;exact⟨w,by omega,A⟩
   ·rintro⟨w,D,A⟩;refine⟨w,?_,A⟩;by_cases hd:d=s.first+k
    ·subst hd;exact absurd A h
    ·omega
theorem Gf(ds:List Int)(s:Ser): ∀k,(exK ds s k).Pairwise (· < ·)
 | 0=>List.Pairwise.nil
 | k+1=>by
  rw[exK];split
  ·rw[List.pairwise_append];refine⟨Gf ds s k,List.pairwise_singleton _ _,fun a ha b hb=>?_⟩;have:=((IC ds s a k).1 ha).2.1;rw[xe]at hb;omega
  ·exact Gf ds s k
theorem FP(ds:List Int)(s:Ser): ∀k,(xtK ds s k).Pairwise (· < ·)
 | 0=>List.Pairwise.nil
 | k+1=>by
  rw[xtK];split
  ·rw[List.pairwise_append];refine⟨FP ds s k,List.pairwise_singleton _ _,fun a ha b hb=>?_⟩;have:=((IA ds s a k).1 ha).2.1;rw[xe]at hb;omega
  ·exact FP ds s k
theorem DJ(bad:Int)(ok:Int->Bool): ∀(l:List Int) (p:Option Int),l.Pairwise (· < ·)->(∀d∈l,ok d=true)->(∀q,p=some q-> ∀d∈l,q<d)->listV bad ok p l=0
 | [],_,_,_,_=>by unfold listV;rfl
 | d::r,p,hs,ho,hp=>by
  rw[listV,if_neg,if_pos (ho d (by simp))]
  ·rw[List.pairwise_cons]at hs;exact DJ bad ok r (some d) hs.2 (fun x hx=>ho x (by simp[hx])) (fun q hq x hx=>by cases hq;exact hs.1 x hx)
  ·cases p with
   | none=>simp[late]
   | some q=>have:=hp q rfl d (by simp);simp[late];omega
theorem O7{ds:List Int}(hs:ds.Pairwise (· < ·)){d:Int}(h:d∈ds):fstD ds<=d/\d<=lstD ds:=by
 constructor
 ·cases ds with
  | nil=>cases h
  | cons a r=>
   show a<=d
   rw[List.pairwise_cons]at hs;rcases xc.1 h with e | e
   ·omega
   ·have:=hs.1 d e;omega
 ·unfold lstD;rw[List.getLastD_eq_getLast?];cases hl:ds.getLast? with
  | none=>rw[List.getLast?_eq_none_iff]at hl;subst hl;cases h
  | some z=>
   show d<=z
   obtain⟨ys,rfl⟩:=List.getLast?_eq_some_iff.1 hl;rw[List.pairwise_append]at hs;rcases xi.1 h with e | e
   ·have:=hs.2.2 d e z (by simp);omega
   ·rw[xe]at e;omega
theorem TA{ds:List Int}(h:DsOk ds)(hs:ds.Pairwise (· < ·))(U:spanN ds<=140)(e m:Int)(G:1<=e)(H:e<=4)(J:0<=m)(F:m<=127):serV (serK ds e m (spanN ds))=0/\serDays (serK ds e m (spanN ds))=ds:=by
 obtain⟨X,b2,Y,b4⟩:=h.bd;have hle:=h.le;have hl:=h.sp;have O:=h.span.1;have R:=KG ds (headS ds e m) (spanN ds);have hz:serV (serK ds e m (spanN ds))=0:=by
  rw[serV_zero];refine⟨⟨X,b2,Y,b4,hle,hl,G,H,J,F,?_⟩,?_,?_⟩
  ·show((exK ds (headS ds e m) (spanN ds)).length:Int)+(xtK ds (headS ds e m) (spanN ds)).length<=140
   omega
  ·refine DJ 12 _ _ none (Gf ds _ _) (fun d hd=>?_) (fun q hq=>by cases hq);exact((IC ds _ d _).1 hd).2.2.1
  ·refine DJ 11 _ _ none (FP ds _ _) (fun d hd=>?_) (fun q hq=>by cases hq);obtain⟨M,T,A,w⟩:=(IA ds _ d _).1 hd;have E:=O7 hs w;unfold extB;have A:regB (serK ds e m (spanN ds)) d=false:=A;rw[A];simp;exact E
 refine⟨hz,?_⟩;refine FY _ _ (EM _) hs (fun d=>?_);unfold serDays;rw[if_neg (by simp[hz]),List.mem_filter];unfold span WJ;rw[Db];have D:regB (serK ds e m (spanN ds)) d=regB (headS ds e m) d:=rfl;have hx:=IC ds (headS ds e m) d (spanN ds);have hy:=IA ds (headS ds e m) d (spanN ds);rw[D];have e1:(serK ds e m (spanN ds)).ex=exK ds (headS ds e m) (spanN ds):=rfl;have e2:(serK ds e m (spanN ds)).xt=xtK ds (headS ds e m) (spanN ds):=rfl;have Z:(serK ds e m (spanN ds)).first=fstD ds:=rfl;have e4:(serK ds e m (spanN ds)).last=lstD ds:=rfl;have V:(headS ds e m).first=fstD ds:=rfl;rw[e1,e2,Z,e4];rw[V]at hx hy;simp only[xf,xa,Bool.not_eq_true',decide_eq_true_eq,decide_eq_false_iff_not];rw[hx,hy];constructor
 ·rintro⟨⟨M,T⟩,⟨A,w⟩ | ⟨_,_,_,w⟩⟩
  ·apply Decidable.byContradiction
   intro hc;exact w ⟨M,by omega,A,hc⟩
  ·exact w
 ·intro hd;have E:=O7 hs hd;refine⟨⟨E.1,by omega⟩,?_⟩;cases hr:regB (headS ds e m) d with
  | true=>exact .inl ⟨rfl,fun hc=>hc.2.2.2 hd⟩
  | false=>exact .inr ⟨E.1,by omega,rfl,hd⟩
theorem K2(ds:List Int): ∀k:Nat,∃e:Int,1<=e/\e<=(k:Int)+1/\bestK ds k=withV ds e
 | 0=>⟨1,by omega,by omega,rfl⟩
 | k+1=>by
  rw[bestK];split
  ·exact⟨(k:Int)+2,by omega,by omega,rfl⟩
  ·obtain⟨e,w,D,A⟩:=K2 ds k;exact⟨e,w,by omega,A⟩
theorem U6{ds:List Int}(h:DsOk ds)(hs:ds.Pairwise (· < ·))(w:spanN ds<=140):serV (ofV ds)=0/\serDays (ofV ds)=ds:=by
 obtain⟨e,A,E,D⟩:=K2 ds 3;unfold ofV;rw[D];have:=wdK_lt ds e 7 (by omega);exact TA h hs w e _ A (by omega) (by omega) (by omega)
end Tt
namespace Tt
theorem O2(w:Int): ∀(n k:Nat),(∃i:Nat,k<=i/\i<k+n/\bit w (i:Nat)=true)->lowB w n k<k+n
 | 0,k,⟨i,h1,h2,_⟩=>by omega
 | n+1,k,⟨i,h1,h2,h3⟩=>by
  rw[lowB];split
  ·omega
  ·rename_i hb
   have A:i≠k:=fun e=>hb (by rw[<-e];exact h3)
   have:=O2 w n (k+1) ⟨i,by omega,by omega,h3⟩;omega
theorem low_week{w:Int}(h:weeksB w 20=true):lowB w 20 0<20:=by
 have hs:=weeks_some h;have hx: ∃i:Nat,0<=i/\i<0+20/\bit w (i:Nat)=true:=by
  apply Classical.byContradiction
  intro hc;apply hs;intro i hi;cases hb:bit w (i:Nat)with
  | false=>rfl
  | true=>exact absurd ⟨i,Nat.zero_le _,by omega,hb⟩ hc
 have:=O2 w 20 0 hx;omega
theorem Ow(t:Trm)(x:Tim)(h:daysK t x 20≠[]):spanN (daysK t x 20)<=140:=by
 have ho:=daysK_ok t x h;have w:=E8 t x (xj ho.first);have A:=E8 t x (xj ho.last);have D:=ho.span.1;omega
theorem of_days(t:Trm)(x:Tim)(h:daysK t x 20≠[]):serV (ofV (daysK t x 20))=0/\serDays (ofV (daysK t x 20))=daysK t x 20:=
 U6 (daysK_ok t x h) (Em t x 20) (Ow t x h)
theorem Q2(c:UInt8)(h:(alnum c || sign c)=true):32<=c.toNat/\c.toNat<=126:=by
 unfold alnum sign at h;simp only[xf,xa,decide_eq_true_eq,beq_iff_eq,UInt8.le_iff_toNat_le]at h;have e1:(48:UInt8).toNat=48:=rfl;have e2:(57:UInt8).toNat=57:=rfl;have E:(65:UInt8).toNat=65:=rfl;have A:(90:UInt8).toNat=90:=rfl;have w:(97:UInt8).toNat=97:=rfl;have D:(122:UInt8).toNat=122:=rfl;rcases h with((h | h) | h) | h | h
 ·omega
 ·omega
 ·omega
 ·subst h;decide
 ·subst h;decide
theorem code_lab{l:List UInt8}(h:code l=true):labB l=true/\0<l.length:=by
 cases l with
 | nil=>cases h
 | cons c r=>
  unfold code at h;simp only[xa,decide_eq_true_eq]at h;obtain⟨⟨D,A⟩,w⟩:=h;unfold codeTail at w;have hall: ∀x∈c::r,(alnum x || sign x)=true:=by
   intro x hx;rcases xc.1 hx with e | e
   ·rw[e,A];rfl
   ·exact List.all_eq_true.1 w x e
  refine⟨?_,by simp⟩;unfold labB;rw[xa,decide_eq_true_eq];refine⟨List.all_eq_true.2 fun x hx=>?_,by omega⟩;have:=Q2 x (hall x hx);unfold labC;simp only[xf,xa,decide_eq_true_eq];exact .inr this
end Tt
namespace Go.Proofs.YtegjgjgoodekiaaGreatDoor
open Go.RowKit
structure GP (g:Tt.Grd) (t:Tt.Trm) (s:Az):Prop where
 hg:Tt.gridV g=0
 ht:Tt.trmV t=0
 hc:Tt.code s.cls.data.toList=true
 hr:EN s.room=true
 hf:Tt.fitsV g t.weeks s.tim=0
 hd:Tt.daysK t s.tim 20≠[]
theorem Pd(g:Tt.Grd)(t:Tt.Trm)(s:Az):On g t s=true ↔ GP g t s:=by
 unfold On;simp only[xa,decide_eq_true_eq,Bool.not_eq_true',decide_eq_false_iff_not];exact⟨fun⟨a,b,c,d,e,f⟩=>⟨a,b,c,d,e,f⟩,fun⟨a,b,c,d,e,f⟩=>⟨a,b,c,d,e,f⟩⟩
theorem LY(s:Az):(IJ s).data.toList=s.cls.data.toList++64::Lib.decDigits (Tt.lowB s.tim.weeks 20 0+1):=by
 unfold IJ;simp
theorem Pv{g:Tt.Grd}{t:Tt.Trm}{s:Az}(h:GP g t s):A8 (IJ s).data.toList=true:=by
 have w:=(Tt.soundB_iff _).1 (Tt.fits_parts h.hf).1;have hl:=Tt.low_week w.1;unfold A8;rw[LY,Tt.rightP_last _ Oz,h.hc];show Tt.numFrom _ 1=true
 unfold Tt.numFrom;rw[decide_eq_true_iff];exact⟨_,by omega,by omega,rfl⟩
theorem QI{g:Tt.Grd}{t:Tt.Trm}{s:Az}(h:GP g t s)(q:Int):Tt.serV (GJ g t s q).days=0/\Tt.serDays (GJ g t s q).days=Tt.daysK t s.tim 20:=by
 have:=Tt.of_days t s.tim h.hd;exact this
theorem Ol{g:Tt.Grd}{t:Tt.Trm}{s:Az}(h:GP g t s)(q v:Int)(T:1<=q)(J:q<=v):Ax (GJ g t s q) v=0:=by
 obtain⟨d1,d2⟩:=QI h q;obtain⟨D,E⟩:=Tt.fits_parts h.hf;obtain⟨-, -, -,G,U,A,M⟩:=(Tt.soundB_iff _).1 D;have hg:=h.hg;have hp:=Tt.grid_parts hg;have w:1440≥g.begin_+g.slots*g.mins:=by
  unfold Tt.gridV at hg;split at hg
  ·cases hg
  ·omega
 have H:(s.tim.start+s.tim.len)*g.mins<=g.slots*g.mins:=Int.mul_le_mul_of_nonneg_right E (by omega);have R:1*g.mins<=s.tim.len*g.mins:=Int.mul_le_mul_of_nonneg_right A (by omega);have O:0<=s.tim.start*g.mins:=Int.mul_nonneg G (by omega);rw[Int.add_mul]at H;obtain⟨c1,c2⟩:=Tt.code_lab h.hc;unfold Ax;rw[if_neg (by show ¬(q<1∨v<q);omega),if_neg (by rw[d1];simp),if_neg (by rw[d2];exact h.hd),if_neg,if_neg]
 ·have hs:(GJ g t s q).summ=s.cls:=rfl;have hl:(GJ g t s q).loc=s.room:=rfl;rw[hs,hl,c1];have F:s.cls.data.toList.length=s.cls.size:=by rw[Array.length_toList];rfl
  have hr:Tt.labB s.room.data.toList=true:=by
   have:=h.hr;unfold EN at this;rw[xf]at this;rcases this with e | e
   ·rw[List.isEmpty_iff.1 e];rfl
   ·exact(Tt.code_lab e).1
  rw[hr];rintro(e | e | e)
  ·omega
  ·cases e
  ·cases e
 ·show ¬(g.begin_+s.tim.start*g.mins<0∨1440<=g.begin_+s.tim.start*g.mins∨s.tim.len*g.mins<1∨1440<s.tim.len*g.mins)
  omega
def Cp(u:ByteArray)(es:List Ev):Option Ev:=es.find? (fun e=>decide (e.uid=u))
theorem D0{u:ByteArray}{es:List Ev}{e:Ev}(h:Cp u es=some e):e∈es/\e.uid=u:=by
 unfold Cp at h;exact⟨List.mem_of_find?_eq_some h,by have:=List.find?_some h;simpa using this⟩
theorem KN{u:ByteArray}{es:List Ev}(h:Cp u es=none): ∀e∈es,e.uid≠u:=by
 unfold Cp at h;rw[List.find?_eq_none]at h;intro e he hu;exact h e he (by simpa using hu)
def CK(k:Int)(es:List Ev)(e:Ev):List Ev:=
 match Cp e.uid es with
 | some o=>if { o with seq:=k }=e then es else Cl e es
 | none=>Cl e es
def Dp(k:Int)(here:List ByteArray)(e:Ev):Ev:=if(e.canc || here.any (fun u=>decide (u=e.uid)))=true then e else { e with canc:=true,seq:=k }
def Nz(k:Int)(here:List ByteArray)(es:List Ev):List Ev:=es.map (Dp k here)
def Ca(g:Tt.Grd)(t:Tt.Trm)(k:Int)(l:List Az):List Ev:=(l.filter (On g t)).map (fun s=>GJ g t s k)
theorem NS(g:Tt.Grd)(t:Tt.Trm)(k:Int)(l:List Az)(s:Az):Ca g t k (l++[s])=Ca g t k l++(if On g t s=true then[GJ g t s k]else[]):=by
 unfold Ca;rw[List.filter_append,List.map_append];congr 1
 by_cases h:On g t s=true
 ·rw[if_pos h];simp[h]
 ·rw[if_neg h];simp[h]
def Gh(g:Tt.Grd)(t:Tt.Trm)(k:Int)(l:List Az)(es:List Ev):List Ev:=
 Nz k ((Ca g t k l).map (·.uid)) ((Ca g t k l).foldl (CK k) es)
def Bp(g:Tt.Grd)(t:Tt.Trm):Int->List (List Az)->List Ev->List Ev
 | _,[],es=>es
 | k,l::r,es=>Bp g t (k+1) r (Gh g t k l es)
theorem I9(g:Tt.Grd)(t:Tt.Trm): ∀(ls:List (List Az)) (l:List Az) (k:Int) (es:List Ev),Bp g t k (ls++[l]) es=Gh g t (k+ls.length) l (Bp g t k ls es)
 | [],l,k,es=>by simp[Bp]
 | a::r,l,k,es=>by
  rw[List.cons_append,Bp,I9 g t r l (k+1),Bp];congr 1
  rw[xl];push_cast
  omega
theorem Fo(k:Int)(w:List ByteArray)(e:Ev):(Dp k w e).uid=e.uid:=by
 unfold Dp;split<;>rfl
theorem OJ{k:Int}{es:List Ev}{e:Ev}(hr:A8 e.uid.data.toList=true)(hc:Ax e k=0)(h:Bn k none es=0):Bn k none (CK k es e)=0:=by
 have hp:=GI k e hr hc es none rfl h;unfold CK;split
 ·split
  ·exact h
  ·exact hp
 ·exact hp
theorem Ic{k:Int}: ∀(fs es:List Ev),(∀e∈fs,A8 e.uid.data.toList=true/\Ax e k=0)->Bn k none es=0->Bn k none (fs.foldl (CK k) es)=0
 | [],_,_,h=>h
 | e::r,es,hf,h=>Ic r _ (fun x hx=>hf x (by simp[hx])) (OJ (hf e (by simp)).1 (hf e (by simp)).2 h)
theorem OD{e:Ev}{k:Int}(w:1<=k)(h:Ax e k=0):Ax { e with canc:=true,seq:=k } k=0:=by
 unfold Ax at h ⊢;split at h
 ·cases h
 ·rename_i g1
  rw[if_neg (by show ¬(k<1∨k<k);omega)];exact h
theorem KV{k:Int}(A:1<=k)(w:List ByteArray): ∀(es:List Ev) (p:Option ByteArray),Bn k p es=0->Bn k p (Nz k w es)=0
 | [],_,h=>h
 | e::r,p,h=>by
  rw[BL]at h;show Bn k p (Dp k w e::Nz k w r)=0
  rw[BL,Fo];refine⟨h.1,h.2.1,?_,KV A w r _ h.2.2.2⟩;unfold Dp;split
  ·exact h.2.2.1
  ·exact OD A h.2.2.1
theorem OI{g:Tt.Grd}{t:Tt.Trm}{k:Int}{l:List Az}{es:List Ev}(w:1<=k)(h:Bn (k - 1) none es=0):Bn k none (Gh g t k l es)=0:=by
 unfold Gh;refine KV w _ _ _ (Ic _ _ (fun e he=>?_) (Hf (by omega) _ _ h));unfold Ca at he;obtain⟨s,hs,rfl⟩:=List.mem_map.1 he;have hp:=(Pd g t s).1 (by simpa using(List.mem_filter.1 hs).2);exact⟨Pv hp,Ol hp k k w (Int.le_refl _)⟩
theorem EV{g:Tt.Grd}{t:Tt.Trm}: ∀(ls:List (List Az)) (k:Int) (es:List Ev),0<=k->Bn k none es=0->Bn (k+ls.length) none (Bp g t (k+1) ls es)=0
 | [],k,es,_,h=>by simpa[Bp]using h
 | l::r,k,es,h0,h=>by
  rw[Bp];have:=EV (g:=g) (t:=t) r (k+1) _ (by omega) (OI (g:=g) (t:=t) (l:=l) (k:=k+1) (by omega) (by rw[show k+1 - 1=k by omega];exact h));rw[xl];have e:k+((r.length+1:Nat):Int)=k+1+r.length:=by omega
  rw[e];exact this
def BG(es:List Ev):Prop:=es.Pairwise (fun a b=>A4 a.uid b.uid=true)
theorem BG.one{es:List Ev}(h:BG es){a b:Ev}(ha:a∈es)(hb:b∈es)(he:a.uid=b.uid):a=b:=by
 induction es with
 | nil=>cases ha
 | cons x r ih=>
  obtain⟨A,D⟩:=List.pairwise_cons.1 h;rcases xc.1 ha with e1 | w
  ·rcases xc.1 hb with e2 | hb1
   ·rw[e1,e2]
   ·have:=A b hb1;rw[<-e1,he,Ch]at this;cases this
  ·rcases xc.1 hb with e2 | hb1
   ·have:=A a w;rw[<-e2,he,Ch]at this;cases this
   ·exact ih D w hb1
theorem EU(e x:Ev): ∀es:List Ev,x∈Cl e es->x=e∨x∈es
 | [],h=>by rw[Cl]at h;exact .inl (xe.1 h)
 | s::r,h=>by
  rw[Cl]at h;split at h
  ·rcases xc.1 h with h | h
   ·exact .inr (by simp[h])
   ·rcases EU e x r h with h | h
    ·exact .inl h
    ·exact .inr (by simp[h])
  ·split at h
   ·rcases xc.1 h with h | h
    ·exact .inl h
    ·exact .inr (by simp[h])
   ·rcases xc.1 h with h | h
    ·exact .inl h
    ·exact .inr h
theorem Ob{a b:ByteArray}(h: ¬A4 a b=true)(hne: ¬a=b):A4 b a=true:=G8 (DH (by simpa using h) hne)
theorem BG.put{e:Ev}: ∀{es:List Ev},BG es->BG (Cl e es)
 | [],_=>List.pairwise_singleton _ _
 | s::r,h=>by
  obtain⟨w,A⟩:=List.pairwise_cons.1 h;rw[Cl];split
  ·rename_i g
   refine List.pairwise_cons.2 ⟨fun x hx=>?_,BG.put A⟩;rcases EU e x r hx with rfl | hx
   ·exact g
   ·exact w x hx
  ·rename_i g
   split
   ·rename_i g2
    exact List.pairwise_cons.2 ⟨fun x hx=>by rw[<-g2];exact w x hx,A⟩
   ·rename_i g2
    have hl:=Ob g g2;refine List.pairwise_cons.2 ⟨fun x hx=>?_,h⟩;rcases xc.1 hx with rfl | hx
    ·exact hl
    ·exact CX hl (w x hx)
theorem BG.adv{k:Int}{es:List Ev}{e:Ev}(h:BG es):BG (CK k es e):=by
 unfold CK;split
 ·split
  ·exact h
  ·exact h.put
 ·exact h.put
theorem BG.gone{k:Int}{w:List ByteArray}{es:List Ev}(h:BG es):BG (Nz k w es):=by
 unfold BG Nz;rw[List.pairwise_map];exact h.imp (fun A=>by rw[Fo,Fo];exact A)
theorem Jq{es:List Ev}{o:Ev}(h:BG es)(ho:o∈es):Cp o.uid es=some o:=by
 cases hg:Cp o.uid es with
 | none=>exact absurd rfl (KN hg o ho)
 | some x=>
  obtain⟨w,A⟩:=D0 hg;rw[h.one w ho A]
def FZ(s:Az)(n:Int):Int:=if Tt.code s.cls.data.toList=false then 10 else if(Tt.soundB s.tim && Tt.weeksB s.tim.weeks n)=false then 14 else if EN s.room=false then 10 else 0
theorem PW{s:Az}{n:Int}(h:Tt.code s.cls.data.toList=false):FZ s n=10:=if_pos h
theorem Kv{s:Az}{n:Int}(h:Tt.code s.cls.data.toList=true)(w:(Tt.soundB s.tim && Tt.weeksB s.tim.weeks n)=false):FZ s n=14:=(if_neg (by rw[h];decide)).trans (if_pos w)
theorem PV{s:Az}{n:Int}(h:Tt.code s.cls.data.toList=true)(w:(Tt.soundB s.tim && Tt.weeksB s.tim.weeks n)=true)(A:EN s.room=false):FZ s n=10:=(if_neg (by rw[h];decide)).trans ((if_neg (by rw[w];decide)).trans (if_pos A))
theorem Lj{s:Az}{n:Int}(h:Tt.code s.cls.data.toList=true)(w:(Tt.soundB s.tim && Tt.weeksB s.tim.weeks n)=true)(A:EN s.room=true):FZ s n=0:=(if_neg (by rw[h];decide)).trans ((if_neg (by rw[w];decide)).trans (if_neg (by rw[A];decide)))
def WV(a b:Az):Bool:=bits .and .i64 a.tim.weeks b.tim.weeks !=0
def Gy(a b:Az):Bool:=decide (a.cls=b.cls) && WV a b
def H9(a b:Az):Bool:=decide (a.cls=b.cls) && (decide (a.tim.day=b.tim.day) && (decide (a.tim.start=b.tim.start) && (decide (a.tim.len=b.tim.len) && decide (a.room=b.room))))
theorem ME{a b:ByteArray}(h: ¬a=b):(a.toList==b.toList)=false:=by
 rw[beq_eq_false_iff_ne];intro e;rw[Lib.toList_data,Lib.toList_data]at e;exact h (ByteArray.ext (Array.toList_inj.mp e))
theorem Fq(a b:ByteArray):(a.toList==b.toList)=decide (a=b):=by
 by_cases h:a=b
 ·rw[h];simp
 ·rw[ME h,decide_eq_false h]
theorem SR(s:Az)(n:Int)(w:World):Calls Tryz.prog 59 #[Cv s,ja jb n] w fun e w'=>e=jh (ja jb (FZ s n))/\Below w.heap.size w w':=by
 obtain⟨X,V⟩: ∃x,x=w.heap.size:=⟨_,rfl⟩
 obtain⟨w0,J⟩: ∃x,x=w.alloc (ji #[jc s.cls,ja jb s.tim.weeks,ja jb s.tim.day,ja jb s.tim.start,ja jb s.tim.len,jc s.room] 93):=⟨_,rfl⟩
 have D:=Lh (show Af X #[jc s.cls,ja jb s.tim.weeks,ja jb s.tim.day,ja jb s.tim.start,ja jb s.tim.len,jc s.room] 93 w0 from by rw[J,V];exact Af.new w _ _);have G:=Lh (show Below w.heap.size w w0 from by rw[J];exact Aa w _);obtain⟨A,hA⟩: ∃A,Tt.code s.cls.data.toList=A:=⟨_,rfl⟩
 obtain⟨S,hS⟩: ∃S,Tt.soundB s.tim=S:=⟨_,rfl⟩
 obtain⟨W,hW⟩: ∃W,Tt.weeksB s.tim.weeks n=W:=⟨_,rfl⟩
 obtain⟨R,hR⟩: ∃R,Tt.code s.room.data.toList=R:=⟨_,rfl⟩
 have M:=Lh hA;have U:=Lh hS;have Z:=Lh hW;have HR:=Lh hR;clear hA hS hW hR;have H1:=Lh (JK s.cls w0);rw[M.o]at H1;have T:=Lh (Mg s.tim w0);rw[U.o]at T;unfold D8 at T;unfold Cv AE;have x0:w0.cell? ⟨X,0,none⟩=some (jc s.cls):=D.o.cell 0;have x1:w0.cell? ⟨X,1,none⟩=some (ja jb s.tim.weeks):=D.o.cell 1;have x2:w0.cell? ⟨X,2,none⟩=some (ja jb s.tim.day):=D.o.cell 2;have x3:w0.cell? ⟨X,3,none⟩=some (ja jb s.tim.start):=D.o.cell 3;have x4:w0.cell? ⟨X,4,none⟩=some (ja jb s.tim.len):=D.o.cell 4;have x5:w0.cell? ⟨X,5,none⟩=some (jc s.room):=D.o.cell 5;go_enter Tryz.func59,Tryz.ntmps59;go_upto_region 1 with(fail);rw[<-J,<-V];clear J V;go_wp2_with fail;refine H1.o.mono ?_;clear H1;rintro e w1 ⟨rfl,hx⟩;rw[hx];clear hx w1;cases A
 ·go_wp2_with fail;go_ret;exact⟨Aj (PW M.o).symm,G.o⟩
 go_wp2_with fail;refine T.o.mono ?_;clear T;rintro e w2 ⟨rfl,hb⟩;have F:=Lh (G.o.trans (hb.mono G.o.size));have E:=Lh (D.o.below hb D.o.lt);clear hb x0 x1 x2 x3 x4 x5 D G;cases S
 ·go_wp2_with fail;go_ret;exact⟨Aj (Kv M.o (by rw[U.o];rfl)).symm,F.o⟩
 have x0:w2.cell? ⟨X,0,none⟩=some (jc s.cls):=E.o.cell 0;have x1:w2.cell? ⟨X,1,none⟩=some (ja jb s.tim.weeks):=E.o.cell 1;have x2:w2.cell? ⟨X,2,none⟩=some (ja jb s.tim.day):=E.o.cell 2;have x3:w2.cell? ⟨X,3,none⟩=some (ja jb s.tim.start):=E.o.cell 3;have x4:w2.cell? ⟨X,4,none⟩=some (ja jb s.tim.len):=E.o.cell 4;have x5:w2.cell? ⟨X,5,none⟩=some (jc s.room):=E.o.cell 5;have H3:=Lh (ED s.tim.weeks n w2);rw[Z.o]at H3;go_wp2_with fail;refine H3.o.mono ?_;clear H3;rintro e w3 ⟨rfl,hx⟩;rw[hx];clear hx w3;cases W
 ·go_wp2_with fail;go_ret;exact⟨Aj (Kv M.o (by rw[U.o,Z.o];rfl)).symm,F.o⟩
 have Y:=Lh (show(Tt.soundB s.tim && Tt.weeksB s.tim.weeks n)=true from by rw[U.o,Z.o];rfl);by_cases hr:s.room=⟨#[]⟩
 ·have H:=Lh (show EN s.room=true from by rw[hr];rfl);have O:s.room.toList=[]:=by rw[Lib.toList_data,hr]
  have aa:(!s.room.toList.isEmpty)=false:=by rw[O];rfl
  clear hr;go_wp2_with fail;go_ret;exact⟨Aj (Lj M.o Y.o H.o).symm,F.o⟩
 have hl:s.room.data.toList≠[]:=fun h=>hr (by cases hs:s.room with | mk d=>rw[hs]at h;simp at h;rw[h])
 have H:=Lh (show EN s.room=R from by unfold EN;rw[HR.o,List.isEmpty_eq_false_iff.2 hl];rfl);have O:(!s.room.toList.isEmpty)=true:=by rw[Lib.toList_data,List.isEmpty_eq_false_iff.2 hl];rfl
 have ab:s.room.toList.isEmpty=false:=by rw[Lib.toList_data,List.isEmpty_eq_false_iff.2 hl]
 clear hr hl;have H4:=Lh (JK s.room w2);rw[HR.o]at H4;go_wp2_with fail;refine H4.o.mono ?_;clear H4;rintro e w3 ⟨rfl,hx⟩;rw[hx];clear hx w3;cases R
 ·go_wp2_with fail;go_ret;exact⟨Aj (PV M.o Y.o H.o).symm,F.o⟩
 ·go_wp2_with fail;go_ret;exact⟨Aj (Lj M.o Y.o H.o).symm,F.o⟩
theorem S9(a b:Az)(w:World):Calls Tryz.prog 61 #[Cv a,Cv b] w fun e w'=>e=jh (je (H9 a b))/\Below w.heap.size w w':=by
 obtain⟨X,O⟩: ∃x,x=w.heap.size:=⟨_,rfl⟩
 obtain⟨Y,Z⟩: ∃x,x=w.heap.size+1:=⟨_,rfl⟩
 obtain⟨w0,J⟩: ∃x,x=(w.alloc (ji #[jc a.cls,ja jb a.tim.weeks,ja jb a.tim.day,ja jb a.tim.start,ja jb a.tim.len,jc a.room] 93)).alloc (ji #[jc b.cls,ja jb b.tim.weeks,ja jb b.tim.day,ja jb b.tim.start,ja jb b.tim.len,jc b.room] 93):=⟨_,rfl⟩
 have A:=Lh (show Af X #[jc a.cls,ja jb a.tim.weeks,ja jb a.tim.day,ja jb a.tim.start,ja jb a.tim.len,jc a.room] 93 w0 from by rw[J,O];exact(Af.new w _ _).alloc _);have D:=Lh (show Af Y #[jc b.cls,ja jb b.tim.weeks,ja jb b.tim.day,ja jb b.tim.start,ja jb b.tim.len,jc b.room] 93 w0 from by rw[J,Z];exact Af.new' _ _ _ (by simp));have U:=Lh (show Below w.heap.size w w0 from by rw[J];exact(Aa w _).trans ((Aa _ _).mono (by simp)));have R:w.heap.size<=X:=by omega
 have V:w.heap.size<=Y:=by omega
 have M:X≠Y:=by omega
 unfold Cv AE;have x0:w0.cell? ⟨X,0,none⟩=some (jc a.cls):=A.o.cell 0;have x1:w0.cell? ⟨X,1,none⟩=some (ja jb a.tim.weeks):=A.o.cell 1;have x2:w0.cell? ⟨X,2,none⟩=some (ja jb a.tim.day):=A.o.cell 2;have x3:w0.cell? ⟨X,3,none⟩=some (ja jb a.tim.start):=A.o.cell 3;have x4:w0.cell? ⟨X,4,none⟩=some (ja jb a.tim.len):=A.o.cell 4;have x5:w0.cell? ⟨X,5,none⟩=some (jc a.room):=A.o.cell 5;have y0:w0.cell? ⟨Y,0,none⟩=some (jc b.cls):=D.o.cell 0;have y1:w0.cell? ⟨Y,1,none⟩=some (ja jb b.tim.weeks):=D.o.cell 1;have y2:w0.cell? ⟨Y,2,none⟩=some (ja jb b.tim.day):=D.o.cell 2;have y3:w0.cell? ⟨Y,3,none⟩=some (ja jb b.tim.start):=D.o.cell 3;have y4:w0.cell? ⟨Y,4,none⟩=some (ja jb b.tim.len):=D.o.cell 4;have y5:w0.cell? ⟨Y,5,none⟩=some (jc b.room):=D.o.cell 5;go_enter Tryz.func61,Tryz.ntmps61;go_upto_region 1 with(fail);rw[<-J,<-Z,<-O];clear J;clear O Z;have f1:=A.o.frozen 1;have g1:=D.o.frozen 1;skip;obtain⟨E,H⟩: ∃x,x=(w0.setCell ⟨X,1,none⟩ (ja jb 0)).setCell ⟨Y,1,none⟩ (ja jb 0):=⟨_,rfl⟩
 go_upto_region 2 with(fail);rw[<-H];have F:=Lh (show Af X #[jc a.cls,ja jb 0,ja jb a.tim.day,ja jb a.tim.start,ja jb a.tim.len,jc a.room] 93 E from by rw[H];exact(A.o.set 1 _).set_other M 1 _);have G:=Lh (show Af Y #[jc b.cls,ja jb 0,ja jb b.tim.day,ja jb b.tim.start,ja jb b.tim.len,jc b.room] 93 E from by rw[H];exact(D.o.set_other (Ne.symm M) 1 _).set 1 _);have T:=Lh (show Below w.heap.size w E from by rw[H];exact(U.o.setCell R _).setCell V _);clear H f1 g1 x0 y0 x1 y1 x2 y2 x3 y3 x4 y4 x5 y5;have x0:E.cell? ⟨X,0,none⟩=some (jc a.cls):=F.o.cell 0;have x1:E.cell? ⟨X,1,none⟩=some (ja jb 0):=F.o.cell 1;have x2:E.cell? ⟨X,2,none⟩=some (ja jb a.tim.day):=F.o.cell 2;have x3:E.cell? ⟨X,3,none⟩=some (ja jb a.tim.start):=F.o.cell 3;have x4:E.cell? ⟨X,4,none⟩=some (ja jb a.tim.len):=F.o.cell 4;have x5:E.cell? ⟨X,5,none⟩=some (jc a.room):=F.o.cell 5;have y0:E.cell? ⟨Y,0,none⟩=some (jc b.cls):=G.o.cell 0;have y1:E.cell? ⟨Y,1,none⟩=some (ja jb 0):=G.o.cell 1;have y2:E.cell? ⟨Y,2,none⟩=some (ja jb b.tim.day):=G.o.cell 2;have y3:E.cell? ⟨Y,3,none⟩=some (ja jb b.tim.start):=G.o.cell 3;have y4:E.cell? ⟨Y,4,none⟩=some (ja jb b.tim.len):=G.o.cell 4;have y5:E.cell? ⟨Y,5,none⟩=some (jc b.room):=G.o.cell 5;go_wp2_with fail
 all_goals go_ret
 all_goals refine⟨Ag ?_,T.o⟩
 all_goals unfold H9
 all_goals rw[<-Fq,<-Fq]
 all_goals simp[*]
def N9(s:Az):Int:=(Tt.lowB s.tim.weeks 20 0:Nat)+1
def Q0(a b:Az):Bool:=A4 a.cls b.cls || (decide (a.cls=b.cls) && decide (N9 a<N9 b))
def Ee(n:Int):List Az->Int
 | []=>0
 | s::r=>if FZ s n≠0 then FZ s n else Ee n r
def F5:List Az->Bool
 | a::b::r=>Q0 a b && F5 (b::r)
 | _=>true
def EF(a b:Az):Bool:=Gy a b || H9 a b
def Dd:List Az->List Az->Bool
 | _,[]=>false
 | pre,s::r=>pre.any (EF s) || Dd (pre++[s]) r
def C3(l:List Az)(n:Int):Int:=
 if n<1∨20<n then 3 else if 96<(l.length:Int)then 2 else if Ee n l≠0 then Ee n l else if F5 l=false then 63 else if Dd [] l=true then 11 else 0
theorem PT(n:Int)(l:List Az)(k:Nat)(s:Az)(h:l[k]?=some s):Ee n (l.drop k)=if FZ s n≠0 then FZ s n else Ee n (l.drop (k+1)):=by
 obtain⟨w,A⟩:=xd.1 h;rw[xb w,A];rfl
theorem Ku(n:Int): ∀(l:List Az),Ee n l=0-> ∀s∈l,FZ s n=0
 | [],_,s,hs=>by cases hs
 | a::r,h,s,hs=>by
  rw[Ee]at h;split at h
  ·rename_i g;exact absurd h g
  ·rename_i g
   rcases xc.1 hs with rfl | hs
   ·simpa using g
   ·exact Ku n r h s hs
theorem Qk(l:List Az)(k:Nat)(a b:Az)(h:l[k]?=some a)(w:l[k+1]?=some b):F5 (l.drop k)=(Q0 a b && F5 (l.drop (k+1))):=by
 obtain⟨g1,g2⟩:=xd.1 h;obtain⟨g3,g4⟩:=xd.1 w;rw[xb g1,g2,xb g3,g4];rfl
theorem RN(l:List Az)(k:Nat)(h:l.length<=k+1):F5 (l.drop k)=true:=by
 rcases Nat.lt_or_ge k l.length with w | w
 ·rw[xb w,List.drop_eq_nil_of_le h];rfl
 ·rw[List.drop_eq_nil_of_le w];rfl
theorem QL(l:List Az)(k:Nat)(s:Az)(h:l[k]?=some s):Dd (l.take k) (l.drop k)=((l.take k).any (EF s) || Dd (l.take (k+1)) (l.drop (k+1))):=by
 obtain⟨g1,g2⟩:=xd.1 h;rw[xb g1,g2,Dd,List.take_add_one,h];rfl
theorem S7(p:Az->Bool)(l:List Az)(i k:Nat)(s:Az)(h:l[k]?=some s)(hk:k<i):((l.take i).drop k).any p=(p s || ((l.take i).drop (k+1)).any p):=by
 obtain⟨g1,g2⟩:=xd.1 h;have hl:k<(l.take i).length:=by rw[List.length_take];omega
 rw[xb hl,List.getElem_take,g2,List.any_cons]
theorem Mi{s:Az}{n:Int}(h:FZ s n=0):Tt.weeksB s.tim.weeks 20=true:=by
 unfold FZ at h;split at h
 ·cases h
 ·split at h
  ·cases h
  ·rename_i g
   have g2:(Tt.soundB s.tim && Tt.weeksB s.tim.weeks n)=true:=by simpa using g
   rw[xa]at g2;exact((Tt.soundB_iff _).1 g2.1).1
end Go.Proofs.YtegjgjgoodekiaaGreatDoor
namespace Tt
end Tt
namespace Go.Proofs.YtegjgjgoodekiaaGreatDoor
open Go.RowKit
theorem SB{g:Tt.Grd}{t:Tt.Trm}{s:Az}{q:Int}(h:On g t s=true):Oj g t s q=GJ g t s q:=by unfold Oj;rw[if_pos h]
theorem LD{l:List UInt8}(h:Tt.code l=true):l.length<=16:=by
 cases l with
 | nil=>cases h
 | cons a r=>
  unfold Tt.code at h;rw[xa,xa]at h;exact of_decide_eq_true h.1.1
theorem Lz{g:Tt.Grd}{t:Tt.Trm}{s:Az}{q:Int}{e:Ev}{b:Bool}{w:World}{x:Ending}{w':World}(hb:On g t s=b)(he:(if b=true then GJ g t s q else SC)=e)(h:UB e b w x w'):UB (Oj g t s q) (On g t s) w x w':=by
 have:Oj g t s q=e:=by unfold Oj;rw[hb];exact he
 rw[this,hb];exact h
theorem WR(g:Tt.Grd)(t:Tt.Trm)(s:Az)(q:Int)(ao:Option Addr)(c:Nat)(B:Nat)(w:World)(hB:B<=w.heap.size)(hI:Ints B w ao t.hols)(hn:t.hols.length<=4611686018427387903):Calls Tryz.prog 37 #[Cj g,Cu t (jd ao t.hols.length c),Cv s,ja jb q] w (UB (Oj g t s q) (On g t s) w):=by
 obtain⟨P,az⟩: ∃b,b=w.heap.size:=⟨_,rfl⟩
 obtain⟨Q,hQ⟩: ∃b,b=w.heap.size+1:=⟨_,rfl⟩
 obtain⟨M,hM⟩: ∃b,b=w.heap.size+1+1:=⟨_,rfl⟩
 obtain⟨R,hR⟩: ∃b,b=w.heap.size+1+1+1:=⟨_,rfl⟩
 obtain⟨W,hW⟩: ∃W,W=((((w.alloc (ji #[ja jb g.days,ja jb g.slots,ja jb g.begin_,ja jb g.mins] 65)).alloc (ji #[ja jb t.first,ja jb t.weeks,jd ao t.hols.length c] 68)).alloc (ji #[jc s.cls,ja jb s.tim.weeks,ja jb s.tim.day,ja jb s.tim.start,ja jb s.tim.len,jc s.room] 93)).alloc (ji #[jc ⟨#[]⟩,ja jb 0,je false,ja jb 0,ja jb 0,ja jb 0,ja jb 0,jd none 0 0,jd none 0 0,ja jb 0,ja jb 0,jc ⟨#[]⟩,jc ⟨#[]⟩] 61)):=⟨_,rfl⟩
 have D:=Lh (show Below w.heap.size w W from by rw[hW];exact(((Aa w _).trans ((Aa _ _).mono (by simp))).trans ((Aa _ _).mono (by simp<;>omega))).trans ((Aa _ _).mono (by simp<;>omega)));have aW:=Lh (show Af P #[ja jb g.days,ja jb g.slots,ja jb g.begin_,ja jb g.mins] 65 W from by rw[hW,az];exact(((Af.new' w _ _ rfl).alloc _).alloc _).alloc _);have aO:=Lh (show Af Q #[ja jb t.first,ja jb t.weeks,jd ao t.hols.length c] 68 W from by rw[hW,hQ];exact((Af.new' _ _ _ (by simp)).alloc _).alloc _);have aC:=Lh (show Af M #[jc s.cls,ja jb s.tim.weeks,ja jb s.tim.day,ja jb s.tim.start,ja jb s.tim.len,jc s.room] 93 W from by rw[hW,hM];exact(Af.new' _ _ _ (by simp)).alloc _);have H:=Lh (show Af R #[jc ⟨#[]⟩,ja jb 0,je false,ja jb 0,ja jb 0,ja jb 0,ja jb 0,jd none 0 0,jd none 0 0,ja jb 0,ja jb 0,jc ⟨#[]⟩,jc ⟨#[]⟩] 61 W from by rw[hW,hR];exact Af.new' _ _ _ (by simp));have ax:=Lh (show w.heap.size<=R by omega);have aD:=Lh (show Ints B W ao t.hols from hI.below (D.o.mono hB));have ae:B<=W.heap.size:=xg hB D.o.size;have aM:=Lh (show ∀X,Calls Tryz.prog 33 #[.agg #[ja jb g.days,ja jb g.slots,ja jb g.begin_,ja jb g.mins]] X fun e w'=>e=jh (ja jb (Tt.gridV g))/\Below X.heap.size X w' from fun X=>Lw g X);have aN:=Lh (show ∀X,Below W.heap.size W X->Calls Tryz.prog 34 #[.agg #[ja jb t.first,ja jb t.weeks,jd ao t.hols.length c]] X fun e w'=>e=jh (ja jb (Tt.trmV t))/\Below X.heap.size X w' from fun X hX=>NJ t ao c B X (xg ae hX.size) (aD.o.below (hX.mono ae)) hn);have aA:=Lh (show ∀X,Calls Tryz.prog 62 #[.agg #[ja jb g.days,ja jb g.slots,ja jb g.begin_,ja jb g.mins],ja jb t.weeks,.agg #[ja jb s.tim.weeks,ja jb s.tim.day,ja jb s.tim.start,ja jb s.tim.len]] X fun e w'=>e=jh (ja jb (Tt.fitsV g t.weeks s.tim))/\Below X.heap.size X w' from fun X=>Uh g t.weeks s.tim X);have aw:=Lh (show 0<=s.tim.weeks->s.tim.weeks<4611686018427387904-> ∀X,Below W.heap.size W X->Calls Tryz.prog 63 #[.agg #[ja jb t.first,ja jb t.weeks,jd ao t.hols.length c],.agg #[ja jb s.tim.weeks,ja jb s.tim.day,ja jb s.tim.start,ja jb s.tim.len]] X fun e w'=> ∃v,e=jh v/\Ah X.heap.size w' v (Tt.daysK t s.tim 20)/\Below X.heap.size X w' from fun h0 h1 X hX=>Ur t s.tim ao c B X (xg ae hX.size) (aD.o.below (hX.mono ae)) hn h0 h1);have hA: ∀x,Below W.heap.size W x->_:=fun x h=>And.intro (aW.o.below h aW.o.lt).c4 (And.intro (aO.o.below h aO.o.lt).c3 (aC.o.below h aC.o.lt).c6)
 have b0:=Below.refl W.heap.size W;unfold Cu Cj Cv AE;clear hI hB ae hn;obtain⟨gv,ay⟩: ∃v,v=Tt.gridV g:=⟨_,rfl⟩
 rw[<-ay]at aM;have aZ:=Lh ay;clear ay;obtain⟨tv,ar⟩: ∃v,v=Tt.trmV t:=⟨_,rfl⟩
 rw[<-ar]at aN;have bk:=Lh ar;clear ar;obtain⟨fv,av⟩: ∃v,v=Tt.fitsV g t.weeks s.tim:=⟨_,rfl⟩
 rw[<-av]at aA;have aJ:=Lh av;clear av;obtain⟨cc,Z⟩: ∃v,v=Tt.code s.cls.data.toList:=⟨_,rfl⟩
 have aB:=Lh Z;clear Z;obtain⟨rc,aK⟩: ∃v,v=Tt.code s.room.data.toList:=⟨_,rfl⟩
 have a7:=Lh aK;clear aK;have af:=Lh (show On g t s=(decide (gv=0) && (decide (tv=0) && (cc && ((s.room.toList.isEmpty || rc) && (decide (fv=0) && !decide (Tt.daysK t s.tim 20=[]))))))from by unfold On EN;rw[aZ.o,bk.o,aJ.o,aB.o,a7.o,Lib.toList_data]);go_enter Tryz.func37,Tryz.ntmps37;go_upto_region 1 with(fail);rw[<-hW,<-hR,<-hM,<-hQ,<-az];clear hW az hQ hM hR;obtain⟨ee,V⟩: ∃b,b=s.room.toList.isEmpty:=⟨_,rfl⟩
 rw[<-V]at af;go_cut [47]from 14 to 47 (fun bv wx=> ∃b:Bool,bv=je (!b)/\Hid ((decide (gv=0) && (decide (tv=0) && (cc && ((ee || rc) && decide (fv=0)))))=b)/\Hid (Below W.heap.size W wx))
 case first=>
  go_wp2_with fail;refine(aM.o _).mono ?_;rintro e w1 ⟨rfl,hb1⟩;have ag:=Lh hb1;by_cases hg:gv=0
  rotate_left
  ·have hgb:(gv !=0)=true:=by simp[hg]
   go_wp2_with fail;go_meet;exact⟨false,rfl,Lh (by simp[hg]),ag⟩
  have hgb:(gv !=0)=false:=by simp[hg]
  go_wp2_with fail;refine(aN.o _ ag.o).mono ?_;rintro e w2 ⟨rfl,aX⟩;have F:=Lh (ag.o.trans (aX.mono ag.o.size));have b2:=F.o;clear aX ag;by_cases ht:tv=0
  rotate_left
  ·have br:(tv !=0)=true:=by simp[ht]
   go_wp2_with fail;go_meet;exact⟨false,rfl,Lh (by simp[hg,ht]),F⟩
  have br:(tv !=0)=false:=by simp[ht]
  go_wp2_with fail;refine(JK s.cls _).mono ?_;rintro e w3 ⟨rfl,hx⟩;rw[hx,<-aB.o];clear hx w3;cases cc
  ·go_wp2_with fail;go_meet;exact⟨false,rfl,Lh (by simp[hg,ht]),F⟩
  cases ee;rotate_left
  ·have bq:s.room.toList.isEmpty=true:=V.symm;clear V;go_wp2_with fail;refine(aA.o _).mono ?_;rintro e w3 ⟨rfl,ab⟩;have O:=Lh (F.o.trans (ab.mono F.o.size));have b3:=O.o;clear ab;by_cases hf:fv=0;rotate_left
   ·have aq:(fv !=0)=true:=by simp[hf]
    go_wp2_with fail;go_meet;exact⟨false,rfl,Lh (by simp[hg,ht,hf]),O⟩
   have aq:(fv !=0)=false:=by simp[hf]
   go_wp2_with fail;go_meet;exact⟨true,rfl,Lh (by simp[hg,ht,hf]),O⟩
  ·have bq:s.room.toList.isEmpty=false:=V.symm;clear V;go_wp2_with fail;refine(JK s.room _).mono ?_;rintro e w3 ⟨rfl,hx⟩;rw[hx,<-a7.o];clear hx w3;cases rc
   ·go_wp2_with fail;go_meet;exact⟨false,rfl,Lh (by simp[hg,ht]),F⟩
   go_wp2_with fail;refine(aA.o _).mono ?_;rintro e w3 ⟨rfl,ab⟩;have O:=Lh (F.o.trans (ab.mono F.o.size));have b3:=O.o;clear ab;by_cases hf:fv=0;rotate_left
   ·have aq:(fv !=0)=true:=by simp[hf]
    go_wp2_with fail;go_meet;exact⟨false,rfl,Lh (by simp[hg,ht,hf]),O⟩
   have aq:(fv !=0)=false:=by simp[hf]
   go_wp2_with fail;go_meet;exact⟨true,rfl,Lh (by simp[hg,ht,hf]),O⟩
 case rest=>
 clear V;obtain⟨bb,rfl,HA,HB⟩:=hcut;obtain⟨w4,aG⟩: ∃X,X=wc:=⟨_,rfl⟩
 rw[<-aG]at HB ⊢;clear aG wc;have b4:=HB.o;cases bb
 ·have A:=Lh (H.o.below HB.o H.o.lt);have r:=fun i=>A.o.frozen i;have z:=A.o.ev (e:=SC) |>.all
  go_wp2_with fail;obtain⟨Y,hY,ai, -,hE⟩:=Jz A.o SC (jd none 0 0) (jd none 0 0);simp only[SC]at hY;rw[<-hY];clear hY r z;have r:=ai.ev.all;refine bodyPost_ret (v:=jg #[.agg #[jc ⟨#[]⟩,ja jb 0,je false,ja jb 0,ja jb 0,ja jb 0,ja jb 0,jd none 0 0,jd none 0 0,ja jb 0,ja jb 0,jc ⟨#[]⟩,jc ⟨#[]⟩],je false]) (by simp[results,Tryz.results37,go_sem,SC,r]) rfl ?_;exact Lz (b:=false) (by rw[af.o];have h:=HA.o;revert h;cases(decide (gv=0))<;>cases(decide (tv=0))<;>cases cc<;>cases ee<;>cases rc<;>cases(decide (fv=0))<;>simp) rfl ⟨none,none,0,0,rfl,Ah.nil _ _,Ah.nil _ _,hE _ _ ax.o (D.o.trans (HB.o.mono D.o.size))⟩
 have hcs:gv=0/\tv=0/\cc=true/\(ee || rc)=true/\fv=0:=by have h:=HA.o;simp only[xa,decide_eq_true_eq]at h;exact⟨h.1,h.2.1,h.2.2.1,h.2.2.2.1,h.2.2.2.2⟩
 obtain⟨hg,ht,Z,aI,hf⟩:=hcs;obtain⟨aL,bI⟩:=Tt.fits_parts (aJ.o.symm.trans hf);obtain⟨au, -, -,bB,bw,bA,hl1⟩:=(Tt.soundB_iff _).1 aL;obtain⟨bu,bo⟩:=Tt.weeks_bd au;obtain⟨g0,g1,g2,g3,g4,g5⟩:=Tt.grid_parts (aZ.o.symm.trans hg);obtain⟨x0,x1⟩:=Tt.mul_bd (s:=s.tim.start) (m:=g.mins) (by omega) (by omega) g4 g5;obtain⟨y0,y1⟩:=Tt.mul_bd (s:=s.tim.len) (m:=g.mins) (by omega) (by omega) g4 g5;have bl:=Lh au;have al:=Lh (show On g t s=!decide (Tt.daysK t s.tim 20=[])from by rw[af.o];simp[hg,ht,Z,aI,hf]);have bJ:s.cls.size<=16:=by rw[Lib.size_eq];exact LD (aB.o.symm.trans Z)
 clear hg ht Z aI hf au aL;have aw:=Lh (aw.o (by omega) (by omega));go_wp2_with fail;refine(aw.o _ HB.o).mono ?_;rintro e w5 ⟨v,rfl,aP,aS⟩;have G:=Lh (HB.o.trans (aS.mono HB.o.size));have b5:=G.o;have HV:=Lh aP;clear aS aP HB;obtain⟨ds,am⟩: ∃l,l=Tt.daysK t s.tim 20:=⟨_,rfl⟩
 rw[<-am]at al HV;have ak:=Lh am;obtain⟨aR,dc,bp,a6⟩:=HV.o.ints;subst bp;have ba:=Lh a6;have bG:ds.length<=20:=by rw[am];exact Tt.daysK_len _ _ _
 clear am a6 HV;by_cases hne:ds=[]
 ·subst hne;have A:=Lh (H.o.below G.o H.o.lt);have r:=fun i=>A.o.frozen i;have z:=A.o.ev (e:=SC) |>.all
  go_wp2_with fail;obtain⟨Y,hY,ai, -,hE⟩:=Jz A.o SC (jd none 0 0) (jd none 0 0);simp only[SC]at hY;rw[<-hY];clear hY r z;have r:=ai.ev.all;refine bodyPost_ret (v:=jg #[.agg #[jc ⟨#[]⟩,ja jb 0,je false,ja jb 0,ja jb 0,ja jb 0,ja jb 0,jd none 0 0,jd none 0 0,ja jb 0,ja jb 0,jc ⟨#[]⟩,jc ⟨#[]⟩],je false]) (by simp[results,Tryz.results37,go_sem,SC,r]) rfl ?_;exact Lz (b:=false) (by rw[af.o];rw[<-af.o,al.o];rfl) rfl ⟨none,none,0,0,rfl,Ah.nil _ _,Ah.nil _ _,hE _ _ ax.o (D.o.trans (G.o.mono D.o.size))⟩
 obtain⟨j,hj⟩: ∃j,ds.length=j+1:=⟨ds.length - 1,by have:=List.length_pos_iff.2 hne;omega⟩
 have bt:((j:Int)+1==0)=false:=beq_eq_false_iff_ne.2 (by omega);have aY:=Lh (show Calls Tryz.prog 64 #[jd aR (j+1) dc] w5 (Wt (Tt.ofV ds) 0 w5)from by rw[<-hj];exact Wc ds aR dc w5.heap.size w5 (by rw[ak.o];exact Tt.daysK_ok _ _ (by rw[<-ak.o];exact hne)) (by rw[ak.o];exact Tt.daysK_asc _ _ _) (xm _) ba.o);rw[hj];go_wp2_with fail;refine aY.o.mono ?_;rintro e w6 ⟨p,p',k1,k2,rfl,hx,hy,aH⟩;have aj:=Lh (G.o.trans (aH.mono G.o.size));have HX:=Lh hx;have HY:=Lh hy;clear aH hx hy;unfold Bf;have bf:=Lh (show On g t s=true from by rw[al.o];simp[hne]);clear al aY;obtain⟨r,hr⟩: ∃r,r=Tt.ofV ds:=⟨_,rfl⟩
 rw[<-hr]at HX HY;rw[<-hr];have bm:=Lh hr;clear hr;obtain⟨T,hT⟩: ∃b,b=w6.heap.size:=⟨_,rfl⟩
 obtain⟨w7,aa⟩: ∃X,X=w6.alloc (ji #[ja jb r.first,ja jb r.last,ja jb r.every,ja jb r.wd,jd p r.ex.length k1,jd p' r.xt.length k2] 59):=⟨_,rfl⟩
 have aU:=Lh (show Af T #[ja jb r.first,ja jb r.last,ja jb r.every,ja jb r.wd,jd p r.ex.length k1,jd p' r.xt.length k2] 59 w7 from by rw[aa,hT];exact Af.new w6 _ _);have bg:=Lh (show Ah w5.heap.size w7 (jd p r.ex.length k1) r.ex from by rw[aa];exact xh HX.o _);have be:=Lh (show Ah w5.heap.size w7 (jd p' r.xt.length k2) r.xt from by rw[aa];exact xh HY.o _);have bi:=Lh (show Below W.heap.size W w7 from by rw[aa];exact aj.o.alloc aj.o.size _);have bD:=Lh (show R≠T from by have:=H.o.lt;have:=aj.o.size;omega);have aT:=Lh (show w.heap.size<=w5.heap.size from xg D.o.size G.o.size);go_upto_region 7 with(fail);rw[<-aa,<-hT];clear aa hT HX HY aj G;go_wp2_with fail;obtain⟨K,hK⟩: ∃K,K=Tt.lowB s.tim.weeks 20 0:=⟨_,rfl⟩
 have aV:=Lh hK;clear hK;have bn:=Lh (fun k:Int=>Pn s.tim.weeks k (by omega) (by omega));have bK:=Lh bo;have bC:0<=s.tim.weeks:=by omega
 go_loopw [13] (fun iv wr=> ∃k:Nat,iv=ja jb ((k:Int)+1)/\k<=20/\Hid (Tt.lowB s.tim.weeks (20 - k) k=K)/\Hid (∀i:Nat,i<k->Tt.bit s.tim.weeks i=false)/\Hid (wr=w7)) (fun iv _=>30 - (intOf iv).toNat)
 case atStart=>exact⟨0,rfl,by omega,Lh aV.o.symm,Lh (fun i h=>by omega),Lh (by first | trivial | rfl)⟩
 case round=>
  obtain⟨k,rfl,hk,aF,aE,aQ⟩:=hrel;have bh:=aQ.o;subst bh;clear aQ;have b7:=bi.o;have ap:k<20:=by
   rcases Nat.lt_or_ge k 20 with h | h
   ·exact h
   ·obtain rfl:k=20:=by omega
    exact absurd aE.o (Tt.weeks_some bl.o)
  have bE:(0:Int)<=(k:Int):=by omega
  have bx:(k:Int)<20:=by omega
  have J:=bn.o (k:Int);rw[show((k:Int)).toNat=k from Int.toNat_natCast k]at J;obtain⟨b,hb⟩: ∃b,b=Tt.bit s.tim.weeks (k:Int):=⟨_,rfl⟩
  rw[<-hb]at J;have ah:=Lh hb;clear hb;cases b
  ·have J:(bits .and .i64 (s.tim.weeks / 2 ^ k) 1==0)=true:=J;have bj:=Lh ((Tt.lowB_step s.tim.weeks k ap ah.o.symm).symm.trans aF.o);have bc:=Lh (show ∀i:Nat,i<k+1->Tt.bit s.tim.weeks i=false from fun i h=>by
    rcases Nat.lt_or_ge i k with h2 | h2
    ·exact aE.o i h2
    ·obtain rfl:i=k:=by omega
     exact ah.o.symm)
   go_wp2_with fail;go_roundw
   case rel=>exact⟨k+1,by go_num,by omega,bj,bc,Lh (by first | trivial | rfl)⟩
   case measure=>simp[intOf];omega
  have J:(bits .and .i64 (s.tim.weeks / 2 ^ k) 1==0)=false:=J;obtain rfl:k=K:=(Tt.lowB_end s.tim.weeks k ap ah.o.symm).symm.trans aF.o;obtain⟨U,hU⟩: ∃U,U=(⟨(Lib.decDigits (k+1)).toArray⟩:ByteArray):=⟨_,rfl⟩
  have a8:=Lh (show ∀X,Calls Tryz.prog 65 #[ja jb ((k:Int)+1),ja jb 1] X fun e w'=>e=jh (jc U)/\Below X.heap.size X w' from fun X=>by have h:=Ov ((k:Int)+1) 1 X (by omega) (by omega) (by omega) (by omega);rw[show((k:Int)+1).toNat=k+1 by omega,show(1:Int).toNat=1 from rfl,Tt.decim_1,<-hU]at h;exact h);have bF:U.size<=21:=by rw[hU,size_mk];exact Tt.dec_len 20 _ (by omega)
  have hcs:(s.cls++(⟨#[64]⟩:ByteArray)).size=s.cls.size+1:=by rw[ByteArray.size_append];rfl
  have HU:=Lh hU;clear hU;have bz:IntKind.i64.wrap (s.tim.start*g.mins)=s.tim.start*g.mins:=by rw[IntKind.wrap_i64];omega
  have bs:IntKind.i64.wrap (s.tim.len*g.mins)=s.tim.len*g.mins:=by rw[IntKind.wrap_i64];omega
  have bH:IntKind.i64.wrap (g.begin_+s.tim.start*g.mins)=g.begin_+s.tim.start*g.mins:=by rw[IntKind.wrap_i64];omega
  go_upto_region 10 with(fail);have hC:=fun x (h:gB wr x)=>And.intro (hA x (b7.trans (h.mono b7.size))) (aU.o.below h aU.o.lt).c6
  clear J;refine AH GR.below 27 [gE _,gE _,gE _,gE _,gE _,gE _,gE _,gE _,gE _,gE _,gE _,gE _,gE _,gE _,gE _,gE _,gE _,gE _,gE _,gE _,gE _,gE _,gE _,gE _,gE _,gE _,gE _] rfl EA ⟨qE,qE,qE,qE,by
   intro v x g h QQ K;simp only[A2,A1,gE,exists_and_left,and_true]at h;simp only[h]at K ⊢;go_wp2_with fail;refine(a8.o _).mono ?_;rintro _ y ⟨rfl,hb⟩;go_wp2_with fail;exact K _ _ rfl (.inr hb),qE,qE,qE,qE,qE,qE,qE,qE,qE,qE,qE,qE,qE,qE,qE,qE,qE,qE,qE,qE,qE,qE,trivial⟩ ?_
  intro v x h0 h;simp only[Dt,gE,exists_and_left]at h;simp only[h,Ci];have b8:=b7.trans (h0.mono b7.size);have A:=Lh (H.o.below b8 H.o.lt);have f:=fun i=>A.o.frozen i;have z:=A.o.ev (e:=SC) |>.all
  clear h;go_wp2_with fail;obtain⟨E,ac⟩: ∃E:Ev,E=⟨s.cls++⟨#[64]⟩++U,q,false,r,g.begin_+s.tim.start*g.mins,s.tim.len*g.mins,s.cls,s.room⟩:=⟨_,rfl⟩
  obtain⟨Y,hY,ai,hr,hE⟩:=Jz A.o E (jd p r.ex.length k1) (jd p' r.xt.length k2);simp only[ac]at hY;rw[<-hY];clear hY f z;have z:=ai.ev.all;refine bodyPost_ret (v:=jg #[AW E (jd p r.ex.length k1) (jd p' r.xt.length k2),je true]) (by simp[results,Tryz.results37,go_sem,AW,Ae,z]) rfl ?_;refine Lz (e:=E) bf.o (by rw[if_pos rfl,ac,bm.o,ak.o];unfold GJ IJ;rw[<-aV.o,<-HU.o]) ⟨p,p',k1,k2,by rw[ac],?_,?_,hE _ _ ax.o (D.o.trans (b8.mono D.o.size))⟩
  ·rw[ac];exact Ab (hr _ _ _ (AD bg.o h0)) aT.o
  ·rw[ac];exact Ab (hr _ _ _ (AD be.o h0)) aT.o
