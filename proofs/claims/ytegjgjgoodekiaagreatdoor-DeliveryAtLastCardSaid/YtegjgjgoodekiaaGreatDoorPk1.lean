/- Plain facts on series of days: which are valid, and what their days are. No program in sight. Condition: none. Plain facts on dates: lengths of months and years, the date of a day and the day of a date. No program in sight. Condition: none. The generators' dice: contracts of Mod, Next, One: an oracle that keeps the dice in memory. -/
import Derived.Lib.Split
import Derived.Test.YtegjgjgoodekiaaGreatDoorProg
import Derived.WalkKit
import Derived.Lib.Hide
import Derived.Deep.QuietTactic
import Derived.BigQuiet
import Derived.Test.YtegjgjgoodekiaaGreatDoorLh
open Go.Value renaming int->ja,slice->jd,bool->je,pointer->jf
open Go.IntKind renaming i64->jb
open Go.Ending renaming returned->jh
open Go.Obj renaming cells->ji
open List renaming getElem?_eq_getElem->xa,mem_cons->xb,getElem?_eq_some_iff->xc,drop_eq_getElem_cons->xd
open Bool renaming and_eq_true->xe
set_option maxHeartbeats 40000000
namespace Tt
structure Ser where
 first:Int
 last:Int
 every:Int
 wd:Int
 ex:List Int
 xt:List Int
 deriving DecidableEq
def isD(n:Int):Bool:=decide (0<=n) && decide (n<=36524)
def wk(d:Int):Int:=(d+5) % 7
theorem wk_bd(d:Int):0<=wk d/\wk d<=6:=by unfold wk;omega
theorem isD_iff(n:Int):isD n=true ↔ 0<=n/\n<=36524:=by unfold isD;simp
def cnt(first every d:Int):Bool:=decide (((d - wk d) - (first - wk first)) / 7 % every=0)
def bit(m k:Int):Bool:=decide (m / 2 ^ k.toNat % 2=1)
theorem monday_le(a b:Int)(h:a<=b):a - wk a<=b - wk b:=by unfold wk;omega
def regB(s:Ser)(d:Int):Bool:=decide (s.first<=d) && decide (d<=s.last) && bit s.wd (wk d) && cnt s.first s.every d
def late:Option Int->Int->Bool
 | none,_=>false
 | some q,d=>decide (d<=q)
def listV(bad:Int)(ok:Int->Bool):Option Int->List Int->Int
 | _,[]=>0
 | p,d::r=>if late p d=true then 63 else if ok d=true then listV bad ok (some d) r else bad
def extB(s:Ser)(d:Int):Bool:=decide (s.first<=d) && decide (d<=s.last) && !regB s d
def headV(s:Ser):Int:=
 if(isD s.first && isD s.last)=false then 13
 else if s.last<s.first∨s.first+140<s.last then 3
 else if s.every<1∨4<s.every∨s.wd<0∨127<s.wd then 3
 else if 140<(s.ex.length:Int)+s.xt.length then 2
 else 0
def serV(s:Ser):Int:=
 if headV s≠0 then headV s
 else if listV 12 (regB s) none s.ex≠0 then listV 12 (regB s) none s.ex
 else listV 11 (extB s) none s.xt
structure Head (s:Ser):Prop where
 f0:0<=s.first
 f1:s.first<=36524
 l0:0<=s.last
 l1:s.last<=36524
 fl:s.first<=s.last
 lf:s.last<=s.first+140
 e0:1<=s.every
 e1:s.every<=4
 w0:0<=s.wd
 w1:s.wd<=127
 n:(s.ex.length:Int)+s.xt.length<=140
theorem headV_zero(s:Ser):headV s=0 ↔ Head s:=by
 unfold headV;constructor
 ·intro h;split at h
  ·cases h
  ·rename_i w
   simp only[Bool.not_eq_false,xe,isD_iff]at w;split at h
   ·cases h
   ·split at h
    ·cases h
    ·split at h
     ·cases h
     ·exact⟨by omega,by omega,by omega,by omega,by omega,by omega,by omega,by omega,by omega,by omega,by omega⟩
 ·intro h;obtain⟨a1,a2,a3,a4,a5,F,E,G,a9,D,A⟩:=h;rw[if_neg,if_neg (by omega),if_neg (by omega),if_neg (by omega)];simp only[Bool.not_eq_false,xe,isD_iff];omega
def My(l:List Int)(k:Nat):Option Int:=if k=0 then none else l[k - 1]?
theorem Eg(l:List Int)(k:Nat)(d:Int)(h:l[k]?=some d):My l (k+1)=some d:=by unfold My;simpa using h
def listF(bad:Int)(ok:Int->Bool)(l:List Int)(k:Nat):Int:=listV bad ok (My l k) (l.drop k)
theorem listF_end(bad:Int)(ok:Int->Bool)(l:List Int)(k:Nat)(h:l.length<=k):listF bad ok l k=0:=by
 unfold listF;rw[List.drop_eq_nil_of_le h];unfold listV;rfl
theorem listF_order(bad:Int)(ok:Int->Bool)(l:List Int)(k:Nat)(d q:Int)(hd:l[k+1]?=some d)(hq:l[k]?=some q)(h:d<=q):listF bad ok l (k+1)=63:=by
 unfold listF;obtain⟨g1,g2⟩:=xc.1 hd;rw[xd g1,g2,Eg l k q hq,listV,if_pos (by simpa[late]using h)]
theorem listF_bad(bad:Int)(ok:Int->Bool)(l:List Int)(k:Nat)(d:Int)(hd:l[k]?=some d)(h: ∀j q,k=j+1->l[j]?=some q->q<d)(ho:ok d=false):listF bad ok l k=bad:=by
 unfold listF;obtain⟨g1,g2⟩:=xc.1 hd;rw[xd g1,g2,listV,if_neg,if_neg (by simp[ho])];cases k with
 | zero=>simp[My,late]
 | succ j=>
  have hj:j<l.length:=by omega
  rw[Eg l j l[j] (xa hj)];have:=h j l[j] rfl (xa hj);simp[late];omega
theorem listF_step(bad:Int)(ok:Int->Bool)(l:List Int)(k:Nat)(d:Int)(hd:l[k]?=some d)(h: ∀j q,k=j+1->l[j]?=some q->q<d)(ho:ok d=true):listF bad ok l k=listF bad ok l (k+1):=by
 unfold listF;rw[Eg l k d hd];obtain⟨g1,g2⟩:=xc.1 hd;rw[xd g1,g2,listV,if_neg,if_pos ho];cases k with
 | zero=>simp[My,late]
 | succ j=>
  have hj:j<l.length:=by omega
  rw[Eg l j l[j] (xa hj)];have:=h j l[j] rfl (xa hj);simp[late];omega
theorem listV_ok(bad:Int)(ok:Int->Bool)(hb:bad≠0): ∀(l:List Int) (p:Option Int),listV bad ok p l=0->(∀d∈l,ok d=true/\ ∀q,p=some q->q<d)/\l.Pairwise (· < ·)
 | [],_,_=>⟨by simp,List.Pairwise.nil⟩
 | d::r,p,h=>by
  rw[listV]at h;split at h
  ·cases h
  ·rename_i w
   split at h
   ·rename_i A
    obtain⟨a,b⟩:=listV_ok bad ok hb r (some d) h;have hp: ∀q,p=some q->q<d:=by
     intro q hq;subst hq;simp[late]at w;exact w
    refine⟨?_,List.pairwise_cons.2 ⟨fun x hx=>(a x hx).2 d rfl,b⟩⟩;intro x hx;rcases xb.1 hx with rfl | hx
    ·exact⟨A,hp⟩
    ·refine⟨(a x hx).1,fun q hq=>?_⟩;have:=hp q hq;have:=(a x hx).2 d rfl;omega
   ·exact absurd h hb
def daysFrom(a:Int):Nat->List Int
 | 0=>[]
 | n+1=>a::daysFrom (a+1) n
def span(s:Ser):List Int:=daysFrom s.first (s.last - s.first+1).toNat
def WJ(s:Ser)(d:Int):Bool:=(regB s d && !decide (d∈s.ex)) || decide (d∈s.xt)
def serDays(s:Ser):List Int:=if serV s≠0 then[]else(span s).filter (WJ s)
theorem Db: ∀(n:Nat) (a d:Int),d∈daysFrom a n ↔ a<=d/\d<a+n
 | 0,a,d=>by simp[daysFrom]
 | n+1,a,d=>by rw[daysFrom,xb,Db n];omega
theorem C2: ∀(n:Nat) (a:Int),(daysFrom a n).Pairwise (· < ·)
 | 0,_=>List.Pairwise.nil
 | n+1,a=>by
  rw[daysFrom,List.pairwise_cons];exact⟨fun d hd=>by rw[Db]at hd;omega,C2 n _⟩
theorem daysFrom_length: ∀(n:Nat) (a:Int),(daysFrom a n).length=n
 | 0,_=>rfl
 | n+1,a=>by rw[daysFrom,List.length_cons,daysFrom_length n]
theorem daysFrom_snoc: ∀(n:Nat) (a:Int),daysFrom a (n+1)=daysFrom a n++[a+n]
 | 0,a=>by simp[daysFrom]
 | n+1,a=>by
  rw[daysFrom,daysFrom_snoc n (a+1),daysFrom,List.cons_append];congr 3;omega
theorem FY: ∀(a b:List Int),a.Pairwise (· < ·)->b.Pairwise (· < ·)->(∀x,x∈a ↔ x∈b)->a=b
 | [],[],_,_,_=>rfl
 | [],y::b,_,_,h=>by have:=(h y).2 (by simp);cases this
 | x::a,[],_,_,h=>by have:=(h x).1 (by simp);cases this
 | x::a,y::b,ha,hb,h=>by
  rw[List.pairwise_cons]at ha hb;have w:x=y:=by
   rcases xb.1 ((h x).1 (by simp))with e | e
   ·exact e
   ·rcases xb.1 ((h y).2 (by simp))with e2 | e2
    ·exact e2.symm
    ·have:=hb.1 x e;have:=ha.1 y e2;omega
  subst w;congr 1;refine FY a b ha.2 hb.2 (fun z=>?_);constructor
  ·intro hz;rcases xb.1 ((h z).1 (by simp[hz]))with e | e
   ·subst e;have:=ha.1 z hz;omega
   ·exact e
  ·intro hz;rcases xb.1 ((h z).2 (by simp[hz]))with e | e
   ·subst e;have:=hb.1 z hz;omega
   ·exact e
theorem serV_zero(s:Ser):serV s=0 ↔ Head s/\listV 12 (regB s) none s.ex=0/\listV 11 (extB s) none s.xt=0:=by
 unfold serV;rw[<-headV_zero];constructor
 ·intro h;split at h
  ·contradiction
  ·rename_i w
   split at h
   ·contradiction
   ·rename_i A
    exact⟨by simpa using w,by simpa using A,h⟩
 ·rintro⟨w,A,D⟩;rw[if_neg (by simp[w]),if_neg (by simp[A]),D]
theorem EM(s:Ser):(serDays s).Pairwise (· < ·):=by
 unfold serDays;split
 ·exact List.Pairwise.nil
 ·exact(C2 _ _).filter _
theorem serDays_of(s:Ser)(h:serV s=0)(l:List Int)(hs:l.Pairwise (· <= ·))(hp:l.Perm (s.xt++(span s).filter fun d=>regB s d && !decide (d∈s.ex))):l=serDays s:=by
 obtain⟨hh,O,M⟩:=(serV_zero s).1 h;obtain⟨e1,e2⟩:=listV_ok 11 (extB s) (by decide) s.xt none M;have H:(span s).Pairwise (· < ·):=C2 _ _;have G:(s.xt++(span s).filter fun d=>regB s d && !decide (d∈s.ex)).Nodup:=by
  rw[List.nodup_append];refine⟨e2.imp (fun h=>by omega),(H.filter _).imp (fun h=>by omega),?_⟩;intro a ha b hb e;subst e;have A:=(e1 a ha).1;have J:=(List.mem_filter.1 hb).2;unfold extB at A;simp at A J;rw[A.2]at J;exact absurd J.1 (by decide)
 have E:l.Nodup:=hp.nodup_iff.2 G;have F:l.Pairwise (· < ·):=by
  have:=hs.and E;exact this.imp (fun h=>by omega)
 have hm: ∀x,x∈l ↔ x∈serDays s:=by
  intro x;rw[hp.mem_iff,List.mem_append,List.mem_filter];unfold serDays;rw[if_neg (by simp[h]),List.mem_filter];unfold WJ;constructor
  ·rintro(D | ⟨D,w⟩)
   ·refine⟨?_,by simp[D]⟩;have A:=(e1 x D).1;unfold extB at A;simp at A;unfold span;rw[Db];omega
   ·exact⟨D,by rw[w];rfl⟩
  ·rintro⟨D,w⟩;rw[Bool.or_eq_true]at w;rcases w with w | w
   ·exact .inr ⟨D,w⟩
   ·exact .inl (by simpa using w)
 exact FY _ _ F (EM s) hm
end Tt
namespace Tt
theorem serV_head(s:Ser)(h:headV s≠0):serV s=headV s:=by unfold serV;rw[if_pos h]
theorem serV_ex(s:Ser)(h:Head s)(k:Nat)(x:Int)(A:listV 12 (regB s) none s.ex=listF 12 (regB s) s.ex k)(w:listF 12 (regB s) s.ex k=x)(hx:x≠0):serV s=x:=by
 unfold serV;rw[if_neg (by simp[(headV_zero s).2 h]),if_pos (by rw[A,w];exact hx),A,w]
theorem serV_xt(s:Ser)(h:Head s)(k:Nat)(w:listV 12 (regB s) none s.ex=0)(A:listV 11 (extB s) none s.xt=listF 11 (extB s) s.xt k):serV s=listF 11 (extB s) s.xt k:=by
 unfold serV;rw[if_neg (by simp[(headV_zero s).2 h]),if_neg (by simp[w]),A]
end Tt
namespace Tt
theorem extB_out(s:Ser)(d:Int)(h:d<s.first∨s.last<d):extB s d=false:=by
 unfold extB;rcases h with h | h
 ·rw[decide_eq_false (by omega)];rfl
 ·rw[decide_eq_false (show ¬d<=s.last by omega)];simp
theorem extB_in(s:Ser)(d:Int)(h: ¬(d<s.first∨s.last<d)):extB s d=!regB s d:=by
 unfold extB;rw[decide_eq_true (by omega),decide_eq_true (by omega)];rfl
end Tt
namespace Tt
theorem reg_range{s:Ser}{d:Int}(h:regB s d=true):s.first<=d/\d<=s.last:=by
 unfold regB at h;simp only[xe,decide_eq_true_eq]at h;exact⟨h.1.1.1,h.1.1.2⟩
end Tt
namespace Tt
def mlen(y m:Int):Int:=if m=2 then(if y % 4=0 then 29 else 28)else if m=4∨m=6∨m=9∨m=11 then 30 else 31
def ylen(y:Int):Int:=if y % 4=0 then 366 else 365
def yb:Nat->Int
 | 0=>0
 | k+1=>yb k+ylen (2000+(k:Int))
def mb(y:Int):Nat->Int
 | 0=>0
 | k+1=>mb y k+mlen y ((k:Int)+1)
theorem yb_closed: ∀k:Nat,yb k=365*(k:Int)+((k:Int)+3) / 4
 | 0=>by decide
 | k+1=>by
  rw[yb,yb_closed k];unfold ylen;split<;>omega
theorem ylen_bd(y:Int):365<=ylen y/\ylen y<=366:=by unfold ylen;split<;>omega
theorem mlen_bd(y m:Int):28<=mlen y m/\mlen y m<=31:=by unfold mlen;repeat' split<;>omega
theorem mb_bd(y:Int): ∀k:Nat,0<=mb y k/\mb y k<=31*(k:Int)
 | 0=>by unfold mb;omega
 | k+1=>by have:=mb_bd y k;have:=mlen_bd y ((k:Int)+1);unfold mb;omega
theorem mb_all(y:Int):mb y 0=0/\mb y 1=31/\mb y 2=59+(ylen y - 365)/\mb y 3=90+(ylen y - 365)/\mb y 4=120+(ylen y - 365)/\mb y 5=151+(ylen y - 365)/\mb y 6=181+(ylen y - 365)/\mb y 7=212+(ylen y - 365)/\mb y 8=243+(ylen y - 365)/\mb y 9=273+(ylen y - 365)/\mb y 10=304+(ylen y - 365)/\mb y 11=334+(ylen y - 365)/\mb y 12=ylen y:=by
 unfold ylen;by_cases h:y % 4=0
 ·simp[mb,mlen,h]
 ·simp[mb,mlen,h]
structure IsDate (day y m d:Int):Prop where
 y0:2000<=y
 y1:y<=2099
 m0:1<=m
 m1:m<=12
 d0:1<=d
 d1:d<=mlen y m
 is:day=yb (y - 2000).toNat+mb y (m - 1).toNat+d - 1
def yOf(day:Int):Int:=2000+4*day / 1461
def Wy(day:Int):Int:=day - yb (4*day / 1461).toNat
def H8(l r:Int):Int:=if r<31 then 1 else if r<59+l then 2 else if r<90+l then 3 else if r<120+l then 4 else if r<151+l then 5 else if r<181+l then 6 else if r<212+l then 7 else if r<243+l then 8 else if r<273+l then 9 else if r<304+l then 10 else if r<334+l then 11 else 12
def mOf(day:Int):Int:=H8 (ylen (yOf day) - 365) (Wy day)
def dOf(day:Int):Int:=Wy day - mb (yOf day) (mOf day - 1).toNat+1
theorem IsDate.year{day y m d:Int}(h:IsDate day y m d):y=yOf day/\Wy day=mb y (m - 1).toNat+d - 1:=by
 obtain⟨Y,Z,U,X,O,d1,hd⟩:=h;have hk:=yb_closed (y - 2000).toNat;have hy:((y - 2000).toNat:Int)=y - 2000:=by omega
 rw[hy]at hk;have hm:=mb_all y;have hle:0<=mb y (m - 1).toNat+d - 1/\mb y (m - 1).toNat+d - 1<ylen y:=by
  have hb:=mb_bd y (m - 1).toNat;refine⟨by omega,?_⟩;have hs:mb y (m - 1).toNat+mlen y m<=mb y 12:=by
   have e:mb y (m - 1).toNat+mlen y m=mb y ((m - 1).toNat+1):=by
    rw[mb,show(((m - 1).toNat:Nat):Int)+1=m by omega]
   rw[e,show(m - 1).toNat+1=m.toNat by omega];obtain⟨G,F,V,R,H,h5,h6,M,J,T,D,A,E⟩:=hm;have:=ylen_bd y;rcases(show m=1∨m=2∨m=3∨m=4∨m=5∨m=6∨m=7∨m=8∨m=9∨m=10∨m=11∨m=12 by omega)with rfl | rfl | rfl | rfl | rfl | rfl | rfl | rfl | rfl | rfl | rfl | rfl
   all_goals (first | (show mb y 1<=mb y 12;omega) | (show mb y 2<=mb y 12;omega) | (show mb y 3<=mb y 12;omega) | (show mb y 4<=mb y 12;omega) | (show mb y 5<=mb y 12;omega) | (show mb y 6<=mb y 12;omega) | (show mb y 7<=mb y 12;omega) | (show mb y 8<=mb y 12;omega) | (show mb y 9<=mb y 12;omega) | (show mb y 10<=mb y 12;omega) | (show mb y 11<=mb y 12;omega) | exact Int.le_refl _)
  rw[hm.2.2.2.2.2.2.2.2.2.2.2.2]at hs;omega
 have w:ylen y=if y % 4=0 then 366 else 365:=rfl
 have hq:4*day / 1461=y - 2000:=by
  rw[w]at hle;split at hle<;>omega
 refine⟨by unfold yOf;omega,?_⟩;unfold Wy;rw[hq];omega
theorem mlens(y:Int):mlen y 1=31/\mlen y 2=ylen y - 337/\mlen y 3=31/\mlen y 4=30/\mlen y 5=31/\mlen y 6=30/\mlen y 7=31/\mlen y 8=31/\mlen y 9=30/\mlen y 10=31/\mlen y 11=30/\mlen y 12=31:=by
 refine⟨rfl,?_,rfl,rfl,rfl,rfl,rfl,rfl,rfl,rfl,rfl,rfl⟩;unfold mlen ylen;rw[if_pos rfl];split<;>rfl
theorem Ve{y m d:Int}(m0:1<=m)(m1:m<=12)(d0:1<=d)(d1:d<=mlen y m):m=H8 (ylen y - 365) (mb y (m - 1).toNat+d - 1):=by
 obtain⟨H,G,h2,T,O,h5,h6,R,M,Y,F,A, -⟩:=mb_all y;have hle:=ylen_bd y;obtain⟨X,l2,U,l4,J,l6,V,l8,Z,w,E,D⟩:=mlens y;generalize ylen y=n at*;rcases(show m=1∨m=2∨m=3∨m=4∨m=5∨m=6∨m=7∨m=8∨m=9∨m=10∨m=11∨m=12 by omega)with rfl | rfl | rfl | rfl | rfl | rfl | rfl | rfl | rfl | rfl | rfl | rfl
 ·rw[X]at d1;show 1=H8 _ (mb y 0+d - 1)
  rw[H];clear H G h2 T O h5 h6 R M Y F A X l2 U l4 J l6 V l8 Z w E D;unfold H8;rw[if_pos (by omega)]
 ·rw[l2]at d1;show 2=H8 _ (mb y 1+d - 1)
  rw[G];clear H G h2 T O h5 h6 R M Y F A X l2 U l4 J l6 V l8 Z w E D;unfold H8;rw[if_neg (by omega),if_pos (by omega)]
 ·rw[U]at d1;show 3=H8 _ (mb y 2+d - 1)
  rw[h2];clear H G h2 T O h5 h6 R M Y F A X l2 U l4 J l6 V l8 Z w E D;unfold H8;rw[if_neg (by omega),if_neg (by omega),if_pos (by omega)]
 ·rw[l4]at d1;show 4=H8 _ (mb y 3+d - 1)
  rw[T];clear H G h2 T O h5 h6 R M Y F A X l2 U l4 J l6 V l8 Z w E D;unfold H8;rw[if_neg (by omega),if_neg (by omega),if_neg (by omega),if_pos (by omega)]
 ·rw[J]at d1;show 5=H8 _ (mb y 4+d - 1)
  rw[O];clear H G h2 T O h5 h6 R M Y F A X l2 U l4 J l6 V l8 Z w E D;unfold H8;rw[if_neg (by omega),if_neg (by omega),if_neg (by omega),if_neg (by omega),if_pos (by omega)]
 ·rw[l6]at d1;show 6=H8 _ (mb y 5+d - 1)
  rw[h5];clear H G h2 T O h5 h6 R M Y F A X l2 U l4 J l6 V l8 Z w E D;unfold H8;rw[if_neg (by omega),if_neg (by omega),if_neg (by omega),if_neg (by omega),if_neg (by omega),if_pos (by omega)]
 ·rw[V]at d1;show 7=H8 _ (mb y 6+d - 1)
  rw[h6];clear H G h2 T O h5 h6 R M Y F A X l2 U l4 J l6 V l8 Z w E D;unfold H8;rw[if_neg (by omega),if_neg (by omega),if_neg (by omega),if_neg (by omega),if_neg (by omega),if_neg (by omega),if_pos (by omega)]
 ·rw[l8]at d1;show 8=H8 _ (mb y 7+d - 1)
  rw[R];clear H G h2 T O h5 h6 R M Y F A X l2 U l4 J l6 V l8 Z w E D;unfold H8;rw[if_neg (by omega),if_neg (by omega),if_neg (by omega),if_neg (by omega),if_neg (by omega),if_neg (by omega),if_neg (by omega),if_pos (by omega)]
 ·rw[Z]at d1;show 9=H8 _ (mb y 8+d - 1)
  rw[M];clear H G h2 T O h5 h6 R M Y F A X l2 U l4 J l6 V l8 Z w E D;unfold H8;rw[if_neg (by omega),if_neg (by omega),if_neg (by omega),if_neg (by omega),if_neg (by omega),if_neg (by omega),if_neg (by omega),if_neg (by omega),if_pos (by omega)]
 ·rw[w]at d1;show 10=H8 _ (mb y 9+d - 1)
  rw[Y];clear H G h2 T O h5 h6 R M Y F A X l2 U l4 J l6 V l8 Z w E D;unfold H8;rw[if_neg (by omega),if_neg (by omega),if_neg (by omega),if_neg (by omega),if_neg (by omega),if_neg (by omega),if_neg (by omega),if_neg (by omega),if_neg (by omega),if_pos (by omega)]
 ·rw[E]at d1;show 11=H8 _ (mb y 10+d - 1)
  rw[F];clear H G h2 T O h5 h6 R M Y F A X l2 U l4 J l6 V l8 Z w E D;unfold H8;rw[if_neg (by omega),if_neg (by omega),if_neg (by omega),if_neg (by omega),if_neg (by omega),if_neg (by omega),if_neg (by omega),if_neg (by omega),if_neg (by omega),if_neg (by omega),if_pos (by omega)]
 ·rw[D]at d1;show 12=H8 _ (mb y 11+d - 1)
  rw[A];clear H G h2 T O h5 h6 R M Y F A X l2 U l4 J l6 V l8 Z w E D;unfold H8;rw[if_neg (by omega),if_neg (by omega),if_neg (by omega),if_neg (by omega),if_neg (by omega),if_neg (by omega),if_neg (by omega),if_neg (by omega),if_neg (by omega),if_neg (by omega),if_neg (by omega)]
theorem IsDate.of{day y m d:Int}(h:IsDate day y m d):y=yOf day/\m=mOf day/\d=dOf day:=by
 obtain⟨hy,hr⟩:=h.year;have hm:m=mOf day:=by
  unfold mOf;rw[hr,<-hy];exact Ve h.m0 h.m1 h.d0 h.d1
 refine⟨hy,hm,?_⟩;unfold dOf;rw[<-hm,<-hy,hr];omega
theorem N6{y r:Int}(G:0<=r)(F:r<ylen y): ∃j:Nat,j<=11/\mb y j<=r/\r<mb y j+mlen y ((j:Int)+1):=by
 have hle:=ylen_bd y;by_cases c1:r<31
 ·exact⟨0,by decide,by rw[(mb_all y).1];omega,by rw[(mb_all y).1];show r<_+mlen y 1;rw[(mlens y).1];omega⟩
 by_cases c2:r<59+(ylen y - 365)
 ·exact⟨1,by decide,by rw[(mb_all y).2.1];omega,by rw[(mb_all y).2.1];show r<_+mlen y 2;rw[(mlens y).2.1];omega⟩
 clear c1;by_cases c3:r<90+(ylen y - 365)
 ·exact⟨2,by decide,by rw[(mb_all y).2.2.1];omega,by rw[(mb_all y).2.2.1];show r<_+mlen y 3;rw[(mlens y).2.2.1];omega⟩
 clear c2;by_cases c4:r<120+(ylen y - 365)
 ·exact⟨3,by decide,by rw[(mb_all y).2.2.2.1];omega,by rw[(mb_all y).2.2.2.1];show r<_+mlen y 4;rw[(mlens y).2.2.2.1];omega⟩
 clear c3;by_cases c5:r<151+(ylen y - 365)
 ·exact⟨4,by decide,by rw[(mb_all y).2.2.2.2.1];omega,by rw[(mb_all y).2.2.2.2.1];show r<_+mlen y 5;rw[(mlens y).2.2.2.2.1];omega⟩
 clear c4;by_cases c6:r<181+(ylen y - 365)
 ·exact⟨5,by decide,by rw[(mb_all y).2.2.2.2.2.1];omega,by rw[(mb_all y).2.2.2.2.2.1];show r<_+mlen y 6;rw[(mlens y).2.2.2.2.2.1];omega⟩
 clear c5;by_cases E:r<212+(ylen y - 365)
 ·exact⟨6,by decide,by rw[(mb_all y).2.2.2.2.2.2.1];omega,by rw[(mb_all y).2.2.2.2.2.2.1];show r<_+mlen y 7;rw[(mlens y).2.2.2.2.2.2.1];omega⟩
 clear c6;by_cases D:r<243+(ylen y - 365)
 ·exact⟨7,by decide,by rw[(mb_all y).2.2.2.2.2.2.2.1];omega,by rw[(mb_all y).2.2.2.2.2.2.2.1];show r<_+mlen y 8;rw[(mlens y).2.2.2.2.2.2.2.1];omega⟩
 clear E;by_cases c9:r<273+(ylen y - 365)
 ·exact⟨8,by decide,by rw[(mb_all y).2.2.2.2.2.2.2.2.1];omega,by rw[(mb_all y).2.2.2.2.2.2.2.2.1];show r<_+mlen y 9;rw[(mlens y).2.2.2.2.2.2.2.2.1];omega⟩
 clear D;by_cases w:r<304+(ylen y - 365)
 ·exact⟨9,by decide,by rw[(mb_all y).2.2.2.2.2.2.2.2.2.1];omega,by rw[(mb_all y).2.2.2.2.2.2.2.2.2.1];show r<_+mlen y 10;rw[(mlens y).2.2.2.2.2.2.2.2.2.1];omega⟩
 clear c9;by_cases A:r<334+(ylen y - 365)
 ·exact⟨10,by decide,by rw[(mb_all y).2.2.2.2.2.2.2.2.2.2.1];omega,by rw[(mb_all y).2.2.2.2.2.2.2.2.2.2.1];show r<_+mlen y 11;rw[(mlens y).2.2.2.2.2.2.2.2.2.2.1];omega⟩
 clear w;exact⟨11,by decide,by rw[(mb_all y).2.2.2.2.2.2.2.2.2.2.2.1];omega,by rw[(mb_all y).2.2.2.2.2.2.2.2.2.2.2.1];show r<_+mlen y 12;rw[(mlens y).2.2.2.2.2.2.2.2.2.2.2];omega⟩
theorem date_some{day:Int}(M:0<=day)(J:day<=36524):IsDate day (yOf day) (mOf day) (dOf day):=by
 obtain⟨y,m,d,h⟩: ∃y m d,IsDate day y m d:=by
  obtain⟨k,hk⟩: ∃k:Nat,(k:Int)=4*day / 1461:=⟨(4*day / 1461).toNat,by omega⟩
  obtain⟨G,H⟩:1461*(k:Int)<=4*day/\4*day<1461*(k:Int)+1461:=by omega
  clear hk;have E:=yb_closed k;have A:ylen (2000+(k:Int))=if(2000+(k:Int)) % 4=0 then 366 else 365:=rfl
  have w:0<=day - yb k:=by omega
  have D:day - yb k<ylen (2000+(k:Int)):=by
   obtain⟨q,hq⟩: ∃q:Nat,k=4*q∨k=4*q+1∨k=4*q+2∨k=4*q+3:=⟨k / 4,by omega⟩
   rw[A];rcases hq with rfl | rfl | rfl | rfl<;>split<;>omega
  have F:(k:Int)<=99:=by omega
  clear E A G H;obtain⟨j,hj,g0,g1⟩:=N6 w D;clear w D;refine⟨2000+(k:Int),(j:Int)+1,day - yb k - mb (2000+(k:Int)) j+1,by omega,by omega,by omega,by omega,by omega,by omega,?_⟩;rw[show(2000+(k:Int) - 2000).toNat=k by omega,show((j:Int)+1 - 1).toNat=j by omega];omega
 obtain⟨rfl,rfl,rfl⟩:=h.of;exact h
def dayV(y m d:Int):Int × Int:=if y<2000∨2099<y∨m<1∨12<m∨d<1∨mlen y m<d then(0,13)else(yb (y - 2000).toNat+mb y (m - 1).toNat+d - 1,0)
theorem IsDate.day{day y m d:Int}(h:IsDate day y m d):dayV y m d=(day,0):=by
 obtain⟨E,D,F,A,w,d1,hd⟩:=h;unfold dayV;rw[if_neg (by omega),<-hd]
end Tt
namespace Go.Proofs.YtegjgjgoodekiaaGreatDoor
open Go.RowKit
def I8(n m:Int):Int:=if m<1 then 0 else n % m
theorem Ho(n m:Int)(hm:1<=m): -m<n.tmod m/\n.tmod m<m:=by
 have w:=Int.lt_tmod_of_pos n (show 0<m by omega);have A:=Int.tmod_lt_of_pos n (show 0<m by omega);exact⟨w,A⟩
theorem Lq(n m:Int)(hm:1<=m):I8 n m=if n.tmod m<0 then n.tmod m+m else n.tmod m:=by
 unfold I8;rw[if_neg (by omega)];have h:=Ho n m hm;have e:n % m=(n.tmod m) % m:=by
  have:=Int.tmod_add_mul_tdiv n m;conv=>lhs;rw[<-this]
  rw[Int.add_mul_emod_self_left]
 rw[e];split
 ·rw[<-Int.add_emod_right];exact Int.emod_eq_of_lt (by omega) (by omega)
 ·exact Int.emod_eq_of_lt (by omega) (by omega)
theorem Aj{k:IntKind}{a b:Int}(h:a=b):Ending.returned (.int k a)=jh (.int k b):=by rw[h]
theorem AP(a:Addr)(i:Nat):(a.add i).block=a.block:=by unfold Addr.add;split<;>rfl
theorem TQ(n m:Int)(w:World)(hm:m<=9223372036854775807):
  Calls Tryz.prog 42 #[ja jb n,ja jb m] w fun e w'=>e=jh (ja jb (I8 n m))/\w'=w:=by
 by_cases h:m<1
 ·go_enter Tryz.func42,Tryz.ntmps42;go_wp2;go_ret;exact⟨by simp[I8,h],rfl⟩
 ·have hb:=Ho n m (by omega);have H:=Lh (Lq n m (by omega));by_cases A:n.tmod m<0
  ·go_enter Tryz.func42,Tryz.ntmps42;go_wp2;go_ret;exact⟨Aj (by rw[H.o,if_pos A]),rfl⟩
  ·go_enter Tryz.func42,Tryz.ntmps42;go_wp2;go_ret;exact⟨Aj (by rw[H.o,if_neg (by omega)]),rfl⟩
theorem TR(n m:Int):0<=I8 n m:=by
 unfold I8;split
 ·omega
 ·exact Int.emod_nonneg _ (by omega)
theorem OZ(n m:Int)(h:1<=m):I8 n m<m:=by
 unfold I8;rw[if_neg (by omega)];exact Int.emod_lt_of_pos _ (by omega)
theorem TS(n m k:Int)(h:m<=k)(hk:0<=k):I8 n m<=k:=by
 by_cases w:1<=m
 ·have:=OZ n m w;omega
 ·unfold I8;rw[if_pos (by omega)];exact hk
structure V0 (b:Nat) (w:World) (ao:Option Addr) (len cap k:Nat):Prop where
 heap:w.heap[b]?=some (ji #[jd ao len cap,ja jb k] 63 (0,0))
 used:k<=len
 few:len<=400
 cell: ∀i,i<len-> ∃a n,ao=some a/\a.block<b/\w.cell? (a.add i)=some (ja jb n)/\ -9223372036854775808<=n/\n<=9223372036854775807
def BJ(b:Nat)(w:World):Prop:=∃ao len cap k,V0 b w ao len cap k
theorem BJ.lt{b:Nat}{w:World}(h:BJ b w):b<w.heap.size:=by
 obtain⟨ao,A,cap,k,h⟩:=h;exact(Array.getElem?_eq_some_iff.1 h.heap).1
theorem BJ.kept{b:Nat}{w w':World}{B:Nat}(h:BJ b w)(hb:b<B)(E:Below B w w'):BJ b w':=by
 obtain⟨ao,D,cap,k,h⟩:=h;refine⟨ao,D,cap,k,⟨(E.block b hb).trans h.heap,h.used,h.few,fun i hi=>?_⟩⟩;obtain⟨a,n,ha,A,hc,hn⟩:=h.cell i hi;exact⟨a,n,ha,A,(E.cell (p:=a.add i) (by rw[AP];omega)).trans hc,hn⟩
def B7(b:Nat)(w w':World):Prop:=w'.os=w.os/\w'.tape=w.tape/\w'.output=w.output/\w'.heap.size=w.heap.size/\ ∀k,k≠b->w'.heap[k]?=w.heap[k]?
theorem B7.refl(b:Nat)(w:World):B7 b w w:=⟨rfl,rfl,rfl,rfl,fun _ _=>rfl⟩
theorem B7.trans{b:Nat}{w w2 A:World}(h:B7 b w w2)(k:B7 b w2 A):B7 b w A:=
 ⟨k.1.trans h.1,k.2.1.trans h.2.1,k.2.2.1.trans h.2.2.1,k.2.2.2.1.trans h.2.2.2.1,fun i hi=>(k.2.2.2.2 i hi).trans (h.2.2.2.2 i hi)⟩
theorem B7.below{b B:Nat}{w w':World}(h:B7 b w w')(A:B<=b):Below B w w':=
 ⟨h.1,h.2.1,h.2.2.1,by rw[h.2.2.2.1];exact Nat.le_refl _,fun k hk=>h.2.2.2.2 k (by omega)⟩
theorem As(b:Nat)(n:Int)(w:World)(hd:BJ b w)(hn: -9223372036854775808<=n)(H:n<=9223372036854775807):
  Calls Tryz.prog 19 #[jf (some ⟨b,0,none⟩),ja jb n] w fun e w'=> ∃v:Int,e=jh (ja jb v)/\0<=v/\(1<=n->v<n)/\v<=9223372036854775807/\BJ b w'/\B7 b w w':=by
 obtain⟨ao,A,cap,k,h⟩:=hd;have c0:w.cell? ⟨b,0,none⟩=some (jd ao A cap):=by simp[World.cell?,h.heap]
 have c1:w.cell? ⟨b,1,none⟩=some (ja jb (k:Int)):=by simp[World.cell?,h.heap]
 have O:w.frozen? ⟨b,1,none⟩=false:=by simp[World.frozen?,h.heap]
 have hu:=h.used;have hf:=h.few;by_cases hk:A<=k
 ·go_enter Tryz.func19,Tryz.ntmps19;go_wp2_with fail;go_quiet (fail);go_wp2_with fail;go_ret;exact⟨0,rfl,by omega,fun h=>by omega,by omega,⟨ao,A,cap,k,⟨by simpa using h.heap,h.used,h.few,h.cell⟩⟩,⟨rfl,rfl,rfl,rfl,fun _ _=>rfl⟩⟩
 ·obtain⟨a,x,rfl,E,hc,hx⟩:=h.cell k (by omega);have D: ¬a.block=b:=by omega
  have hne: ∀i,(⟨b,1,none⟩:Addr)≠a.add i:=fun i e=>D (by rw[<-AP a i,<-e])
  have hc':(w.setCell ⟨b,1,none⟩ (ja jb (k+1))).cell? (a.add k)=some (ja jb x):=by
   rw[World.cell?_setCell_other _ _ _ _ (hne k)];exact hc
  go_enter Tryz.func19,Tryz.ntmps19;go_wp2_with fail;go_quiet (fail)
  go_wp2_with fail;go_quiet ((go_at_call 42;exact Calls.quiet_of_same (TQ _ _ _ (by omega))))
  go_wp2_with fail;go_ret;refine⟨I8 x n,rfl,TR _ _,OZ _ _,?_,?_,?_⟩
  ·exact TS x n _ (by omega) (by omega)
  ·refine⟨some a,A,cap,k+1,⟨?_,by omega,hf,?_⟩⟩
   ·simp[World.setCell,Array.getElem?_modify,h.heap]
   ·intro i hi;obtain⟨M,n',e,G,J,F⟩:=h.cell i hi;cases e;refine⟨a,n',rfl,G,?_,F⟩;simp only[World.cell?_drewN];rw[World.cell?_setCell_other _ _ _ _ (hne i)];exact J
  ·refine⟨rfl,rfl,rfl,by simp[World.setCell],fun j hj=>?_⟩;simp[World.setCell,Array.getElem?_modify,Ne.symm hj]
theorem Lo(b:Nat)(n:Int)(w:World)(hd:BJ b w)(hn: -9223372036854775807<=n)(A:n<=9223372036854775807):
  Calls Tryz.prog 20 #[jf (some ⟨b,0,none⟩),ja jb n] w fun e w'=> ∃v:Bool,e=jh (je v)/\BJ b w'/\B7 b w w':=by
 go_enter Tryz.func20,Tryz.ntmps20;go_wp2_with fail;refine(As b n _ hd (by omega) A).mono ?_;rintro e F ⟨v,rfl,H,G,J,E,D⟩;go_wp2_with fail;go_ret;exact⟨_,rfl,E,D⟩
