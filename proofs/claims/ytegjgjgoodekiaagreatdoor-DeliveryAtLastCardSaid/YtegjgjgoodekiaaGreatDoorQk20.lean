/- The standard library's sort.Sort (with all functions that it calls) over rows that the caller's own methods Less and Swap read and turn, whatever the rows' cells: what it does to the row is the plain pattern-defeating quicksort. Conditions: the caller's methods do what the structure Fam says. The second half of the standard library's sort.Sort over rows of any kind: breakPatterns, the functions that only compare, choosePivot, pdqsort, Sort. Conditions: as in the first half. Plain facts on agendas: in a valid zone later days start later; entries in the order of their times and names; a sorted list of distinct entries is its only sorted form. No program in sight. sort.Sort over the entries of an agenda, any number of them: a permutation in ascending order. Conditions: at most a thousand million entries in a row of one's own. subscriber.Shown: its contract: the events that are not cancelled, in new memory. The law's awake: its contract: true. Grids and times of a week: timegrid.Valid, Sound, Week, Fits, weekset.Valid, and the reference's. Terms: calendar.Valid, At, Days, and the reference's. The days of a time in a term: calendar.At, Days, and the reference's. A set of numbers in a map that the call makes (map[int]bool): filled and asked. Days told as a series, in plain words; a series in a box whose two lists grow. -/
import Derived.Shelf.GgSortMore.IfacePdq
import Derived.Shelf.SlSortFunc.Xorshift
import Derived.Sort.WalkA6
import Derived.Sort.WalkB2
import Derived.Sort.WalkB12
import Derived.Sort.WalkB3
import Derived.Sort.Walk7
import Derived.Deep.LoopGhost
import Derived.Test.YtegjgjgoodekiaaGreatDoorQk19
import Derived.Sort.LotA
import Derived.Sort.Walk0
import Derived.Test.YtegjgjgoodekiaaGreatDoorQk12
import Derived.Test.YtegjgjgoodekiaaGreatDoorQk18
import Derived.Test.YtegjgjgoodekiaaGreatDoorQk6
import Derived.Test.YtegjgjgoodekiaaGreatDoorQk8
import Derived.BigQuiet
import Derived.Maps.OwnOps
import Derived.Maps.Views
open Go.Value renaming int->ja,slice->jd,bool->je,tuple->jg
open Go.IntKind renaming i64->jb
open Go.Ending renaming returned->jh
open Go.Obj renaming cells->ji
open Nat renaming le_refl->xa,le_trans->xc,zero_le->xj
open List renaming getElem?_eq_getElem->xb,length_append->xd,getElem?_eq_some_iff->xf,drop_eq_getElem_cons->xg,mem_of_getElem?->xh
open Go.World.ownsRow renaming alloc->xe
open Int renaming toNat_natCast->xi
set_option maxRecDepth 100000
set_option maxHeartbeats 40000000
namespace Go.Proofs.YtegjgjgoodekiaaGreatDoor
open Go Go.Proofs Go.Shelf Go.RowKit Go.Lib Go.Sort
variable {P:Program} {ρ:Ren} {α:Type} [Inhabited α]
section
variable {rv:Value} {gl gs:Nat} {lt:α->α->Bool} {n N:Nat} {St:World->Array α->Prop}
end
open Go Go.Proofs Go.Shelf Go.RowKit Go.Lib Go.Sort
variable {P:Program} {ρ:Ren} {α:Type} [Inhabited α]
section
variable {rv:Value} {gl gs:Nat} {lt:α->α->Bool} {n N:Nat} {St:World->Array α->Prop}
end
end Go.Proofs.YtegjgjgoodekiaaGreatDoor
namespace Tt
open Go.Sort
structure Ent where
 inst:Int
 mins:Int
 uid:ByteArray
 deriving DecidableEq
instance:Inhabited Ent:=⟨⟨0,0,⟨#[]⟩⟩⟩
end Tt
namespace Go.Proofs
open Go.Shelf
end Go.Proofs
namespace Go.Proofs.YtegjgjgoodekiaaGreatDoor
open Go.RowKit
abbrev Ent:=Tt.Ent
def e0:Ev:=⟨⟨#[99,64,49]⟩,1,false,⟨2,2,1,1,[],[]⟩,0,45,⟨#[99]⟩,⟨#[]⟩⟩
end Go.Proofs.YtegjgjgoodekiaaGreatDoor
namespace Tt
structure Grd where
 days:Int
 slots:Int
 begin_:Int
 mins:Int
structure Tim where
 weeks:Int
 day:Int
 start:Int
 len:Int
def gridV(g:Grd):Int:=if g.days<1∨7<g.days∨g.slots<1∨24<g.slots∨g.begin_<0∨1440<=g.begin_∨g.mins<5∨120<g.mins∨1440<g.begin_+g.slots*g.mins then 3 else 0
def weeksB(set n:Int):Bool:=decide (1<=n/\n<=20/\1<=set/\set<((2 ^ n.toNat:Nat):Int))
def soundB(t:Tim):Bool:=weeksB t.weeks 20 && decide (0<=t.day/\t.day<7/\0<=t.start/\t.start<24/\1<=t.len/\t.start+t.len<=24)
def fitsV(g:Grd)(weeks:Int)(t:Tim):Int:=if gridV g=0/\1<=weeks/\weeks<=20 then(if soundB t=true/\weeksB t.weeks weeks=true/\t.day<g.days/\t.start+t.len<=g.slots then 0 else 14)else 1
theorem mul_small{s m:Int}(E:1<=s)(w:s<=24)(D:5<=m)(A:m<=120):0<=s*m/\s*m<=2880:=by
 constructor
 ·exact Int.mul_nonneg (by omega) (by omega)
 ·calc s*m<=24*m:=Int.mul_le_mul_of_nonneg_right w (by omega)
   _<=24*120:=Int.mul_le_mul_of_nonneg_left A (by omega)
theorem soundB_iff(t:Tim):soundB t=true ↔ weeksB t.weeks 20=true/\0<=t.day/\t.day<7/\0<=t.start/\t.start<24/\1<=t.len/\t.start+t.len<=24:=by
 unfold soundB;simp
end Tt
namespace Go.Proofs.YtegjgjgoodekiaaGreatDoor
open Go.RowKit
def Cj(g:Tt.Grd):Value:=.agg #[ja jb g.days,ja jb g.slots,ja jb g.begin_,ja jb g.mins]
def D8(t:Tt.Tim):Value:=.agg #[ja jb t.weeks,ja jb t.day,ja jb t.start,ja jb t.len]
theorem Lw(g:Tt.Grd)(w:World):Calls Tryz.prog 33 #[Cj g] w fun e w'=>e=jh (ja jb (Tt.gridV g))/\Below w.heap.size w w':=by
  obtain⟨d,s,b,m⟩:=g;obtain⟨E,A⟩: ∃E,E=Tt.gridV ⟨d,s,b,m⟩:=⟨_,rfl⟩
  rw[<-A];have D:=Lh (show E=(if d<1∨7<d∨s<1∨24<s∨b<0∨1440<=b∨m<5∨120<m∨1440<b+s*m then 3 else 0)from A);have F:=Lh (Aa w (ji #[ja jb d,ja jb s,ja jb b,ja jb m] 65));clear A;unfold Cj;by_cases hr:1<=s/\s<=24/\0<=b/\b<1440/\5<=m/\m<=120
  · obtain⟨a0,a1,a2,a3,a4,a5⟩:=hr;obtain⟨G,O⟩:=Tt.mul_small a0 a1 a4 a5;obtain⟨p,hp⟩: ∃p,p=s*m:=⟨_,rfl⟩
    have J:=Lh hp;rw[<-hp]at G O;have M:wrap64 (s*m)=p:=by rw[<-hp];unfold RowKit.wrap64;omega
    have H:wrap64 (b+p)=b+p:=by unfold RowKit.wrap64;omega
    clear hp;go_enter Tryz.func33,Tryz.ntmps33;go_wp2_with fail
    all_goals
      go_ret;refine⟨Aj ?_,F.o⟩;rw[D.o,<-J.o];first | rw[if_pos (by omega)] | rw[if_neg (by omega)]
  · go_enter Tryz.func33,Tryz.ntmps33;go_wp2_with fail
    all_goals first
      | (exfalso;omega)
      | (go_ret
         refine⟨Aj ?_,F.o⟩;rw[D.o,if_pos (by omega)])
theorem ED(set n:Int)(w:World):Calls Tryz.prog 87 #[ja jb set,ja jb n] w fun e w'=>e=jh (je (Tt.weeksB set n))/\w'=w:=by
  obtain⟨B,A⟩: ∃B,B=Tt.weeksB set n:=⟨_,rfl⟩
  rw[<-A];have D:=Lh (show B=decide (1<=n/\n<=20/\1<=set/\set<((2 ^ n.toNat:Nat):Int))from A);clear A;by_cases hr:1<=n/\n<=20
  · obtain⟨a0,a1⟩:=hr;obtain⟨k,rfl⟩: ∃k:Nat,n=k:=⟨n.toNat,by omega⟩
    obtain⟨p,hp⟩: ∃p:Nat,p=2 ^ k:=⟨_,rfl⟩
    have H:p<=1048576:=by rw[hp];exact Nat.pow_le_pow_right (n:=2) (by decide) (show k<=20 by omega)
    have G:=Lh hp;have F: ¬((k:Int)<0):=by omega
    have E:RowKit.wrap64 (2 ^ k)=(p:Int):=by rw[show((2:Int) ^ k)=((2 ^ k:Nat):Int)by simp,<-hp];unfold RowKit.wrap64;omega
    clear hp;go_enter Tryz.func87,Tryz.ntmps87;go_wp2_with fail
    all_goals
      go_ret;refine⟨Ag ?_,rfl⟩;rw[D.o,xi,<-G.o];first | exact decide_eq_decide.2 (by omega) | exact(decide_eq_false (by omega)).symm
  · go_enter Tryz.func87,Tryz.ntmps87;go_wp2_with fail
    all_goals first
      | (exfalso;omega)
      | (go_ret
         refine⟨Ag ?_,rfl⟩;rw[D.o];exact(decide_eq_false (fun h=>hr ⟨h.1,h.2.1⟩)).symm)
theorem Tm(g:Tt.Grd)(n:Int)(w:World):Calls Tryz.prog 89 #[Cj g,ja jb n] w fun e w'=>e=jh (je (decide (Tt.gridV g=0/\1<=n/\n<=20)))/\Below w.heap.size w w':=by
 obtain⟨E,F⟩: ∃E,E=Tt.gridV g:=⟨_,rfl⟩
 rw[<-F];obtain⟨W,A⟩: ∃W,W=w.alloc (ji #[ja jb g.days,ja jb g.slots,ja jb g.begin_,ja jb g.mins] 65):=⟨_,rfl⟩
 have H:=Lh (show Calls Tryz.prog 33 #[.agg #[ja jb g.days,ja jb g.slots,ja jb g.begin_,ja jb g.mins]] W fun e w'=>e=jh (ja jb E)/\Below W.heap.size W w' from by rw[F];exact Lw g W);have G:=Lh (show Below w.heap.size w W from by rw[A];exact Aa w _);have hb:Af w.heap.size #[ja jb g.days,ja jb g.slots,ja jb g.begin_,ja jb g.mins] 65 W:=by rw[A];exact Af.new w _ _
 have c0:W.cell? ⟨w.heap.size,0,none⟩=some (ja jb g.days):=hb.cell 0;have c1:W.cell? ⟨w.heap.size,1,none⟩=some (ja jb g.slots):=hb.cell 1;have c2:W.cell? ⟨w.heap.size,2,none⟩=some (ja jb g.begin_):=hb.cell 2;have c3:W.cell? ⟨w.heap.size,3,none⟩=some (ja jb g.mins):=hb.cell 3;unfold Cj;clear F hb;go_enter Tryz.func89,Tryz.ntmps89;go_upto_region 1 with(fail);rw[<-A];clear A;go_wp2_with fail;refine H.o.mono ?_;rintro e O ⟨rfl,hb1⟩;have J:=Lh (G.o.trans (hb1.mono G.o.size));clear hb1 H G c0 c1 c2 c3;by_cases D:E=0
 ·have M:(E==0)=true:=by simp[D]
  go_wp2_with fail
  all_goals
   go_ret;refine⟨Ag ?_,J.o⟩;first | exact(decide_eq_false (by omega)).symm | exact decide_eq_decide.2 (by omega) | (simp;omega)
 ·have M:(E==0)=false:=by simp[D]
  go_wp2_with fail
  all_goals
   go_ret;refine⟨Ag ?_,J.o⟩;exact(decide_eq_false (fun h=>D h.1)).symm
theorem Mg(x:Tt.Tim)(w:World):Calls Tryz.prog 86 #[D8 x] w fun e w'=>e=jh (je (Tt.soundB x))/\Below w.heap.size w w':=by
  obtain⟨k,d,s,l⟩:=x;obtain⟨B,D⟩: ∃B,B=Tt.soundB ⟨k,d,s,l⟩:=⟨_,rfl⟩
  rw[<-D];obtain⟨C,A⟩: ∃C,C=Tt.weeksB k 20:=⟨_,rfl⟩
  have E:=Lh (show B=(Tt.weeksB k 20 && decide (0<=d/\d<7/\0<=s/\s<24/\1<=l/\s+l<=24))from D);rw[<-A]at E;have H:=Lh A;have G:=Lh (Aa w (ji #[ja jb k,ja jb d,ja jb s,ja jb l] 90));clear D A;unfold D8;by_cases hr:0<=s/\s<=24/\1<=l/\l<=24
  · obtain⟨a0,a1,a2,a3⟩:=hr;have M:wrap64 (24 - s)=24 - s:=by unfold RowKit.wrap64;omega
    have J:wrap64 (s+l)=s+l:=by unfold RowKit.wrap64;omega
    go_enter Tryz.func86,Tryz.ntmps86;go_wp2_with fail
    all_goals
      refine(ED _ _ _).mono ?_;rintro e F ⟨rfl,hx⟩;rw[hx,<-H.o];clear hx F;cases C
    all_goals go_wp2_with fail
    all_goals
      go_ret;refine⟨Ag ?_,G.o⟩;rw[E.o];first | rfl | exact(decide_eq_false (by omega)).symm | exact(decide_eq_true (by omega)).symm | exact decide_eq_decide.2 (by omega)
  · go_enter Tryz.func86,Tryz.ntmps86;go_wp2_with fail
    all_goals
      try (refine(ED _ _ _).mono ?_
           rintro e F ⟨rfl,hx⟩;rw[hx,<-H.o];clear hx F;cases C)
    all_goals go_wp2_with fail
    all_goals first
      | (exfalso;omega)
      | (go_ret
         refine⟨Ag ?_,G.o⟩;rw[E.o];first | rfl | exact(decide_eq_false (by omega)).symm | exact decide_eq_decide.2 (by omega))
theorem Uh(g:Tt.Grd)(n:Int)(x:Tt.Tim)(w:World):Calls Tryz.prog 62 #[Cj g,ja jb n,D8 x] w fun e w'=>e=jh (ja jb (Tt.fitsV g n x))/\Below w.heap.size w w':=by
 obtain⟨E,hE⟩: ∃E,E=Tt.fitsV g n x:=⟨_,rfl⟩
 rw[<-hE];have HE:=Lh (show E=(if Tt.gridV g=0/\1<=n/\n<=20 then(if Tt.soundB x=true/\Tt.weeksB x.weeks n=true/\x.day<g.days/\x.start+x.len<=g.slots then 0 else 14)else 1)from hE);have ab:Hid (Tt.gridV g=0->1<=g.slots/\g.slots<=24/\1<=g.days/\g.days<=7):=Lh (fun h=>by unfold Tt.gridV at h;split at h<;>first | (cases h;done) | omega);obtain⟨G,hG⟩: ∃G:Bool,G=decide (Tt.gridV g=0/\1<=n/\n<=20):=⟨_,rfl⟩
 obtain⟨S,hS⟩: ∃S:Bool,S=Tt.soundB x:=⟨_,rfl⟩
 obtain⟨K,hK⟩: ∃K:Bool,K=Tt.weeksB x.weeks n:=⟨_,rfl⟩
 obtain⟨P,hP⟩: ∃P,P=w.heap.size:=⟨_,rfl⟩
 obtain⟨Q,hQ⟩: ∃Q,Q=w.heap.size+1:=⟨_,rfl⟩
 obtain⟨W,U⟩: ∃W,W=(w.alloc (ji #[ja jb g.days,ja jb g.slots,ja jb g.begin_,ja jb g.mins] 65)).alloc (ji #[ja jb x.weeks,ja jb x.day,ja jb x.start,ja jb x.len] 90):=⟨_,rfl⟩
 have X:=Lh (show ∀W,Calls Tryz.prog 89 #[.agg #[ja jb g.days,ja jb g.slots,ja jb g.begin_,ja jb g.mins],ja jb n] W fun e w'=>e=jh (je G)/\Below W.heap.size W w' from fun W=>by rw[hG];exact Tm g n W);have aa:=Lh (show ∀W,Calls Tryz.prog 86 #[.agg #[ja jb x.weeks,ja jb x.day,ja jb x.start,ja jb x.len]] W fun e w'=>e=jh (je S)/\Below W.heap.size W w' from fun W=>by rw[hS];exact Mg x W);have Z:=Lh (show ∀W,Calls Tryz.prog 87 #[ja jb x.weeks,ja jb n] W fun e w'=>e=jh (je K)/\w'=W from fun W=>by rw[hK];exact ED _ _ W);have HB:=Lh (show Below w.heap.size w W from by rw[U];exact(Aa w _).trans ((Aa _ _).mono (by simp)));have F:=Lh (show Af P #[ja jb g.days,ja jb g.slots,ja jb g.begin_,ja jb g.mins] 65 W from by rw[U,hP];exact(Af.new w _ _).alloc _);have R:=Lh (show Af Q #[ja jb x.weeks,ja jb x.day,ja jb x.start,ja jb x.len] 90 W from by rw[U,hQ];exact Af.new' _ _ _ (by simp));have HG:=Lh hG;have HS:=Lh hS;have HK:=Lh hK;have a0:W.cell? ⟨P,0,none⟩=some (ja jb g.days):=F.o.cell 0;have a1:W.cell? ⟨P,1,none⟩=some (ja jb g.slots):=F.o.cell 1;have a2:W.cell? ⟨P,2,none⟩=some (ja jb g.begin_):=F.o.cell 2;have a3:W.cell? ⟨P,3,none⟩=some (ja jb g.mins):=F.o.cell 3;unfold Cj D8;clear hE hG hS hK;go_enter Tryz.func62,Tryz.ntmps62;go_upto_region 1 with(fail);rw[<-U,<-hQ,<-hP];clear U hQ hP;go_wp2_with fail;refine(X.o _).mono ?_;rintro e w1 ⟨rfl,hb1⟩;have HL:=Lh (HB.o.trans (hb1.mono HB.o.size));have T:=Lh (F.o.below hb1 F.o.lt);have A:=Lh (R.o.below hb1 R.o.lt);clear hb1 X HB F R a0 a1 a2 a3;cases G
 ·have V:E=1:=by rw[HE.o,if_neg (of_decide_eq_false HG.o.symm)]
  have D:=Lh V;clear V;go_wp2_with fail;go_ret;exact⟨Aj D.o.symm,HL.o⟩
 ·have hg:=of_decide_eq_true HG.o.symm;have O:=Lh hg;obtain⟨g1,g2,g3,g4⟩:=ab.o hg.1;clear hg;have q0:w1.cell? ⟨Q,0,none⟩=some (ja jb x.weeks):=A.o.cell 0;have q1:w1.cell? ⟨Q,1,none⟩=some (ja jb x.day):=A.o.cell 1;have q2:w1.cell? ⟨Q,2,none⟩=some (ja jb x.start):=A.o.cell 2;have q3:w1.cell? ⟨Q,3,none⟩=some (ja jb x.len):=A.o.cell 3;go_wp2_with fail;refine(aa.o _).mono ?_;rintro e w2 ⟨rfl,J⟩;have M:=Lh (HL.o.trans (J.mono HL.o.size));have Y:=Lh (T.o.below J T.o.lt);have H:=Lh (A.o.below J A.o.lt);clear J aa HL T A q0 q1 q2 q3;have a0:w2.cell? ⟨P,0,none⟩=some (ja jb g.days):=Y.o.cell 0;have a1:w2.cell? ⟨P,1,none⟩=some (ja jb g.slots):=Y.o.cell 1;have q0:w2.cell? ⟨Q,0,none⟩=some (ja jb x.weeks):=H.o.cell 0;have q1:w2.cell? ⟨Q,1,none⟩=some (ja jb x.day):=H.o.cell 1;have q2:w2.cell? ⟨Q,2,none⟩=some (ja jb x.start):=H.o.cell 2;have q3:w2.cell? ⟨Q,3,none⟩=some (ja jb x.len):=H.o.cell 3;cases S
  ·have D:=Lh (show E=14 from by rw[HE.o,if_pos O.o,if_neg (fun h=>by rw[<-HS.o]at h;cases h.1)]);go_wp2_with fail;go_ret;exact⟨Aj D.o.symm,M.o⟩
  ·obtain⟨s1,s2,s3,s4,s5,s6,s7⟩:=(Tt.soundB_iff x).1 HS.o.symm;have hw:wrap64 (x.start+x.len)=x.start+x.len:=by unfold RowKit.wrap64;omega
   have ac:=Lh s1;clear s1;go_wp2_with fail;refine(Z.o _).mono ?_;rintro e w3 ⟨rfl,hx⟩;rw[hx];clear hx w3 Z;cases K
   ·have D:=Lh (show E=14 from by rw[HE.o,if_pos O.o,if_neg (fun h=>by rw[<-HK.o]at h;cases h.2.1)]);go_wp2_with fail;go_ret;exact⟨Aj D.o.symm,M.o⟩
   ·have D:=Lh (show E=if x.day<g.days/\x.start+x.len<=g.slots then 0 else 14 from by
     rw[HE.o,if_pos O.o];by_cases h:x.day<g.days/\x.start+x.len<=g.slots
     ·rw[if_pos h,if_pos ⟨HS.o.symm,HK.o.symm,h.1,h.2⟩]
     ·rw[if_neg h,if_neg (fun hh=>h hh.2.2)])
    go_wp2_with fail
    all_goals
     go_ret;refine⟨Aj ?_,M.o⟩;rw[D.o];first | rw[if_pos (by omega)] | rw[if_neg (by omega)]
end Go.Proofs.YtegjgjgoodekiaaGreatDoor
namespace Tt
structure Trm where
 first:Int
 weeks:Int
 hols:List Int
def lastT(t:Trm):Int:=t.first+7*t.weeks - 1
def wkdV(n:Int):Int:=if isD n=true then wk n else -1
def holV(a b:Int):Option Int->List Int->Int
 | _,[]=>0
 | p,h::r=>if h<a∨b<h then 13 else if p.any (fun q=>decide (h<=q))=true then 11 else holV a b (some h) r
def prevI(l:List Int)(k:Nat):Option Int:=if k=0 then none else l[k - 1]?
theorem NX(l:List Int)(k:Nat)(d:Int)(h:l[k]?=some d):prevI l (k+1)=some d:=by unfold prevI;simp[h]
def holF(a b:Int)(l:List Int)(k:Nat):Int:=holV a b (prevI l k) (l.drop k)
theorem holF_end(a b:Int)(l:List Int)(k:Nat)(h:l.length<=k):holF a b l k=0:=by unfold holF;rw[List.drop_eq_nil_of_le h];rfl
theorem holF_step(a b:Int)(l:List Int)(k:Nat)(d:Int)(h:l[k]?=some d):holF a b l k=if d<a∨b<d then 13 else if(prevI l k).any (fun q=>decide (d<=q))=true then 11 else holF a b l (k+1):=by
 unfold holF;obtain⟨g1,g2⟩:=xf.1 h;rw[xg g1,g2,holV,NX l k d h]
def trmV(t:Trm):Int:=if wkdV t.first≠0 then 13 else if t.weeks<1∨20<t.weeks then 3 else if isD (lastT t)=false then 13 else if 64<(t.hols.length:Int)then 2 else holF t.first (lastT t) t.hols 0
theorem trmV_ok{t:Trm}(h:trmV t=0):0<=t.first/\t.first<=36524/\1<=t.weeks/\t.weeks<=20/\lastT t<=36524/\wk t.first=0:=by
 unfold trmV at h;split at h
 ·cases h
 ·split at h
  ·cases h
  ·split at h
   ·cases h
   ·rename_i w M H
    have A:isD t.first=true:=by
     cases hd:isD t.first with
     | true=>rfl
     | false=>exact absurd (by unfold wkdV;rw[if_neg (by rw[hd];decide)];decide) w
    have G:wk t.first=0:=by
     have E: ¬wkdV t.first≠0:=w;unfold wkdV at E;rw[if_pos A]at E;omega
    have F:isD (lastT t)=true:=by simpa using H
    have D:=(isD_iff _).1 A;have J:=(isD_iff _).1 F;exact⟨D.1,D.2,by omega,by omega,J.2,G⟩
def atD(t:Trm)(k d:Int):Int:=t.first+7*(k - 1)+d
def atB(t:Trm)(k d:Int):Bool:=decide (trmV t=0/\1<=k/\k<=t.weeks/\0<=d/\d<7) && !decide (atD t k d∈t.hols)
def daysK(t:Trm)(x:Tim):Nat->List Int
 | 0=>[]
 | k+1=>if bit x.weeks k=true/\atB t ((k:Int)+1) x.day=true then daysK t x k++[atD t ((k:Int)+1) x.day]else daysK t x k
theorem daysK_len(t:Trm)(x:Tim): ∀k,(daysK t x k).length<=k
 | 0=>xa _
 | k+1=>by
  have ih:=daysK_len t x k;rw[daysK];split
  ·rw[xd];simp;omega
  ·omega
end Tt
namespace Go.Proofs.YtegjgjgoodekiaaGreatDoor
open Go.RowKit
def Cu(t:Tt.Trm)(v:Value):Value:=.agg #[ja jb t.first,ja jb t.weeks,v]
theorem NH(n:Int)(w:World):Calls Tryz.prog 55 #[ja jb n] w fun e w'=>e=jh (ja jb (Tt.wkdV n))/\w'=w:=by
 unfold Tt.wkdV;cases h:Tt.isD n with
 | true=>rw[if_pos rfl];exact Lc n w h
 | false=>rw[if_neg (by decide)];exact NG n w h
theorem Ug(t:Tt.Trm)(ao:Option Addr)(c:Nat)(B:Nat)(x:Int)(w:World)(X:B<=w.heap.size)(V:Ints B w ao t.hols)(hn:t.hols.length<=4611686018427387903):Calls Tryz.prog 119 #[Cu t (jd ao t.hols.length c),ja jb x] w fun e w'=>e=jh (je (decide (x∈t.hols)))/\Below w.heap.size w w':=by
 obtain⟨P,T⟩: ∃P,P=w.heap.size:=⟨_,rfl⟩
 obtain⟨W,E⟩: ∃W,W=w.alloc (ji #[ja jb t.first,ja jb t.weeks,jd ao t.hols.length c] 68):=⟨_,rfl⟩
 have D:=Lh (show Below w.heap.size w W from by rw[E];exact Aa w _);have A:=Lh (show Af P #[ja jb t.first,ja jb t.weeks,jd ao t.hols.length c] 68 W from by rw[E,T];exact Af.new w _ _);have F:=Lh (show Ints B W ao t.hols from V.below (D.o.mono X));have Y:=Lh (show B<=P by omega);unfold Cu;clear V;obtain⟨xs,H⟩: ∃xs,xs=t.hols:=⟨_,rfl⟩
 rw[<-H]at hn F A E ⊢;have c0:W.cell? ⟨P,0,none⟩=some (ja jb t.first):=A.o.cell 0;have c1:W.cell? ⟨P,1,none⟩=some (ja jb t.weeks):=A.o.cell 1;have c2:W.cell? ⟨P,2,none⟩=some (jd ao xs.length c):=A.o.cell 2;clear H;go_enter Tryz.func119,Tryz.ntmps119;go_upto_region 1 with(fail);rw[<-E,<-T];clear E T;go_wp2_with fail;go_loop [5] (fun i=> ∃k:Nat,i=ja jb k/\k<=xs.length/\Hid (decide (x∈xs)=decide (x∈xs.drop k))) (fun i=>xs.length - (intOf i).toNat)
 case atStart=>exact⟨0,rfl,xj _,rfl⟩
 case round=>
  obtain⟨k,rfl,hk,R⟩:=hrel;by_cases O:k<xs.length
  ·obtain⟨d,hd⟩: ∃d,xs[k]?=some d:=⟨_,xb O⟩
   obtain⟨b,o,ha,hb,J⟩:=F.o.form (by omega);subst ha;have hc:=J k d hd;have M:(k:Int)<(xs.length:Int):=by omega
   have U:=Lh (show decide (x∈xs.drop k)=(decide (x=d) || decide (x∈xs.drop (k+1)))by
    obtain⟨g1,g2⟩:=xf.1 hd;rw[xg g1,g2];simp)
   clear hd J;by_cases he:d=x
   ·have ht:(d==x)=true:=by simp[he]
    have G:=Lh (show decide (x∈xs)=true by rw[R.o,U.o,he];simp);clear he;go_wp2_with fail;go_ret;exact⟨Ag (by rw[G.o]<;>rfl),D.o⟩
   ·have ht:(d==x)=false:=by simp[he]
    have G:=Lh (show decide (x∈xs)=decide (x∈xs.drop (k+1))by rw[R.o,U.o,decide_eq_false (fun e=>he e.symm)];rfl);clear he;go_wp2_with fail;go_round
    case rel=>exact⟨k+1,by go_num,by omega,G.o⟩
    case measure=>simp[intOf];omega
  ·have M: ¬(k:Int)<(xs.length:Int):=by omega
   have G:=Lh (show decide (x∈xs)=false by rw[R.o,List.drop_eq_nil_of_le (by omega)];simp);go_wp2_with fail;go_ret;exact⟨Ag (by rw[G.o]<;>rfl),D.o⟩
theorem NJ(t:Tt.Trm)(ao:Option Addr)(c:Nat)(B:Nat)(w:World)(hB:B<=w.heap.size)(hI:Ints B w ao t.hols)(hn:t.hols.length<=4611686018427387903):Calls Tryz.prog 34 #[Cu t (jd ao t.hols.length c)] w fun e w'=>e=jh (ja jb (Tt.trmV t))/\Below w.heap.size w w':=by
  obtain⟨E,hE⟩: ∃E,E=Tt.trmV t:=⟨_,rfl⟩
  rw[<-hE];have HE:=Lh (show E=(if Tt.wkdV t.first≠0 then 13 else if t.weeks<1∨20<t.weeks then 3 else if Tt.isD (Tt.lastT t)=false then 13 else if 64<(t.hols.length:Int)then 2 else Tt.holF t.first (Tt.lastT t) t.hols 0)from hE);clear hE;obtain⟨P,hP⟩: ∃P,P=w.heap.size:=⟨_,rfl⟩
  obtain⟨W,hW⟩: ∃W,W=w.alloc (ji #[ja jb t.first,ja jb t.weeks,jd ao t.hols.length c] 68):=⟨_,rfl⟩
  have G:=Lh (show Below w.heap.size w W from by rw[hW];exact Aa w _);have J:=Lh (show Af P #[ja jb t.first,ja jb t.weeks,jd ao t.hols.length c] 68 W from by rw[hW,hP];exact Af.new w _ _);have al:=Lh (show Ints B W ao t.hols from hI.below (G.o.mono hB));have au:=Lh (show B<=P by omega);unfold Cu;clear hI;have c0:W.cell? ⟨P,0,none⟩=some (ja jb t.first):=J.o.cell 0;have c1:W.cell? ⟨P,1,none⟩=some (ja jb t.weeks):=J.o.cell 1;have c2:W.cell? ⟨P,2,none⟩=some (jd ao t.hols.length c):=J.o.cell 2;obtain⟨D,hD⟩: ∃D,D=Tt.wkdV t.first:=⟨_,rfl⟩
  rw[<-hD]at HE;have HD:=Lh hD;clear hD;have av:Hid (D=0->0<=t.first/\t.first<=36524):=Lh (fun h=>by
    rw[HD.o]at h;unfold Tt.wkdV at h;split at h
    · rename_i hd;exact(Tt.isD_iff _).1 hd
    · cases h)
  go_enter Tryz.func34,Tryz.ntmps34;go_upto_region 1 with(fail);rw[<-hW,<-hP];clear hW hP;go_wp2_with fail;refine(NH _ _).mono ?_;rintro e w1 ⟨rfl,hx⟩;rw[hx,<-HD.o];clear hx w1;by_cases R:D=0;rotate_left
  · have hb:(D !=0)=true:=by simp[R]
    have M:=Lh (show E=13 from by rw[HE.o,if_pos R]);clear R;go_wp2_with fail;go_ret;exact⟨Aj M.o.symm,G.o⟩
  have hb:(D !=0)=false:=by simp[R]
  obtain⟨f0,f1⟩:=av.o R;have ac:=Lh R;clear R;by_cases hw:t.weeks<1∨20<t.weeks
  · have M:=Lh (show E=3 from by rw[HE.o,if_neg (fun h=>h ac.o),if_pos hw]);rcases hw with hw | hw
    · go_wp2_with fail
      all_goals first
        | (exfalso;omega)
        | (go_ret
           exact⟨Aj M.o.symm,G.o⟩)
    · go_wp2_with fail
      all_goals first
        | (exfalso;omega)
        | (go_ret
           exact⟨Aj M.o.symm,G.o⟩)
  have az:1<=t.weeks:=by omega
  have aG:t.weeks<=20:=by omega
  have HW:=Lh hw;clear hw;obtain⟨LT,ab⟩: ∃L,L=Tt.lastT t:=⟨_,rfl⟩
  rw[<-ab]at HE;have aq:=Lh (show LT=t.first+7*t.weeks - 1 from ab);have aw:=Lh ab;clear ab;go_wp2_with fail;rw[show t.first+7*t.weeks - 1=LT from aq.o.symm];have ae:Hid (Below W.heap.size W W):=Lh (Below.refl _ _);obtain⟨w1,Y⟩: ∃w1,w1=W:=⟨_,rfl⟩
  rw[<-Y]at c0 c1 c2 ⊢;rw[show Below W.heap.size W W ↔ Below W.heap.size W w1 by rw[Y]]at ae;clear Y;obtain⟨IB,ah⟩: ∃b,b=Tt.isD LT:=⟨_,rfl⟩
  rw[<-ah]at HE;have am:=Lh ah;clear ah;refine(Oe _ _).mono ?_;rintro e w2 ⟨rfl,hx⟩;rw[hx,<-am.o];clear hx w2;cases IB
  · have M:=Lh (show E=13 from by rw[HE.o,if_neg (fun h=>h ac.o),if_neg HW.o,if_pos rfl]);go_wp2_with fail;go_ret;exact⟨Aj M.o.symm,G.o.trans (ae.o.mono G.o.size)⟩
  · by_cases hm:64<(t.hols.length:Int)
    · have M:=Lh (show E=2 from by rw[HE.o,if_neg (fun h=>h ac.o),if_neg HW.o,if_neg (by decide),if_pos hm]);go_wp2_with fail;go_ret;exact⟨Aj M.o.symm,G.o.trans (ae.o.mono G.o.size)⟩
    have M:=Lh (show Tt.holF t.first LT t.hols 0=E from by rw[HE.o,if_neg (fun h=>h ac.o),if_neg HW.o,if_neg (by decide),if_neg hm]);obtain⟨xs,aI⟩: ∃xs,xs=t.hols:=⟨_,rfl⟩
    go_wp2_with fail;go_loopw [4] (fun iv wr=> ∃k:Nat,iv=ja jb k/\k<=t.hols.length/\Hid (Tt.holF t.first LT t.hols k=E)/\Hid (Below W.heap.size W wr)) (fun iv _=>t.hols.length - (intOf iv).toNat)
    case atStart=>exact⟨0,rfl,xj _,M,ae⟩
    case round=>
      clear c0 c1 c2;obtain⟨k,rfl,hk,HK,V⟩:=hrel;have c0:wr.cell? ⟨P,0,none⟩=some (ja jb t.first):=(J.o.below V.o J.o.lt).cell 0;have c1:wr.cell? ⟨P,1,none⟩=some (ja jb t.weeks):=(J.o.below V.o J.o.lt).cell 1;have c2:wr.cell? ⟨P,2,none⟩=some (jd ao t.hols.length c):=(J.o.below V.o J.o.lt).cell 2;by_cases ar:k<t.hols.length
      · obtain⟨d,hd⟩: ∃d,t.hols[k]?=some d:=⟨_,xb ar⟩
        have ap:=Lh (al.o.below (V.o.mono (by have:=J.o.lt;have:=au.o;omega)));obtain⟨b,o,ha,aB,T⟩:=ap.o.form (by omega);subst ha;have hc:=T k d hd;have ak:(k:Int)<(t.hols.length:Int):=by omega
        have aH:(0:Int)<=(k:Int):=by omega
        have ai:=Lh (Tt.holF_step t.first LT t.hols k d hd);have F:=Lh (show Below w.heap.size w wr from G.o.trans (V.o.mono G.o.size));by_cases h1:d<t.first
        · have Z:=Lh (show E=13 from by rw[<-HK.o,ai.o,if_pos (.inl h1)]);clear hd T;go_upto_region 13 with(fail)
          go_quiet (fail)
          go_wp2_with fail;go_ret;exact⟨Aj Z.o.symm,F.o.trans ⟨rfl,rfl,rfl,xa _,fun k hk=>rfl⟩⟩
        by_cases h2:LT<d
        · have Z:=Lh (show E=13 from by rw[<-HK.o,ai.o,if_pos (.inr h2)]);clear hd T;go_upto_region 13 with(fail)
          go_quiet (fail)
          go_wp2_with fail;go_ret;exact⟨Aj Z.o.symm,F.o.trans ⟨rfl,rfl,rfl,xa _,fun k hk=>rfl⟩⟩
        have ag:=Lh (show E=if(Tt.prevI t.hols k).any (fun q=>decide (d<=q))=true then 11 else Tt.holF t.first LT t.hols (k+1)from by rw[<-HK.o,ai.o,if_neg (fun h=>h.elim h1 h2)]);by_cases aa:k=0
        · subst aa;have ax:(0:Int)<(t.hols.length:Int):=by omega
          have hc:wr.cell? ⟨b,o,none⟩=some (ja jb d):=by simpa using hc
          have Z:=Lh (show Tt.holF t.first LT t.hols 1=E from by rw[ag.o];rfl);clear hd T;go_upto_region 13 with(fail)
          go_quiet (fail)
          obtain⟨w2,O,H,A,X⟩:=DG wr nq;have e0:=(A _).trans c0;have e1:=(A _).trans c1;have e2:=(A _).trans c2;have ec:=(A _).trans hc;rw[<-O];have V:=Lh (V.o.trans (H _));have F:=Lh (F.o.trans (H _));clear O H A X c0 c1 c2 hc;go_upto_region 15 with(fail)
          go_quiet (fail)
          go_wp2_with fail;go_roundw
          case rel=>exact⟨1,by go_num,by omega,Z,Lh (V.o.trans ⟨rfl,rfl,rfl,xa _,fun k hk=>rfl⟩)⟩
          case measure=>simp[intOf];omega
        obtain⟨j,rfl⟩: ∃j,k=j+1:=⟨k - 1,by omega⟩
        obtain⟨d2,af⟩: ∃d2,t.hols[j]?=some d2:=⟨_,xb (by omega)⟩
        have U:=T j d2 af;have aF:(0:Int)<=(j:Int)+1:=by omega
        have aA:((j:Int)+1).toNat=j+1:=by omega
        have aD:(j:Int)<(t.hols.length:Int):=by omega
        have aC:(j:Int)+1<(t.hols.length:Int):=by omega
        have aE:(0:Int)<(j:Int)+1:=by omega
        have ay:(0:Int)<=(j:Int):=by omega
        have aj:=Lh (show Tt.prevI t.hols (j+1)=some d2 from by unfold Tt.prevI;rw[if_neg aa,Nat.add_sub_cancel,af]);by_cases h3:d<=d2
        · have Z:=Lh (show E=11 from by rw[ag.o,aj.o];exact if_pos (decide_eq_true h3));clear hd T af aa;go_upto_region 13 with(fail)
          go_quiet (fail)
          obtain⟨w2,O,H,A,X⟩:=DG wr nq;have e0:=(A _).trans c0;have e1:=(A _).trans c1;have e2:=(A _).trans c2;have ec:=(A _).trans hc;have ed:=(A _).trans U;rw[<-O];have V:=Lh (V.o.trans (H _));have F:=Lh (F.o.trans (H _));clear O H A X c0 c1 c2 hc U;go_upto_region 15 with(fail)
          go_quiet (fail)
          go_wp2_with fail;go_ret;exact⟨Aj Z.o.symm,F.o.trans ⟨rfl,rfl,rfl,xa _,fun k hk=>rfl⟩⟩
        · have Z:=Lh (show Tt.holF t.first LT t.hols (j+1+1)=E from by rw[ag.o,aj.o];exact(if_neg (by simp;omega)).symm);clear hd T af aa;go_upto_region 13 with(fail)
          go_quiet (fail)
          obtain⟨w2,O,H,A,X⟩:=DG wr nq;have e0:=(A _).trans c0;have e1:=(A _).trans c1;have e2:=(A _).trans c2;have ec:=(A _).trans hc;have ed:=(A _).trans U;rw[<-O];have V:=Lh (V.o.trans (H _));have F:=Lh (F.o.trans (H _));clear O H A X c0 c1 c2 hc U;go_upto_region 15 with(fail)
          go_quiet (fail)
          go_wp2_with fail;go_roundw
          case rel=>exact⟨j+1+1,by go_num,by omega,Z,Lh (V.o.trans ⟨rfl,rfl,rfl,xa _,fun k hk=>rfl⟩)⟩
          case measure=>simp[intOf];omega
      · have ak: ¬(k:Int)<(t.hols.length:Int):=by omega
        have Z:=Lh (show E=0 from by rw[<-HK.o];exact Tt.holF_end _ _ _ _ (by omega));have F:=Lh (show Below w.heap.size w wr from G.o.trans (V.o.mono G.o.size));go_wp2_with fail;go_ret;exact⟨Aj Z.o.symm,F.o⟩
theorem VN{t:Tt.Trm}{k d:Int}(A:Tt.trmV t=0)(w:1<=k/\k<=t.weeks/\0<=d/\d<7):Tt.atB t k d=!decide (Tt.atD t k d∈t.hols):=by
 unfold Tt.atB;rw[decide_eq_true ⟨A,w⟩,Bool.true_and]
theorem S6{t:Tt.Trm}{k d:Int}(h: ¬(Tt.trmV t=0/\1<=k/\k<=t.weeks/\0<=d/\d<7)):Tt.atB t k d=false:=by
 unfold Tt.atB;rw[decide_eq_false h,Bool.false_and]
theorem Ll{a b:Int}{c d:Bool}(w:a=b)(A:c=d):Ending.returned (jg #[ja jb a,je c])=jh (jg #[ja jb b,je d]):=by rw[w,A]
theorem Wm(t:Tt.Trm)(ao:Option Addr)(c:Nat)(B:Nat)(k d:Int)(w:World)(hB:B<=w.heap.size)(hI:Ints B w ao t.hols)(hn:t.hols.length<=4611686018427387903):Calls Tryz.prog 90 #[Cu t (jd ao t.hols.length c),ja jb k,ja jb d] w fun e w'=>e=jh (jg #[ja jb (if Tt.atB t k d=true then Tt.atD t k d else 0),je (Tt.atB t k d)])/\Below w.heap.size w w':=by
  obtain⟨A,hA⟩: ∃A,A=Tt.atB t k d:=⟨_,rfl⟩
  rw[<-hA];have HA:=Lh hA;clear hA;obtain⟨V,hV⟩: ∃V:Int,V=if A=true then Tt.atD t k d else 0:=⟨_,rfl⟩
  rw[<-hV];have HV:=Lh hV;clear hV;obtain⟨P,hP⟩: ∃P,P=w.heap.size:=⟨_,rfl⟩
  obtain⟨W,hW⟩: ∃W,W=w.alloc (ji #[ja jb t.first,ja jb t.weeks,jd ao t.hols.length c] 68):=⟨_,rfl⟩
  have O:=Lh (show Below w.heap.size w W from by rw[hW];exact Aa w _);have D:=Lh (show Af P #[ja jb t.first,ja jb t.weeks,jd ao t.hols.length c] 68 W from by rw[hW,hP];exact Af.new w _ _);have Y:=Lh (show Ints B W ao t.hols from hI.below (O.o.mono hB));have H:B<=W.heap.size:=xc hB O.o.size;have Z:=Lh (show ∀X,Below W.heap.size W X->Calls Tryz.prog 34 #[.agg #[ja jb t.first,ja jb t.weeks,jd ao t.hols.length c]] X fun e w'=>e=jh (ja jb (Tt.trmV t))/\Below X.heap.size X w' from fun X U=>NJ t ao c B X (xc H U.size) (Y.o.below (U.mono H)) hn);have af:=Lh (show ∀(x:Int) X,Below W.heap.size W X->Calls Tryz.prog 119 #[.agg #[ja jb t.first,ja jb t.weeks,jd ao t.hols.length c],ja jb x] X fun e w'=>e=jh (je (decide (x∈t.hols)))/\Below X.heap.size X w' from fun x X U=>Ug t ao c B x X (xc H U.size) (Y.o.below (U.mono H)) hn);unfold Cu;clear hI hB H hn;have c0:W.cell? ⟨P,0,none⟩=some (ja jb t.first):=D.o.cell 0;have c1:W.cell? ⟨P,1,none⟩=some (ja jb t.weeks):=D.o.cell 1;have c2:W.cell? ⟨P,2,none⟩=some (jd ao t.hols.length c):=D.o.cell 2;obtain⟨T,hT⟩: ∃T,T=Tt.trmV t:=⟨_,rfl⟩
  rw[<-hT]at Z;have HT:=Lh hT;clear hT;go_enter Tryz.func90,Tryz.ntmps90;go_upto_region 1 with(fail);rw[<-hW,<-hP];clear hW hP;go_wp2_with fail;refine(Z.o _ (Below.refl _ _)).mono ?_;rintro e w1 ⟨rfl,hb1⟩;have J:=Lh hb1;clear hb1 c0 c1 c2;have c0:w1.cell? ⟨P,0,none⟩=some (ja jb t.first):=(D.o.below J.o D.o.lt).cell 0;have c1:w1.cell? ⟨P,1,none⟩=some (ja jb t.weeks):=(D.o.below J.o D.o.lt).cell 1;have c2:w1.cell? ⟨P,2,none⟩=some (jd ao t.hols.length c):=(D.o.below J.o D.o.lt).cell 2;have R:=Lh (O.o.trans (J.o.mono O.o.size));by_cases E:T=0
  rotate_left
  · have hb:(T !=0)=true:=by simp[E]
    have G:=Lh (show A=false from by rw[HA.o];exact S6 (fun h=>E (HT.o.trans h.1)));clear E;go_wp2_with fail;go_ret2;exact⟨Ll (by rw[HV.o,G.o];rfl) G.o.symm,R.o⟩
  have hb:(T !=0)=false:=by simp[E]
  obtain⟨f0,f1,k0,k1,l1, -⟩:=Tt.trmV_ok (HT.o.symm.trans E);have ac:=Lh E;clear E;have ag:=Lh (show Tt.lastT t=t.first+7*t.weeks - 1 from rfl);by_cases hk:1<=k/\k<=t.weeks/\0<=d/\d<7
  rotate_left
  · have G:=Lh (show A=false from by rw[HA.o];exact S6 (fun h=>hk h.2));go_wp2_with fail
    all_goals first
      | (exfalso;omega)
      | (go_ret2
         exact⟨Ll (by rw[HV.o,G.o];rfl) G.o.symm,R.o⟩)
  have HK:=Lh hk;obtain⟨g0,g1,g2,g3⟩:=hk;have ae:=Lh (show Tt.atD t k d=t.first+7*(k - 1)+d from rfl);have F:=Lh (show A=!decide (t.first+7*(k - 1)+d∈t.hols)from by rw[HA.o];exact VN (HT.o.symm.trans ac.o) HK.o);clear l1;go_wp2_with fail;refine(af.o _ _ J.o).mono ?_;rintro e w2 ⟨rfl,aa⟩;have ab:=Lh (R.o.trans (aa.mono R.o.size));clear aa c0 c1 c2;obtain⟨M,hM⟩: ∃M,M=decide (t.first+7*(k - 1)+d∈t.hols):=⟨_,rfl⟩
  rw[<-hM]at F ⊢;clear hM;cases M
  · go_wp2_with fail;go_ret2;exact⟨Ll (by rw[HV.o,F.o];exact ae.o.symm) (by rw[F.o];rfl),ab.o⟩
  · go_wp2_with fail;go_ret2;exact⟨Ll (by rw[HV.o,F.o];rfl) (by rw[F.o];rfl),ab.o⟩
theorem Ur(t:Tt.Trm)(x:Tt.Tim)(ao:Option Addr)(c:Nat)(B:Nat)(w:World)(hB:B<=w.heap.size)(hI:Ints B w ao t.hols)(hn:t.hols.length<=4611686018427387903)(ag:0<=x.weeks)(ae:x.weeks<4611686018427387904):Calls Tryz.prog 63 #[Cu t (jd ao t.hols.length c),D8 x] w fun e w'=> ∃v,e=jh v/\Ah w.heap.size w' v (Tt.daysK t x 20)/\Below w.heap.size w w':=by
 obtain⟨i0,hi,al,af,ah⟩:=info_parts Dy;obtain⟨P,hP⟩: ∃P,P=w.heap.size:=⟨_,rfl⟩
 obtain⟨Q,hQ⟩: ∃Q,Q=w.heap.size+1:=⟨_,rfl⟩
 obtain⟨W,Y⟩: ∃W,W=(w.alloc (ji #[ja jb t.first,ja jb t.weeks,jd ao t.hols.length c] 68)).alloc (ji #[ja jb x.weeks,ja jb x.day,ja jb x.start,ja jb x.len] 90):=⟨_,rfl⟩
 have G:=Lh (show Below w.heap.size w W from by rw[Y];exact(Aa w _).trans ((Aa _ _).mono (by simp)));have F:=Lh (show Af P #[ja jb t.first,ja jb t.weeks,jd ao t.hols.length c] 68 W from by rw[Y,hP];exact(Af.new w _ _).alloc _);have E:=Lh (show Af Q #[ja jb x.weeks,ja jb x.day,ja jb x.start,ja jb x.len] 90 W from by rw[Y,hQ];exact Af.new' _ _ _ (by simp));have av:w.heap.size<=W.heap.size:=G.o.size;have au:P<W.heap.size:=F.o.lt;have ay:Q<W.heap.size:=E.o.lt;have ab:=Lh (show Ints B W ao t.hols from hI.below (G.o.mono hB));have U:B<=W.heap.size:=xc hB G.o.size;have HC:=Lh (show ∀(k d:Int) X,Below W.heap.size W X->Calls Tryz.prog 90 #[.agg #[ja jb t.first,ja jb t.weeks,jd ao t.hols.length c],ja jb k,ja jb d] X fun e w'=>e=jh (jg #[ja jb (if Tt.atB t k d=true then Tt.atD t k d else 0),je (Tt.atB t k d)])/\Below X.heap.size X w' from fun k d X hX=>Wm t ao c B k d X (xc U hX.size) (ab.o.below (hX.mono U)) hn);have ai:=Lh (fun k:Int=>LK x.weeks k ag ae);unfold Cu D8;clear hI hB U hn;go_enter Tryz.func63,Tryz.ntmps63;go_upto_region 1 with(fail);rw[<-Y,<-hQ,<-hP];clear Y hP hQ;have q0:W.cell? ⟨Q,0,none⟩=some (ja jb x.weeks):=(E.o.below (Below.refl W.heap.size W) E.o.lt).cell 0;have q1:W.cell? ⟨Q,1,none⟩=some (ja jb x.day):=(E.o.below (Below.refl W.heap.size W) E.o.lt).cell 1;have q2:W.cell? ⟨Q,2,none⟩=some (ja jb x.start):=(E.o.below (Below.refl W.heap.size W) E.o.lt).cell 2;have q3:W.cell? ⟨Q,3,none⟩=some (ja jb x.len):=(E.o.below (Below.refl W.heap.size W) E.o.lt).cell 3;go_wp2_with fail;clear q0 q1 q2 q3;go_loopw [5,6] (fun rv iv wr=> ∃k:Nat,k<=20/\iv=ja jb ((k:Int)+1)/\Hid (Ah W.heap.size wr rv (Tt.daysK t x k))/\Hid (Below W.heap.size W wr)) (fun _ iv _=>30 - (intOf iv).toNat)
 case atStart=>exact⟨0,by omega,rfl,Lh (Ah.nil _ _),Lh (Below.refl _ _)⟩
 case round=>
  obtain⟨k,hk,rfl,HR,J⟩:=hrel;by_cases ax:k<20;rotate_left
  ·have aa: ¬((k:Int)+1<=20):=by omega
   obtain rfl:k=20:=by omega
   go_wp2_with fail;go_ret;exact⟨_,rfl,Ab HR.o G.o.size,G.o.trans (J.o.mono G.o.size)⟩
  have aa:(k:Int)+1<=20:=by omega
  have ar:(0:Int)<=(k:Int):=by omega
  have ap:(k:Int)<20:=by omega
  have q0:wr.cell? ⟨Q,0,none⟩=some (ja jb x.weeks):=(E.o.below J.o E.o.lt).cell 0;have q1:wr.cell? ⟨Q,1,none⟩=some (ja jb x.day):=(E.o.below J.o E.o.lt).cell 1;have q2:wr.cell? ⟨Q,2,none⟩=some (ja jb x.start):=(E.o.below J.o E.o.lt).cell 2;have q3:wr.cell? ⟨Q,3,none⟩=some (ja jb x.len):=(E.o.below J.o E.o.lt).cell 3;have c0:wr.cell? ⟨P,0,none⟩=some (ja jb t.first):=(F.o.below J.o F.o.lt).cell 0;have c1:wr.cell? ⟨P,1,none⟩=some (ja jb t.weeks):=(F.o.below J.o F.o.lt).cell 1;have c2:wr.cell? ⟨P,2,none⟩=some (jd ao t.hols.length c):=(F.o.below J.o F.o.lt).cell 2;have aw: ¬x.weeks<0:=by omega
  have H:=ai.o (k:Int);rw[show((k:Int)).toNat=k from xi k]at H;obtain⟨b,hb⟩: ∃b,b=Tt.bit x.weeks (k:Int):=⟨_,rfl⟩
  rw[<-hb]at H;have Z:=Lh hb;clear hb;cases b
  ·have H:(bits .and .i64 (x.weeks / 2 ^ k) 1==1)=false:=H;have V:=Lh (show Tt.daysK t x (k+1)=Tt.daysK t x k from by rw[Tt.daysK,if_neg (fun h=>by rw[<-Z.o]at h;cases h.1)]);go_wp2_with fail;go_roundw
   case rel=>exact⟨k+1,by omega,by go_num,Lh (by rw[V.o];exact HR.o),J⟩
   case measure=>simp[intOf];omega
  ·have H:(bits .and .i64 (x.weeks / 2 ^ k) 1==1)=true:=H;go_wp2_with fail;refine(HC.o ((k:Int)+1) x.day _ J.o).mono ?_;rintro e w1 ⟨rfl,hb1⟩;have T:=Lh (J.o.trans (hb1.mono J.o.size));have R:=Lh (AD HR.o hb1);clear hb1 J HR q0 q1 q2 q3 c0 c1 c2;obtain⟨A,hA⟩: ∃A,A=Tt.atB t ((k:Int)+1) x.day:=⟨_,rfl⟩
   rw[<-hA];have HA:=Lh hA;clear hA;cases A
   ·have V:=Lh (show Tt.daysK t x (k+1)=Tt.daysK t x k from by rw[Tt.daysK,if_neg (fun h=>by rw[<-HA.o]at h;cases h.2)]);go_wp2_with fail;go_roundw
    case rel=>exact⟨k+1,by omega,by go_num,Lh (by rw[V.o];exact R.o),T⟩
    case measure=>simp[intOf];omega
   ·have V:=Lh (show Tt.daysK t x (k+1)=Tt.daysK t x k++[Tt.atD t ((k:Int)+1) x.day]from by rw[Tt.daysK,if_pos ⟨Z.o.symm,HA.o.symm⟩]);have ak:=Tt.daysK_len t x k;have aq:W.heap.size<=w1.heap.size:=T.o.size;obtain⟨D,hD⟩: ∃D,D=Tt.atD t ((k:Int)+1) x.day:=⟨_,rfl⟩
    obtain⟨L,hL⟩: ∃L,L=Tt.daysK t x k:=⟨_,rfl⟩
    rw[<-hD,<-hL]at V;rw[<-hL]at R ak;rw[if_pos rfl,<-hD];clear hD hL;obtain⟨pr,cr,hv⟩:=Ah.slice R.o;subst hv;go_wp2_with (at_builtin;refine wpList_append_own_at _ rfl (.tmp 33) (.tmp 35) 22 rfl W.heap.size 3 i0 (ja jb 0) 1 8 Tryz.underlying22 hi al af ah rfl (by decide) _ _ _ rfl (xe R.o _) ⟨w1.heap.size,0,none⟩ 1 1 [ja jb D] rfl rfl (Bq _ _ _) (by intro u hu;simp at hu;subst hu;rfl) (by unfold maxLen;omega) (by omega) (by simp;omega) ?_);intro v' x8 O M _ am;have ac:=Lh (Ak (T.o.trans ((Aa w1 _).mono T.o.size)) (xe R.o _) (xa _) (by simp;omega) M);have aj:=Lh (show Ah W.heap.size x8 v' (Tt.daysK t x (k+1))from by rw[V.o];exact Ah.snoc O);clear M O am;go_wp2_with fail;go_roundw
    case rel=>exact⟨k+1,by omega,by go_num,aj,ac⟩
    case measure=>simp[intOf];omega
open Go.RowKit Go.Maps
end Go.Proofs.YtegjgjgoodekiaaGreatDoor
namespace Tt
def fstD(ds:List Int):Int:=ds.headD 0
def lstD(ds:List Int):Int:=ds.getLastD 0
def spanN(ds:List Int):Nat:=(lstD ds - fstD ds+1).toNat
structure DsOk (ds:List Int):Prop where
 ne:ds≠[]
 d: ∀x∈ds,0<=x/\x<=36524
 le:fstD ds<=lstD ds
 sp:lstD ds<=fstD ds+140
 len:ds.length<=1000000
theorem DsOk.pos{ds:List Int}(h:DsOk ds):0<ds.length:=List.length_pos_iff.2 h.ne
theorem DsOk.first{ds:List Int}(h:DsOk ds):ds[0]?=some (fstD ds):=by
 have:=h.ne;cases ds with
 | nil=>exact absurd rfl this
 | cons a r=>rfl
theorem DsOk.last{ds:List Int}(h:DsOk ds):ds[ds.length - 1]?=some (lstD ds):=by
 have hn:=h.ne;unfold lstD;rw[List.getLastD_eq_getLast?,List.getLast?_eq_getElem?];have w:ds.length - 1<ds.length:=by have:=h.pos;omega
 rw[xb w];rfl
theorem DsOk.bd{ds:List Int}(h:DsOk ds):0<=fstD ds/\fstD ds<=36524/\0<=lstD ds/\lstD ds<=36524:=by
 have w:=h.d _ (xh h.first);have A:=h.d _ (xh h.last);omega
theorem DsOk.span{ds:List Int}(h:DsOk ds):((spanN ds:Nat):Int)=lstD ds - fstD ds+1/\spanN ds<=141:=by
 have w:=h.le;have A:=h.sp;unfold spanN;omega
def onB(ds:List Int)(e w d:Int):Bool:=decide (wk d=w) && cnt (fstD ds) e d
def hitK(ds:List Int)(e w:Int):Nat->Int
 | 0=>0
 | k+1=>hitK ds e w k+(if onB ds e w (fstD ds+k)=true/\fstD ds+k∈ds then 1 else 0)
def missK(ds:List Int)(e w:Int):Nat->Int
 | 0=>0
 | k+1=>missK ds e w k+(if onB ds e w (fstD ds+k)=true/\ ¬fstD ds+k∈ds then 1 else 0)
theorem hitK_bd(ds:List Int)(e w:Int): ∀k:Nat,0<=hitK ds e w k/\hitK ds e w k<=k/\0<=missK ds e w k/\missK ds e w k<=k
 | 0=>⟨Int.le_refl _,Int.le_refl _,Int.le_refl _,Int.le_refl _⟩
 | k+1=>by
  have ih:=hitK_bd ds e w k;rw[hitK,missK];split<;>split<;>omega
def wdK(ds:List Int)(e:Int):Nat->Nat
 | 0=>0
 | j+1=>if missK ds e j (spanN ds)<hitK ds e j (spanN ds)then wdK ds e j ||| 2 ^ j else wdK ds e j
theorem wdK_lt(ds:List Int)(e:Int): ∀j,j<=7->wdK ds e j<128
 | 0,_=>by show 0<128;decide
 | j+1,h=>by
  have ih:=wdK_lt ds e j (by omega);rw[wdK];split
  ·exact Wb j (by omega) _ ih
  ·exact ih
def exK(ds:List Int)(s:Ser):Nat->List Int
 | 0=>[]
 | k+1=>if regB s (s.first+k)=true/\ ¬s.first+k∈ds then exK ds s k++[s.first+k]else exK ds s k
def xtK(ds:List Int)(s:Ser):Nat->List Int
 | 0=>[]
 | k+1=>if regB s (s.first+k)=false/\s.first+k∈ds then xtK ds s k++[s.first+k]else xtK ds s k
theorem exK_len(ds:List Int)(s:Ser): ∀k,(exK ds s k).length<=k/\(xtK ds s k).length<=k
 | 0=>⟨xa _,xa _⟩
 | k+1=>by
  have ih:=exK_len ds s k;rw[exK,xtK];constructor
  ·split
   ·rw[xd];simp;omega
   ·omega
  ·split
   ·rw[xd];simp;omega
   ·omega
def headS(ds:List Int)(e m:Int):Ser:=⟨fstD ds,lstD ds,e,m,[],[]⟩
def serK(ds:List Int)(e m:Int)(k:Nat):Ser:=⟨fstD ds,lstD ds,e,m,exK ds (headS ds e m) k,xtK ds (headS ds e m) k⟩
def withV(ds:List Int)(e:Int):Ser:=serK ds e (wdK ds e 7) (spanN ds)
theorem bit_pow: ∀w:Nat,w<7-> ∀k:Nat,k<7->bit ((2 ^ w:Nat):Int) (k:Int)=decide ((k:Int)=(w:Int)):=by decide
end Tt
namespace Go.Proofs.YtegjgjgoodekiaaGreatDoor
open Go.RowKit
structure Et (S lo:Nat) (s:Tt.Ser) (v v':Value) (w:World):Prop where
 box:Af S #[ja jb s.first,ja jb s.last,ja jb s.every,ja jb s.wd,v,v'] 59 w
 ex:Ah lo w v s.ex
 xt:Ah lo w v' s.xt
 ap:v.ownBlock=none∨v'.ownBlock=none∨v.ownBlock≠v'.ownBlock
theorem VP{a b:Option Nat}(h:a=none∨b=none∨a≠b):b=none∨b≠a:=by
 cases a with
 | none=>cases b with
  | none=>exact .inl rfl
  | some y=>exact .inr (fun e=>by cases e)
 | some x=>
  rcases h with h | h | h
  ·cases h
  ·exact .inl h
  ·exact .inr (fun e=>h e.symm)
theorem VO{a b:Option Nat}(h:a=none∨b=none∨a≠b):a=none∨a≠b:=by
 rcases h with h | h | h
 ·exact .inl h
 ·cases a with
  | none=>exact .inl rfl
  | some x=>exact .inr (fun e=>by rw[h]at e;cases e)
 ·exact .inr h
section
variable {S lo:Nat} {s:Tt.Ser} {v v':Value} {w:World}
theorem Et.made(h:Et S lo s v v' w){w':World}(hb:Below w.heap.size w w'):Et S lo s v v' w':=
 ⟨h.box.below hb h.box.lt,AD h.ex hb,AD h.xt hb,h.ap⟩
theorem RM{e k n:Nat}{xs:List Value}(h:w.ownsRow lo e k v n xs): ∀g,v.ownBlock=some g->g<w.heap.size:=fun g hg=>(h.lt g hg).2
theorem Et.addX(h:Et S lo s v v' w){d:Int}{v2:Value}{x:World}(A:x.ownsRow lo 3 1 v2 (s.ex.length+1) (s.ex.map (Value.int .i64)++[ja jb d]))(hg:w.grownBy x v.ownBlock)(D:v2.ownBlock=v.ownBlock∨v2.ownBlock=some w.heap.size):
  Et S lo { s with ex:=s.ex++[d] } v2 v' (x.setCell ⟨S,4,none⟩ v2):=by
 have E:Af S #[ja jb s.first,ja jb s.last,ja jb s.every,ja jb s.wd,v,v'] 59 x:=h.box.grown h.ex hg (by decide);have hx:Ah lo x v2 (s.ex++[d]):=Ah.snoc A;have hy:Ah lo x v' s.xt:=World.ownsRow.kept h.xt hg (VP h.ap);refine⟨E.set 4 v2,A7 hx E (by decide) 4 v2,A7 hy E (by decide) 4 v2,?_⟩;rcases D with e | e
 ·rw[e];exact h.ap
 ·cases hv:v'.ownBlock with
  | none=>exact .inr (.inl rfl)
  | some g=>refine .inr (.inr ?_);rw[e];intro hh;have:=RM h.xt g hv;cases hh;omega
theorem Et.addY(h:Et S lo s v v' w){d:Int}{v2:Value}{x:World}(A:x.ownsRow lo 3 1 v2 (s.xt.length+1) (s.xt.map (Value.int .i64)++[ja jb d]))(hg:w.grownBy x v'.ownBlock)(D:v2.ownBlock=v'.ownBlock∨v2.ownBlock=some w.heap.size):
  Et S lo { s with xt:=s.xt++[d] } v v2 (x.setCell ⟨S,5,none⟩ v2):=by
 have E:Af S #[ja jb s.first,ja jb s.last,ja jb s.every,ja jb s.wd,v,v'] 59 x:=h.box.grown h.xt hg (by decide);have hx:Ah lo x v2 (s.xt++[d]):=Ah.snoc A;have hy:Ah lo x v s.ex:=World.ownsRow.kept h.ex hg (VO h.ap);refine⟨E.set 5 v2,A7 hy E (by decide) 5 v2,A7 hx E (by decide) 5 v2,?_⟩;rcases D with e | e
 ·rw[e];exact h.ap
 ·cases hv:v.ownBlock with
  | none=>exact .inl rfl
  | some g=>refine .inr (.inr ?_);rw[e];intro hh;have:=RM h.ex g hv;cases hh;omega
end
