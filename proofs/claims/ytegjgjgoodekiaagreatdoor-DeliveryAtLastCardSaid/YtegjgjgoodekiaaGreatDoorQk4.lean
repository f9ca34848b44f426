/- Series of days: contracts of the small functions of calendar and recurrence, and of their references. recurrence.Valid and its reference: their contracts: each gives the error of the series. timetableref39.Valid: its contract: it gives the error of the series. Dates: the contracts of calendar.Parts, calendar.Day and of the reference's. feed.Fold: its contract. The generators' Text: some text of the given characters. timetableref02.SameStrings: its contract; slices of strings in memory. -/
import Derived.Test.YtegjgjgoodekiaaGreatDoorPk1
import Derived.Test.YtegjgjgoodekiaaGreatDoorQk3
import Derived.Below
import Derived.Laws.BitsLemmas
import Derived.Outline
import Derived.Lib.Builder
import Derived.StillTailTactics
import Derived.WalkSpells
open Go.Value renaming int->ja,string->jc,slice->jd,bool->je,pointer->jf,tuple->jg
open Go.IntKind renaming i64->jb
open Go.Ending renaming returned->jh
open Go.Obj renaming cells->ji
open Nat renaming le_refl->xa,zero_le->xd
open List renaming getElem?_eq_getElem->xb,length_append->xc
set_option maxRecDepth 100000
set_option maxHeartbeats 40000000
-- SerW
namespace Go.Proofs.YtegjgjgoodekiaaGreatDoor
open Go.RowKit
theorem Sd(n:Int)(w:World):Calls Tryz.prog 198 #[ja jb n] w fun e w'=>e=jh (je (Tt.isD n))/\w'=w:=by
 have A:=Lh (show Tt.isD n=(decide (0<=n) && decide (n<=36524))from rfl);go_enter Tryz.func198,Tryz.ntmps198;go_wp2_with fail
 all_goals
  go_ret;exact⟨Ag (by rw[A.o];simp;omega),rfl⟩
theorem Hc(n:Int)(w:World):Calls Tryz.prog 130 #[ja jb n] w fun e w'=>e=jh (je (Tt.isD n))/\w'=w:=by
 have A:=Lh (show Tt.isD n=(decide (0<=n) && decide (n<=36524))from rfl);go_enter Tryz.func130,Tryz.ntmps130;go_wp2_with fail
 all_goals
  go_ret;exact⟨Ag (by rw[A.o];simp;omega),rfl⟩
theorem Oe(n:Int)(w:World):Calls Tryz.prog 56 #[ja jb n] w fun e w'=>e=jh (je (Tt.isD n))/\w'=w:=by
 have A:=Lh (show Tt.isD n=(decide (0<=n) && decide (n<=36524))from rfl);go_enter Tryz.func56,Tryz.ntmps56;go_wp2_with fail
 all_goals
  go_ret;exact⟨Ag (by rw[A.o];simp;omega),rfl⟩
theorem Sc(n:Int)(w:World):Calls Tryz.prog 91 #[ja jb n] w fun e w'=>e=jh (je (Tt.isD n))/\w'=w:=by
 have A:=Lh (show Tt.isD n=(decide (0<=n) && decide (n<=36524))from rfl);go_enter Tryz.func91,Tryz.ntmps91;go_wp2_with fail
 all_goals
  go_ret;exact⟨Ag (by rw[A.o];simp;omega),rfl⟩
theorem NI(n:Int)(w:World)(h:Tt.isD n=true):Calls Tryz.prog 187 #[ja jb n] w fun e w'=>e=jh (ja jb (Tt.wk n))/\w'=w:=by
 have hb:=(Tt.isD_iff n).1 h;have H:=Lh h;clear h;go_enter Tryz.func187,Tryz.ntmps187;go_wp2_with (go_at_call 198;refine(Sd _ _).mono ?_;rintro e w' ⟨rfl,rfl⟩;rw[H.o]);go_ret;exact⟨rfl,rfl⟩
theorem Lc(n:Int)(w:World)(h:Tt.isD n=true):Calls Tryz.prog 55 #[ja jb n] w fun e w'=>e=jh (ja jb (Tt.wk n))/\w'=w:=by
 have hb:=(Tt.isD_iff n).1 h;have H:=Lh h;clear h;go_enter Tryz.func55,Tryz.ntmps55;go_wp2_with (go_at_call 56;refine(Oe _ _).mono ?_;rintro e w' ⟨rfl,rfl⟩;rw[H.o]);go_ret;exact⟨rfl,rfl⟩
theorem NG(n:Int)(w:World)(h:Tt.isD n=false):Calls Tryz.prog 55 #[ja jb n] w fun e w'=>e=jh (ja jb (-1))/\w'=w:=by
 have H:=Lh h;clear h;go_enter Tryz.func55,Tryz.ntmps55;go_wp2_with (go_at_call 56;refine(Oe _ _).mono ?_;rintro e w' ⟨rfl,rfl⟩;rw[H.o]);go_ret;exact⟨rfl,rfl⟩
theorem Qs(n:Int)(w:World)(h:Tt.isD n=true):Calls Tryz.prog 146 #[ja jb n] w fun e w'=>e=jh (ja jb (n - Tt.wk n))/\w'=w:=by
 have hb:=(Tt.isD_iff n).1 h;have A:=Tt.wk_bd n;have H:=Lh h;clear h;go_enter Tryz.func146,Tryz.ntmps146;go_wp2_with (go_at_call 55;refine(Lc _ _ H.o).mono ?_;rintro e w' ⟨rfl,rfl⟩);go_ret;exact⟨rfl,rfl⟩
theorem and_one(x:Int)(A:0<=x)(w:x<4611686018427387904):bits .and .i64 x 1=x % 2:=by
 have:=bits_mask .i64 62 (by decide) (fun n A w=>by rw[IntKind.wrap_i64];omega) 1 (by decide) x A (by simpa using w);simpa using this
theorem UX(m k:Int)(w:0<=m)(A:m<4611686018427387904):0<=m / 2 ^ k.toNat/\m / 2 ^ k.toNat<4611686018427387904:=by
 have hp:(0:Int)<2 ^ k.toNat:=Int.pow_pos (by decide);refine⟨Int.ediv_nonneg w (by omega),?_⟩;have:=Int.ediv_le_self (2 ^ k.toNat) w;omega
theorem Po(m k:Int)(A:0<=m)(w:m<4611686018427387904):bits .and .i64 (m / 2 ^ k.toNat) 1=m / 2 ^ k.toNat % 2:=by
 obtain⟨a,b⟩:=UX m k A w;exact and_one _ a b
theorem Pn(m k:Int)(A:0<=m)(w:m<4611686018427387904):(bits .and .i64 (m / 2 ^ k.toNat) 1==0)=!Tt.bit m k:=by
 rw[Po m k A w];unfold Tt.bit;rcases(show m / 2 ^ k.toNat % 2=0∨m / 2 ^ k.toNat % 2=1 by omega)with e | e
 ·rw[e];rfl
 ·rw[e];rfl
theorem LK(m k:Int)(A:0<=m)(w:m<4611686018427387904):(bits .and .i64 (m / 2 ^ k.toNat) 1==1)=Tt.bit m k:=by
 rw[Po m k A w];unfold Tt.bit;rcases(show m / 2 ^ k.toNat % 2=0∨m / 2 ^ k.toNat % 2=1 by omega)with e | e
 ·rw[e];rfl
 ·rw[e];rfl
theorem AS{w A w2:World}(h:Below w.heap.size w A)(k:Below A.heap.size A w2):Below w.heap.size w w2:=h.trans (k.mono h.size)
theorem Be{w A:World}{B q:Nat}(h:Below B w A):Below B w (A.drewN q):=h.trans ⟨rfl,rfl,rfl,xa _,fun _ _=>rfl⟩
theorem Ac{w A:World}{B:Nat}(h:Below B w A):Below B w A.drew:=h.trans ⟨rfl,rfl,rfl,xa _,fun _ _=>rfl⟩
theorem DG(w:World)(n:Nat): ∃w2:World,w2=w.drewN n/\(∀B:Nat,Below B w w2)/\(∀p:Addr,w2.cell? p=w.cell? p)/\ ∀b:Nat,w2.heap[b]?=w.heap[b]?:=
 ⟨_,rfl,fun _=>⟨rfl,rfl,rfl,xa _,fun _ _=>rfl⟩,fun _=>World.cell?_of_block (w:=w) rfl,fun _=>rfl⟩
theorem Aa(w:World)(o:Obj):Below w.heap.size w (w.alloc o):=(Below.refl _ w).alloc (xa _) _
theorem QU(f l e m d:Int)(x y:Value)(w:World)(hf:Tt.isD f=true)(hd:Tt.isD d=true)(A:f<=d)(G:1<=e)(F:e<=4)(ao D:Option Addr)(n n' c c':Nat)(hx:x=jd ao n c)(hy:y=jd D n' c'):
  Calls Tryz.prog 188 #[.agg #[ja jb f,ja jb l,ja jb e,ja jb m,x,y],ja jb d] w fun e' w'=>e'=jh (je (Tt.cnt f e d))/\Below w.heap.size w w':=by
 have hb:=(Tt.isD_iff d).1 hd;have M:=(Tt.isD_iff f).1 hf;have R:=Tt.wk_bd d;have J:=Tt.wk_bd f;have hm:=Tt.monday_le f d A;have H:=Lh hd;have O:=Lh hf;have E:=Lh (show Tt.cnt f e d=decide (((d - Tt.wk d) - (f - Tt.wk f)) / 7 % e=0)from rfl);clear hd hf;subst hx hy;go_enter Tryz.func188,Tryz.ntmps188;go_wp2_with (go_at_call 187;refine(NI _ _ H.o).mono ?_;rintro e w' ⟨rfl,rfl⟩);go_quiet ((go_at_call 187;exact Calls.quiet_of_same (NI _ _ O.o)))
 go_wp2_with fail;go_ret;exact⟨Ag (by rw[E.o];rfl),Be (Aa _ _)⟩
theorem NV(s:Tt.Ser)(d:Int)(w:World)(hf:Tt.isD s.first=true)(hd:Tt.isD d=true)(J:s.first<=d)(U:d<=s.last)(D:1<=s.every)(A:s.every<=4)(G:0<=s.wd)(O:s.wd<=127)(ao E:Option Addr)(n n' c c':Nat):
  Calls Tryz.prog 162 #[.agg #[ja jb s.first,ja jb s.last,ja jb s.every,ja jb s.wd,jd ao n c,jd E n' c'],ja jb d] w fun e' w'=>e'=jh (je (Tt.regB s d))/\Below w.heap.size w w':=by
 have hb:=(Tt.isD_iff d).1 hd;have X:=Tt.wk_bd d;have H:=Lh hd;have T:=Lh hf;obtain⟨f,l,e,m,ex,xt⟩:=s;simp only at*;clear hd hf;have d1:decide (d<f)=false:=decide_eq_false (by omega);have d2:decide (l<d)=false:=decide_eq_false (by omega);have R:=Lh (Pn m (Tt.wk d) G (by omega));have M:=Lh (show Tt.regB ⟨f,l,e,m,ex,xt⟩ d=(Tt.bit m (Tt.wk d) && Tt.cnt f e d)by
  unfold Tt.regB;simp only;rw[decide_eq_true J,decide_eq_true U];rfl)
 go_enter Tryz.func162,Tryz.ntmps162;go_wp2_with fail;go_quiet ((go_at_call 187;exact Calls.quiet_of_same (NI _ _ H.o)))
 rw[R.o];cases hb1:Tt.bit m (Tt.wk d)
 ·go_wp2_with fail;go_ret;exact⟨Ag (by rw[M.o,hb1];rfl),Be (Aa _ _)⟩
 ·go_wp2_with fail;refine(QU _ _ _ _ _ _ _ _ T.o H.o J D A _ _ _ _ _ _ rfl rfl).mono ?_;rintro e V ⟨rfl,F⟩;go_wp2_with fail;go_ret;exact⟨Ag (by rw[M.o,hb1];rfl),AS (Be (Aa _ _)) F⟩
theorem IV(s:Tt.Ser)(d:Int)(w:World)(hf:Tt.isD s.first=true)(hd:Tt.isD d=true)(F:s.first<=d)(V:d<=s.last)(R:1<=s.every)(J:s.every<=4)(E:0<=s.wd)(M:s.wd<=127)(ao D:Option Addr)(n n' c c':Nat):
  Calls Tryz.prog 120 #[.agg #[ja jb s.first,ja jb s.last,ja jb s.every,ja jb s.wd,jd ao n c,jd D n' c'],ja jb d] w fun e' w'=>e'=jh (je (Tt.regB s d))/\Below w.heap.size w w':=by
 have hb:=(Tt.isD_iff d).1 hd;have T:=(Tt.isD_iff s.first).1 hf;have X:=Tt.wk_bd d;have O:=Tt.wk_bd s.first;have hm:=Tt.monday_le s.first d F;have H:=Lh hd;have U:=Lh hf;obtain⟨f,l,e,m,ex,xt⟩:=s;simp only at*;clear hd hf;have A:=Lh (LK m (Tt.wk d) E (by omega));have G:=Lh (show Tt.regB ⟨f,l,e,m,ex,xt⟩ d=(Tt.bit m (Tt.wk d) && Tt.cnt f e d)by
  unfold Tt.regB;simp only;rw[decide_eq_true F,decide_eq_true V];rfl)
 cases hb1:Tt.bit m (Tt.wk d)
 ·have hbb:(bits .and .i64 (m / 2 ^ (Tt.wk d).toNat) 1==1)=false:=by rw[A.o,hb1]
  clear hb1;go_enter Tryz.func120,Tryz.ntmps120;go_wp2_with fail;go_quiet ((first | (go_at_call 55;exact Calls.quiet_of_same (Lc _ _ H.o))))
  go_wp2_with fail;go_ret;exact⟨Ag (by rw[G.o,<-A.o,hbb];rfl),Be (Aa _ _)⟩
 ·have hbb:(bits .and .i64 (m / 2 ^ (Tt.wk d).toNat) 1==1)=true:=by rw[A.o,hb1]
  clear hb1;go_enter Tryz.func120,Tryz.ntmps120;go_wp2_with fail;go_quiet ((first | (go_at_call 55;exact Calls.quiet_of_same (Lc _ _ H.o)) | (go_at_call 146;exact Calls.quiet_of_same (Qs _ _ (by first | exact H.o | exact U.o)))))
  go_wp2_with fail;go_ret;exact⟨Ag (by rw[G.o,<-A.o,hbb];rfl),Be (Aa _ _)⟩
theorem IU(s:Tt.Ser)(d:Int)(w:World)(A:d<s.first∨s.last<d)(ao D:Option Addr)(n n' c c':Nat):
  Calls Tryz.prog 162 #[.agg #[ja jb s.first,ja jb s.last,ja jb s.every,ja jb s.wd,jd ao n c,jd D n' c'],ja jb d] w fun e' w'=>e'=jh (je (Tt.regB s d))/\Below w.heap.size w w':=by
 obtain⟨f,l,e,m,ex,xt⟩:=s;simp only at*;have E:=Lh (show Tt.regB ⟨f,l,e,m,ex,xt⟩ d=false by
  unfold Tt.regB;simp only;rcases A with h | h
  ·rw[decide_eq_false (by omega)];rfl
  ·rw[decide_eq_false (show ¬d<=l by omega)];simp)
 by_cases F:d<f
 ·have d1:decide (d<f)=true:=decide_eq_true F;have d3:decide (f<=d)=false:=decide_eq_false (by omega);clear A;go_enter Tryz.func162,Tryz.ntmps162;go_wp2_with fail;go_quiet (fail);go_wp2_with fail;go_ret;exact⟨Ag (by rw[E.o]),Be (Aa _ _)⟩
 ·have d1:decide (d<f)=false:=decide_eq_false F;have d3:decide (f<=d)=true:=decide_eq_true (by omega);have d2:decide (l<d)=true:=decide_eq_true (by omega);have d4:decide (d<=l)=false:=decide_eq_false (by omega);clear A;go_enter Tryz.func162,Tryz.ntmps162;go_wp2_with fail;go_quiet (fail);go_wp2_with fail;go_ret;exact⟨Ag (by rw[E.o]),Be (Aa _ _)⟩
theorem EO(s:Tt.Ser)(d:Int)(w:World)(hf:Tt.isD s.first=true)(hl:Tt.isD s.last=true)(E:1<=s.every)(A:s.every<=4)(G:0<=s.wd)(D:s.wd<=127)(ao F:Option Addr)(n n' c c':Nat):
  Calls Tryz.prog 162 #[.agg #[ja jb s.first,ja jb s.last,ja jb s.every,ja jb s.wd,jd ao n c,jd F n' c'],ja jb d] w fun e' w'=>e'=jh (je (Tt.regB s d))/\Below w.heap.size w w':=by
 by_cases h:d<s.first∨s.last<d
 ·exact IU s d w h _ _ _ _ _ _
 ·refine NV s d w hf ?_ (by omega) (by omega) E A G D _ _ _ _ _ _;rw[Tt.isD_iff]at*;omega
end Go.Proofs.YtegjgjgoodekiaaGreatDoor
-- SerV
namespace Go.Proofs.YtegjgjgoodekiaaGreatDoor
open Go.RowKit
def Ints(B:Nat)(w:World)(ao:Option Addr)(xs:List Int):Prop:=∀(j:Nat) (x:Int),xs[j]?=some x-> ∃a,ao=some a/\a.block<B/\w.cell? (a.add j)=some (ja jb x)
theorem Ints.below{B:Nat}{w w':World}{ao:Option Addr}{xs:List Int}(h:Ints B w ao xs)(D:Below B w w'):Ints B w' ao xs:=fun j x hx=>by
 obtain⟨a,ha,A,hc⟩:=h j x hx;exact⟨a,ha,A,(D.cell (p:=a.add j) (by rw[AP];exact A)).trans hc⟩
theorem Ints.mono{B A:Nat}{w:World}{ao:Option Addr}{xs:List Int}(h:Ints B w ao xs)(E:B<=A):Ints A w ao xs:=fun j x hx=>by
 obtain⟨a,ha,D,hc⟩:=h j x hx;exact⟨a,ha,by omega,hc⟩
def Bf(s:Tt.Ser)(v v':Value):Value:=.agg #[ja jb s.first,ja jb s.last,ja jb s.every,ja jb s.wd,v,v']
def Bu(b:Nat)(s:Tt.Ser)(v v':Value)(w:World):Prop:=w.heap[b]?=some (ji #[ja jb s.first,ja jb s.last,ja jb s.every,ja jb s.wd,v,v'] 59 (0,0))
theorem Bu.lt{b:Nat}{s:Tt.Ser}{v v':Value}{w:World}(h:Bu b s v v' w):b<w.heap.size:=(Array.getElem?_eq_some_iff.1 h).1
theorem Bu.cells{b:Nat}{s:Tt.Ser}{v v':Value}{w:World}(h:Bu b s v v' w):
  w.cell? ⟨b,0,none⟩=some (ja jb s.first)/\w.cell? ⟨b,1,none⟩=some (ja jb s.last)/\w.cell? ⟨b,2,none⟩=some (ja jb s.every)/\w.cell? ⟨b,3,none⟩=some (ja jb s.wd)/\w.cell? ⟨b,4,none⟩=some v/\w.cell? ⟨b,5,none⟩=some v':=by
 refine⟨?_,?_,?_,?_,?_,?_⟩<;>(rw[Lib.cell_of_heap h];rfl)
theorem Bu.block{b:Nat}{s:Tt.Ser}{v v':Value}{w w':World}(h:Bu b s v v' w)(A:w'.heap[b]?=w.heap[b]?):Bu b s v v' w':=A.trans h
theorem J2(s:Tt.Ser)(w:World)(hh:Tt.headV s≠0)(hn:s.ex.length<=4611686018427387903)(H:s.xt.length<=4611686018427387903)(ao F:Option Addr)(c c':Nat):
  Calls Tryz.prog 133 #[Bf s (jd ao s.ex.length c) (jd F s.xt.length c')] w fun e w'=>e=jh (ja jb (Tt.headV s))/\Below w.heap.size w w':=by
 have M:=Lh hh;unfold Bf;obtain⟨f,l,e,m,ex,xt⟩:=s;simp only at*;clear hh;cases hf:Tt.isD f
 ·have A:=Lh (show Tt.headV ⟨f,l,e,m,ex,xt⟩=13 by unfold Tt.headV;simp only[hf];rfl);have D:=Lh hf;clear hf;go_enter Tryz.func133,Tryz.ntmps133;go_wp2_with (go_at_call 130;refine(Hc _ _).mono ?_;rintro e w' ⟨rfl,rfl⟩;try rw[D.o]);go_ret;exact⟨Aj A.o.symm,Aa _ _⟩
 ·cases hl:Tt.isD l
  ·have A:=Lh (show Tt.headV ⟨f,l,e,m,ex,xt⟩=13 by unfold Tt.headV;simp only[hf,hl];rfl);have D:=Lh hf;have E:=Lh hl;clear hf hl;go_enter Tryz.func133,Tryz.ntmps133;go_wp2_with (go_at_call 130;refine(Hc _ _).mono ?_;rintro e w' ⟨rfl,rfl⟩;first | rw[D.o] | rw[E.o])
   all_goals
    go_ret;exact⟨Aj A.o.symm,Aa _ _⟩
  ·have J:=(Tt.isD_iff f).1 hf;have G:=(Tt.isD_iff l).1 hl;have A:=Lh (show Tt.headV ⟨f,l,e,m,ex,xt⟩=(if l<f∨f+140<l then 3 else if e<1∨4<e∨m<0∨127<m then 3 else if 140<(ex.length:Int)+xt.length then 2 else 0)by unfold Tt.headV;simp only[hf,hl];rfl);have D:=Lh hf;have E:=Lh hl;clear hf hl;go_enter Tryz.func133,Tryz.ntmps133;go_wp2_with (go_at_call 130;refine(Hc _ _).mono ?_;rintro e w' ⟨rfl,rfl⟩;first | rw[D.o] | rw[E.o])
   all_goals first
    | (go_ret;exact⟨Aj (by rw[A.o];(repeat' split)<;>omega),Aa _ _⟩)
    | (refine absurd ?_ M.o;rw[A.o];(repeat' split)<;>omega)
theorem J3(s:Tt.Ser)(B:Nat)(w:World)(hh:Tt.Head s)(ao O:Option Addr)(c c':Nat)(hB:B<=w.heap.size)(hI:Ints B w ao s.ex)(ag:Ints B w O s.xt):
  Calls Tryz.prog 133 #[Bf s (jd ao s.ex.length c) (jd O s.xt.length c')] w fun e w'=>e=jh (ja jb (Tt.serV s))/\Below w.heap.size w w':=by
 have hf:Tt.isD s.first=true:=(Tt.isD_iff _).2 ⟨hh.f0,hh.f1⟩;have hl:Tt.isD s.last=true:=(Tt.isD_iff _).2 ⟨hh.l0,hh.l1⟩;have HF:=Lh hf;have HL:=Lh hl;have HH:=Lh hh;have HI:=Lh hI;have ah:=Lh ag;have R:=fun d W=>EO s d W hf hl hh.e0 hh.e1 hh.w0 hh.w1
 have HR:=Lh R;obtain⟨a1,a2,a3,a4,a5,a6,a7,a8,a9,ap,aq⟩:=hh;have ac:IntKind.i64.wrap ((s.ex.length:Int)+s.xt.length)=(s.ex.length:Int)+s.xt.length:=by rw[IntKind.wrap_i64];omega
 have HS:=Lh ac;have S0:Bu w.heap.size s (jd ao s.ex.length c) (jd O s.xt.length c') (w.alloc (ji #[ja jb s.first,ja jb s.last,ja jb s.every,ja jb s.wd,jd ao s.ex.length c,jd O s.xt.length c'] 59)):=heap_alloc_new w _;have aj:=Lh S0;unfold Bf;clear hf hl hI ag R ac S0;go_enter Tryz.func133,Tryz.ntmps133;go_wp2_with (go_at_call 130;refine(Hc _ _).mono ?_;rintro e w' ⟨rfl,rfl⟩;first | rw[HF.o] | rw[HL.o]);go_loopw [63] (fun iv wr=> ∃k:Nat,iv=ja jb k/\k<=s.ex.length/\Below w.heap.size w wr/\Hid (Bu w.heap.size s (jd ao s.ex.length c) (jd O s.xt.length c') wr)/\Hid (Tt.listV 12 (Tt.regB s) none s.ex=Tt.listF 12 (Tt.regB s) s.ex k)) (fun iv _=>s.ex.length - (intOf iv).toNat)
 case atStart=>exact⟨0,rfl,xd _,Aa _ _,aj.o,rfl⟩
 case round=>
  obtain⟨k,rfl,hk,A,X,J⟩:=hrel;obtain⟨e0,e1,e2,e3,e4,e5⟩:=X.o.cells;have T:=X.o.lt;by_cases aa:k<s.ex.length
  ·obtain⟨d,hd⟩: ∃d,s.ex[k]?=some d:=⟨_,xb aa⟩
   obtain⟨a,ha,ai,Z⟩:=HI.o k d hd;subst ha;have hc:=(A.cell (p:=a.add k) (by rw[AP];omega)).trans Z;clear Z;have HD:=Lh hd;have ab:(k:Int)<(s.ex.length:Int):=by omega
   cases k with
   | zero=>
    rw[Addr.add_zero']at hc;have F:=Lh (show ∀j q,0=j+1->s.ex[j]?=some q->q<d from fun j q h=>by omega);clear hd;go_wp2_with fail;refine(HR.o d _ _ _ _ _ _ _).mono ?_;rintro e w1 ⟨rfl,hb1⟩;have D:=AS A hb1;have M:=Lh (X.o.block (hb1.block _ T));cases hr:Tt.regB s d
    ·have E:=Lh (Tt.serV_ex s HH.o 0 12 J.o (Tt.listF_bad 12 _ _ 0 d HD.o F.o hr) (by decide));clear hr;go_wp2_with fail;go_ret;exact⟨Aj E.o.symm,D⟩
    ·have E:=Lh (J.o.trans (Tt.listF_step 12 _ _ 0 d HD.o F.o hr));clear hr;go_wp2_with fail;go_roundw
     case rel=>exact⟨0+1,by go_num,by omega,D,M.o,E.o⟩
     case measure=>simp[intOf];omega
   | succ j=>
    obtain⟨q,hq⟩: ∃q,s.ex[j]?=some q:=⟨_,xb (by omega)⟩
    obtain⟨a',ae,_,H⟩:=HI.o j q hq;cases ae;have hc':=(A.cell (p:=a.add j) (by rw[AP];omega)).trans H;rw[Addr.add_succ']at hc;clear H;by_cases af:d<=q
    ·have E:=Lh (Tt.serV_ex s HH.o (j+1) 63 J.o (Tt.listF_order 12 _ _ j d q hd hq af) (by decide));clear hd hq;go_wp2_with fail;go_ret;exact⟨Aj E.o.symm,A⟩
    ·have F:=Lh (show ∀j' q',j+1=j'+1->s.ex[j']?=some q'->q'<d from fun j' q' h Y=>by
      obtain rfl:j=j':=by omega
      rw[hq]at Y;cases Y;omega)
     clear hd hq;go_wp2_with fail;refine(HR.o d _ _ _ _ _ _ _).mono ?_;rintro e w1 ⟨rfl,hb1⟩;have D:=AS A hb1;have M:=Lh (X.o.block (hb1.block _ T));cases hr:Tt.regB s d
     ·have E:=Lh (Tt.serV_ex s HH.o (j+1) 12 J.o (Tt.listF_bad 12 _ _ (j+1) d HD.o F.o hr) (by decide));clear hr;go_wp2_with fail;go_ret;exact⟨Aj E.o.symm,D⟩
     ·have E:=Lh (J.o.trans (Tt.listF_step 12 _ _ (j+1) d HD.o F.o hr));clear hr;go_wp2_with fail;go_roundw
      case rel=>exact⟨(j+1)+1,by go_num,by omega,D,M.o,E.o⟩
      case measure=>simp[intOf];omega
  ·have ak:k=s.ex.length:=by omega
   have ab: ¬(k:Int)<(s.ex.length:Int):=by omega
   have U:=Lh (J.o.trans (Tt.listF_end 12 _ _ k (by omega)));clear ak J;go_wp2_with fail;clear ab aa hk;go_loopw [88] (fun iv wr=> ∃k:Nat,iv=ja jb k/\k<=s.xt.length/\Below w.heap.size w wr/\Hid (Bu w.heap.size s (jd ao s.ex.length c) (jd O s.xt.length c') wr)/\Hid (Tt.listV 11 (Tt.extB s) none s.xt=Tt.listF 11 (Tt.extB s) s.xt k)) (fun iv _=>s.xt.length - (intOf iv).toNat)
   case atStart=>exact⟨0,rfl,xd _,A,X.o,rfl⟩
   case round=>
    clear e0 e1 e2 e3 e4 e5 T A X;obtain⟨k,rfl,hk,A,X,J⟩:=hrel;obtain⟨e0,e1,e2,e3,e4,e5⟩:=X.o.cells;have T:=X.o.lt;by_cases aa:k<s.xt.length
    ·obtain⟨d,hd⟩: ∃d,s.xt[k]?=some d:=⟨_,xb aa⟩
     obtain⟨a,ha,ai,Z⟩:=ah.o k d hd;subst ha;have hc:=(A.cell (p:=a.add k) (by rw[AP];omega)).trans Z;clear Z;have HD:=Lh hd;have ab:(k:Int)<(s.xt.length:Int):=by omega
     cases k with
     | zero=>
      rw[Addr.add_zero']at hc;have F:=Lh (show ∀j q,0=j+1->s.xt[j]?=some q->q<d from fun j q h=>by omega);clear hd;by_cases G:d<s.first∨s.last<d
      ·have E:=Lh ((Tt.serV_xt s HH.o 0 U.o J.o).trans (Tt.listF_bad 11 _ _ 0 d HD.o F.o (Tt.extB_out s d G)));rcases G with h | h
       ·go_wp2_with fail;go_ret;exact⟨Aj E.o.symm,A⟩
       ·have h': ¬d<s.first:=by omega
        go_wp2_with fail;go_ret;exact⟨Aj E.o.symm,A⟩
      ·have am: ¬d<s.first:=by omega
       have al: ¬s.last<d:=by omega
       have V:=Lh (show Tt.extB s d=!Tt.regB s d from Tt.extB_in s d G);clear G;go_wp2_with fail;refine(HR.o d _ _ _ _ _ _ _).mono ?_;rintro e w1 ⟨rfl,hb1⟩;have D:=AS A hb1;have M:=Lh (X.o.block (hb1.block _ T));cases hr:Tt.regB s d
       ·have E:=Lh (J.o.trans (Tt.listF_step 11 _ _ 0 d HD.o F.o (by rw[V.o,hr];rfl)));clear hr;go_wp2_with fail;go_roundw
        case rel=>exact⟨0+1,by go_num,by omega,D,M.o,E.o⟩
        case measure=>simp[intOf];omega
       ·have E:=Lh ((Tt.serV_xt s HH.o 0 U.o J.o).trans (Tt.listF_bad 11 _ _ 0 d HD.o F.o (by rw[V.o,hr];rfl)));clear hr;go_wp2_with fail;go_ret;exact⟨Aj E.o.symm,D⟩
     | succ j=>
      obtain⟨q,hq⟩: ∃q,s.xt[j]?=some q:=⟨_,xb (by omega)⟩
      obtain⟨a',ae,_,H⟩:=ah.o j q hq;cases ae;have hc':=(A.cell (p:=a.add j) (by rw[AP];omega)).trans H;rw[Addr.add_succ']at hc;clear H;by_cases af:d<=q
      ·have E:=Lh ((Tt.serV_xt s HH.o (j+1) U.o J.o).trans (Tt.listF_order 11 _ _ j d q hd hq af));clear hd hq;go_wp2_with fail;go_ret;exact⟨Aj E.o.symm,A⟩
      ·have F:=Lh (show ∀j' q',j+1=j'+1->s.xt[j']?=some q'->q'<d from fun j' q' h Y=>by
        obtain rfl:j=j':=by omega
        rw[hq]at Y;cases Y;omega)
       clear hd hq;by_cases G:d<s.first∨s.last<d
       ·have E:=Lh ((Tt.serV_xt s HH.o (j+1) U.o J.o).trans (Tt.listF_bad 11 _ _ (j+1) d HD.o F.o (Tt.extB_out s d G)));rcases G with h | h
        ·go_wp2_with fail;go_ret;exact⟨Aj E.o.symm,A⟩
        ·have h': ¬d<s.first:=by omega
         go_wp2_with fail;go_ret;exact⟨Aj E.o.symm,A⟩
       ·have am: ¬d<s.first:=by omega
        have al: ¬s.last<d:=by omega
        have V:=Lh (show Tt.extB s d=!Tt.regB s d from Tt.extB_in s d G);clear G;go_wp2_with fail;refine(HR.o d _ _ _ _ _ _ _).mono ?_;rintro e w1 ⟨rfl,hb1⟩;have D:=AS A hb1;have M:=Lh (X.o.block (hb1.block _ T));cases hr:Tt.regB s d
        ·have E:=Lh (J.o.trans (Tt.listF_step 11 _ _ (j+1) d HD.o F.o (by rw[V.o,hr];rfl)));clear hr;go_wp2_with fail;go_roundw
         case rel=>exact⟨(j+1)+1,by go_num,by omega,D,M.o,E.o⟩
         case measure=>simp[intOf];omega
        ·have E:=Lh ((Tt.serV_xt s HH.o (j+1) U.o J.o).trans (Tt.listF_bad 11 _ _ (j+1) d HD.o F.o (by rw[V.o,hr];rfl)));clear hr;go_wp2_with fail;go_ret;exact⟨Aj E.o.symm,D⟩
    ·have ab: ¬(k:Int)<(s.xt.length:Int):=by omega
     have E:=Lh ((Tt.serV_xt s HH.o k U.o J.o).trans (Tt.listF_end 11 _ _ k (by omega)));go_wp2_with fail;go_ret;exact⟨Aj E.o.symm,A⟩
end Go.Proofs.YtegjgjgoodekiaaGreatDoor
-- SerV2
namespace Go.Proofs.YtegjgjgoodekiaaGreatDoor
open Go.RowKit
def CD(w:World):Prop:=∀i:Nat,i<12->w.cell? ⟨3,i,none⟩=some (ja jb (([31,28,31,30,31,30,31,31,30,31,30,31]:List Int).getD i 0))
theorem CD.below{B:Nat}{w w':World}(h:CD w)(A:3<B)(hb:Below B w w'):CD w':=fun i hi=>(hb.cell (p:=⟨3,i,none⟩) A).trans (h i hi)
theorem O3(y:Int)(w:World)(D:2000<=y)(A:y<=2099):Calls Tryz.prog 186 #[ja jb y] w fun e w'=>e=jh (je (y % 4==0))/\w'=w:=by
 have G:=Int.emod_nonneg y (show(4:Int)≠0 by omega);have E:=Int.emod_lt_of_pos y (show(0:Int)<4 by omega);by_cases hm:y % 4=0
 ·by_cases hc:y % 100=0
  ·have e:y=2000:=by omega
   subst e;go_enter Tryz.func186,Tryz.ntmps186;go_wp2_with fail;go_ret;exact⟨rfl,rfl⟩
  ·have hb:(y % 4==0)=true:=by simp[hm]
   have hd:(y % 100==0)=false:=by simp[hc]
   have F:=Int.emod_nonneg y (show(100:Int)≠0 by omega);rw[hb];go_enter Tryz.func186,Tryz.ntmps186;go_wp2_with fail;go_ret;exact⟨rfl,rfl⟩
 ·have hb:(y % 4==0)=false:=by simp[hm]
  rw[hb];go_enter Tryz.func186,Tryz.ntmps186;go_wp2_with fail;go_ret;exact⟨rfl,rfl⟩
theorem LB(y:Int)(w:World)(F:2000<=y)(E:y<=2099):Calls Tryz.prog 161 #[ja jb y] w fun e w'=>e=jh (ja jb (Tt.ylen y))/\w'=w:=by
 have A:=Lh (show Tt.ylen y=if(y % 4==0)=true then 366 else 365 from by unfold Tt.ylen;simp);go_enter Tryz.func161,Tryz.ntmps161;go_wp2_with fail;refine(O3 y w F E).mono ?_;rintro e G ⟨rfl,D⟩;rw[D];clear D G;cases hb:(y % 4==0)
 ·go_wp2_with fail;go_ret;exact⟨Aj (by rw[A.o,hb];rfl),rfl⟩
 ·go_wp2_with fail;go_ret;exact⟨Aj (by rw[A.o,hb];rfl),rfl⟩
theorem DY(y m:Int)(w:World)(V:2000<=y)(O:y<=2099)(m0:1<=m)(m1:m<=12)(J:CD w):Calls Tryz.prog 160 #[ja jb y,ja jb m] w fun e w'=>e=jh (ja jb (Tt.mlen y m))/\w'=w:=by
  by_cases H:m=2
  · subst H;have A:=Lh (show Tt.mlen y 2=if(y % 4==0)=true then 29 else 28 from by unfold Tt.mlen;simp);have c1:=J 1 (by omega);simp only[List.getD_cons_succ,List.getD_cons_zero]at c1;go_enter Tryz.func160,Tryz.ntmps160;go_wp2_with fail;refine(O3 y w V O).mono ?_;rintro e w1 ⟨rfl,M⟩;rw[M];clear M w1;cases hb:(y % 4==0)
    · go_wp2_with fail;go_ret;exact⟨Aj (by rw[A.o,hb];rfl),rfl⟩
    · go_wp2_with fail;go_ret;exact⟨Aj (by rw[A.o,hb];rfl),rfl⟩
  · have hb:(m==2)=false:=by simp[H]
    obtain⟨k,hk⟩: ∃k:Nat,m=(k:Int)+1:=⟨(m - 1).toNat,by omega⟩
    have D:k<12:=by omega
    have A:=Lh (show Tt.mlen y m=(([31,28,31,30,31,30,31,31,30,31,30,31]:List Int).getD k 0)from by
      obtain⟨Y,l2,R,l4,T,l6,X,l8,Z,E,G,F⟩:=Tt.mlens y;rcases(show m=1∨m=3∨m=4∨m=5∨m=6∨m=7∨m=8∨m=9∨m=10∨m=11∨m=12 by omega)with e | e | e | e | e | e | e | e | e | e | e
      all_goals (have hk:k=(m - 1).toNat:=by omega
                 subst e;subst hk;first | exact Y | exact R | exact l4 | exact T | exact l6 | exact X | exact l8 | exact Z | exact E | exact G | exact F))
    have c1:=J k D;generalize (([31,28,31,30,31,30,31,31,30,31,30,31]:List Int).getD k 0)=z at c1 A;subst hk;have U:(k:Int)+1 - 1=k:=by omega
    go_enter Tryz.func160,Tryz.ntmps160;go_wp2_with fail;go_ret;exact⟨Aj A.o.symm,rfl⟩
theorem Ut{day:Int}(w:day<=36524){y:Int}{k:Nat}(hy:y=2000+(k:Int))(hr:0<=day - Tt.yb k):y<=2099:=by
 have:=Tt.yb_closed k;omega
theorem QT{day y m r:Int}{k j:Nat}(hy:y=2000+(k:Int))(hm:m=1+(j:Int))(w:y<=2099)(hj:j<=11)(hr:r=day - Tt.yb k - Tt.mb y j)(A:0<=r)(r1:r<Tt.mlen y m):Tt.IsDate day y m (r+1):=by
 refine⟨by omega,w,by omega,by omega,by omega,by omega,?_⟩;rw[show(y - 2000).toNat=k by omega,show(m - 1).toNat=j by omega];omega
theorem N7{y r:Int}{j:Nat}(hj:j<=11)(hr:r<Tt.ylen y)(h:Tt.mlen y (1+(j:Int))<=r - Tt.mb y j):j+1<=11/\Tt.mb y (j+1)=Tt.mb y j+Tt.mlen y (1+(j:Int)):=by
 have e:Tt.mb y (j+1)=Tt.mb y j+Tt.mlen y (1+(j:Int)):=by rw[Tt.mb,Int.add_comm 1 (j:Int)]
 refine⟨?_,e⟩;have w:=(Tt.mb_all y).2.2.2.2.2.2.2.2.2.2.2.2;rcases Nat.lt_or_ge j 11 with A | A
 ·omega
 ·obtain rfl:j=11:=by omega
  rw[w]at e;omega
theorem Mz(day:Int)(w:World)(V:CD w)(h0:0<=day)(X:day<=36524):
  Calls Tryz.prog 170 #[ja jb day] w fun e w'=>e=jh (jg #[ja jb (Tt.yOf day),ja jb (Tt.mOf day),ja jb (Tt.dOf day),ja jb 0])/\w'=w:=by
 have HD:=Lh (show Tt.isD day=true from(Tt.isD_iff day).2 ⟨h0,X⟩);have Y:=Lh V;clear V;go_enter Tryz.func170,Tryz.ntmps170;go_wp2_with fail;refine(Sd day w).mono ?_;rintro e D ⟨rfl,A⟩;rw[A,HD.o];clear A D;go_wp2_with fail;go_loop [0,2] (fun rv yv=> ∃k:Nat,rv=ja jb (day - Tt.yb k)/\yv=ja jb (2000+(k:Int))/\0<=day - Tt.yb k) (fun rv _=>(intOf rv).toNat)
 case atStart=>exact⟨0,by simp[Tt.yb],rfl,by simp[Tt.yb];omega⟩
 case round=>
  obtain⟨k,rfl,rfl,hk⟩:=hrel;have hy:=Ut X (y:=2000+(k:Int)) (k:=k) rfl hk;have J:=Tt.ylen_bd (2000+(k:Int));have M:=Lh (show Tt.yb (k+1)=Tt.yb k+Tt.ylen (2000+(k:Int))from rfl);have ab:0<=Tt.yb k:=by rw[Tt.yb_closed];omega
  go_wp2_with fail;refine(LB _ w (by omega) hy).mono ?_;rintro e D ⟨rfl,A⟩;rw[A];clear A D;by_cases F:Tt.ylen (2000+(k:Int))<=day - Tt.yb k
  ·have H:IntKind.i64.wrap (day - Tt.yb k - Tt.ylen (2000+(k:Int)))=day - Tt.yb k - Tt.ylen (2000+(k:Int)):=by rw[IntKind.wrap_i64];omega
   go_wp2_with fail;refine(LB _ w (by omega) hy).mono ?_;rintro e D ⟨rfl,A⟩;rw[A];clear A D;go_wp2_with fail;go_round
   case rel=>exact⟨k+1,by rw[M.o];go_num,by go_num,by rw[M.o];omega⟩
   case measure=>simp[intOf];omega
  ·have G:day - Tt.yb k<Tt.ylen (2000+(k:Int)):=by omega
   go_wp2_with fail;obtain⟨y,E⟩: ∃y,y=2000+(k:Int):=⟨_,rfl⟩
   have U:=Lh E;rw[<-E]at hy J G ⊢;clear E M F;go_loop [0,3] (fun rv Z=> ∃j:Nat,rv=ja jb (day - Tt.yb k - Tt.mb y j)/\Z=ja jb (1+(j:Int))/\j<=11/\0<=day - Tt.yb k - Tt.mb y j) (fun rv _=>(intOf rv).toNat)
   case atStart=>exact⟨0,by simp[Tt.mb],rfl,by omega,by simp[Tt.mb];omega⟩
   case round=>
    obtain⟨j,rfl,rfl,hj,hr⟩:=hrel;have aa:=Tt.mlen_bd y (1+(j:Int));go_wp2_with fail;refine(DY y (1+(j:Int)) w (by have:=U.o;omega) hy (by omega) (by omega) Y.o).mono ?_;rintro e D ⟨rfl,A⟩;rw[A];clear A D;by_cases F:Tt.mlen y (1+(j:Int))<=day - Tt.yb k - Tt.mb y j
    ·have R:=Lh (N7 hj G F);have O:=Tt.mb_bd y j;have H:IntKind.i64.wrap (day - Tt.yb k - Tt.mb y j - Tt.mlen y (1+(j:Int)))=day - Tt.yb k - Tt.mb y j - Tt.mlen y (1+(j:Int)):=by rw[IntKind.wrap_i64];omega
     go_wp2_with fail;refine(DY y (1+(j:Int)) w (by have:=U.o;omega) hy (by omega) (by omega) Y.o).mono ?_;rintro e D ⟨rfl,A⟩;rw[A];clear A D;go_wp2_with fail;go_round
     case rel=>exact⟨j+1,by rw[R.o.2];go_num,by go_num,R.o.1,by rw[R.o.2];omega⟩
     case measure=>simp[intOf];omega
    ·have T:=Lh (QT U.o rfl hy hj rfl hr (by omega)).of;have O:=Tt.mb_bd y j;have H:IntKind.i64.wrap (day - Tt.yb k - Tt.mb y j+1)=day - Tt.yb k - Tt.mb y j+1:=by rw[IntKind.wrap_i64];omega
     go_wp2_with fail;refine bodyPost_ret (v:=jg #[ja jb y,ja jb (1+(j:Int)),ja jb (day - Tt.yb k - Tt.mb y j+1),ja jb 0]) (by simp[results,Tryz.results170,go_sem]) rfl ?_;exact⟨by rw[<-T.o.1,<-T.o.2.1,<-T.o.2.2],rfl⟩
-- Day
theorem BS{a A b w:Int}(h:a=A)(D:b=w):Ending.returned (jg #[ja jb a,ja jb b])=jh (jg #[ja jb A,ja jb w]):=by rw[h,D]
theorem Ox(y m d:Int)(w:World)(T:CD w)(d0: -1000000<=d)(d1:d<=1000000):
  Calls Tryz.prog 128 #[ja jb y,ja jb m,ja jb d] w fun e w'=>e=jh (jg #[ja jb (Tt.dayV y m d).1,ja jb (Tt.dayV y m d).2])/\w'=w:=by
 have V:=Lh T;clear T;by_cases D:y<2000∨2099<y∨m<1∨12<m∨d<1
 ·have A:=Lh (show Tt.dayV y m d=(0,13)from by unfold Tt.dayV;rw[if_pos (by omega)]);go_enter Tryz.func128,Tryz.ntmps128;rcases D with h | h | h | h | h
  ·go_wp2_with fail;go_ret2;exact⟨BS (by rw[A.o]) (by rw[A.o]),rfl⟩
  ·go_wp2_with fail;go_ret2;exact⟨BS (by rw[A.o]) (by rw[A.o]),rfl⟩
  ·by_cases U:y<2000
   ·go_wp2_with fail;go_ret2;exact⟨BS (by rw[A.o]) (by rw[A.o]),rfl⟩
   ·by_cases X:2099<y
    all_goals
     go_wp2_with fail;go_ret2;exact⟨BS (by rw[A.o]) (by rw[A.o]),rfl⟩
  ·by_cases U:y<2000
   ·go_wp2_with fail;go_ret2;exact⟨BS (by rw[A.o]) (by rw[A.o]),rfl⟩
   ·by_cases X:2099<y
    all_goals
     go_wp2_with fail;go_ret2;exact⟨BS (by rw[A.o]) (by rw[A.o]),rfl⟩
  ·by_cases U:y<2000
   ·go_wp2_with fail;go_ret2;exact⟨BS (by rw[A.o]) (by rw[A.o]),rfl⟩
   ·by_cases X:2099<y
    ·go_wp2_with fail;go_ret2;exact⟨BS (by rw[A.o]) (by rw[A.o]),rfl⟩
    ·by_cases h3:m<1
     ·go_wp2_with fail;go_ret2;exact⟨BS (by rw[A.o]) (by rw[A.o]),rfl⟩
     ·by_cases h4:12<m
      all_goals
       go_wp2_with fail;go_ret2;exact⟨BS (by rw[A.o]) (by rw[A.o]),rfl⟩
 ·have y0:2000<=y:=by omega
  have y1:y<=2099:=by omega
  have m0:1<=m:=by omega
  have m1:m<=12:=by omega
  have e0:1<=d:=by omega
  clear D;have ae:=Tt.mlen_bd y m;go_enter Tryz.func128,Tryz.ntmps128;go_wp2_with fail;refine(DY y m w (by omega) (by omega) (by omega) (by omega) V.o).mono ?_;rintro e G ⟨rfl,E⟩;rw[E];clear E G;by_cases hd:Tt.mlen y m<d
  ·have A:=Lh (show Tt.dayV y m d=(0,13)from by unfold Tt.dayV;rw[if_pos (by omega)]);go_wp2_with fail;go_ret2;exact⟨BS (by rw[A.o]) (by rw[A.o]),rfl⟩
  ·have A:=Lh (show Tt.dayV y m d=(Tt.yb (y - 2000).toNat+Tt.mb y (m - 1).toNat+d - 1,0)from by unfold Tt.dayV;rw[if_neg (by omega)]);have ac:IntKind.i64.wrap (d - 1)=d - 1:=by rw[IntKind.wrap_i64];omega
   go_wp2_with fail;go_loop [8,9] (fun R M=> ∃k:Nat,R=ja jb (d - 1+Tt.yb k)/\M=ja jb (2000+(k:Int))/\2000+(k:Int)<=y) (fun _ M=>(y - intOf M).toNat)
   case atStart=>exact⟨0,by simp[Tt.yb],rfl,by omega⟩
   case round=>
    obtain⟨k,rfl,rfl,hk⟩:=hrel;have H:=Tt.yb_closed k;have aa:=Tt.ylen_bd (2000+(k:Int));have HS:=Lh (show Tt.yb (k+1)=Tt.yb k+Tt.ylen (2000+(k:Int))from rfl);by_cases Z:2000+(k:Int)<y
    ·have F:0<=Tt.yb k/\Tt.yb k<=40000:=by omega
     clear H;have O:IntKind.i64.wrap (d - 1+Tt.yb k+Tt.ylen (2000+(k:Int)))=d - 1+Tt.yb k+Tt.ylen (2000+(k:Int)):=by rw[IntKind.wrap_i64];omega
     go_wp2_with fail;refine(LB _ w (by omega) (by omega)).mono ?_;rintro e G ⟨rfl,E⟩;rw[E];clear E G;go_wp2_with fail;go_round
     case rel=>exact⟨k+1,by rw[HS.o];go_num,by go_num,by omega⟩
     case measure=>simp[intOf];omega
    ·have HK:=Lh (show k=(y - 2000).toNat by omega);have F:0<=Tt.yb k/\Tt.yb k<=40000:=by omega
     clear H;go_wp2_with fail;go_loop [8,10] (fun R J=> ∃j:Nat,R=ja jb (d - 1+Tt.yb k+Tt.mb y j)/\J=ja jb (1+(j:Int))/\1+(j:Int)<=m) (fun _ J=>(m - intOf J).toNat)
     case atStart=>exact⟨0,by simp[Tt.mb],rfl,by omega⟩
     case round=>
      obtain⟨j,rfl,rfl,hj⟩:=hrel;have Y:=Tt.mlen_bd y (1+(j:Int));have ab:=Tt.mb_bd y j;have HM:=Lh (show Tt.mb y (j+1)=Tt.mb y j+Tt.mlen y (1+(j:Int))from by rw[Tt.mb,Int.add_comm 1 (j:Int)]);by_cases hlt2:1+(j:Int)<m
      ·have O:IntKind.i64.wrap (d - 1+Tt.yb k+Tt.mb y j+Tt.mlen y (1+(j:Int)))=d - 1+Tt.yb k+Tt.mb y j+Tt.mlen y (1+(j:Int)):=by rw[IntKind.wrap_i64];omega
       go_wp2_with fail;refine(DY y (1+(j:Int)) w (by omega) (by omega) (by omega) (by omega) V.o).mono ?_;rintro e G ⟨rfl,E⟩;rw[E];clear E G;go_wp2_with fail;go_round
       case rel=>exact⟨j+1,by rw[HM.o];go_num,by go_num,by omega⟩
       case measure=>simp[intOf];omega
      ·have HJ:=Lh (show j=(m - 1).toNat by omega);go_wp2_with fail;go_ret2;exact⟨BS (by rw[A.o,<-HK.o,<-HJ.o];show _=Tt.yb k+Tt.mb y j+d - 1;omega) (by rw[A.o]),rfl⟩
end Go.Proofs.YtegjgjgoodekiaaGreatDoor
-- Fold
namespace Go.Proofs.YtegjgjgoodekiaaGreatDoor
open Go.RowKit
theorem Hj(a b:ByteArray):(a++b).data.toList=a.data.toList++b.data.toList:=by simp
theorem LJ(a b:ByteArray):(a++b).size=a.size+b.size:=by simp
theorem Au(t:ByteArray)(a b:Nat)(h:b<=t.size):(t.extract a b).size=b - a:=by simp;omega
theorem Su(s:ByteArray)(w:World)(hs:s.size<=17592186044416):
  Calls Tryz.prog 78 #[jc s] w fun e w'=>e=jh (jc ⟨(Tt.fold s.data.toList).toArray⟩)/\Below w.heap.size w w':=by
 have H:FO w.heap.size (w.heap.size+1) [] (w.alloc (ji #[jf none,jd none 0 0] 147)):=FO.fresh w (w.heap.size+1) (by omega);have O:Below w.heap.size w (w.alloc (ji #[jf none,jd none 0 0] 147)):=(Below.refl _ w).alloc (xa _) _;have R:w.heap.size+1<=(w.alloc (ji #[jf none,jd none 0 0] 147)).heap.size:=by simp
 go_enter Tryz.func78,Tryz.ntmps78;go_wp2_with fail;go_loopw [0,4] (fun l i wr=> ∃(t:ByteArray) (n:Nat) (D:List UInt8),l=jc t/\i=ja jb n/\74<=n/\n<=75/\t.size<=s.size/\D.length+4*t.size<=4*s.size/\FO w.heap.size (w.heap.size+1) D wr/\Below w.heap.size w wr/\w.heap.size+1<=wr.heap.size/\Hid (D++Tt.foldGo t.data.toList.length n t.data.toList=Tt.fold s.data.toList)) (fun l _ _=>match l with | jc t=>t.size | _=>0)
 case atStart=>exact⟨s,75,[],rfl,rfl,by omega,by omega,by omega,by simp,H,O,R,by show _=_;simp[Tt.fold]⟩
 case round=>
  obtain⟨t,n,D,rfl,rfl,ac,aa,Z,X,U,M,ab,T⟩:=hrel;clear H O R;have V:=Lh (Lib.size_eq t);by_cases G:n<t.size
  ·have E:=Lh (Tt.foldGo_step t.data.toList.length n t.data.toList (by omega) (xa _) (by rw[<-V.o];exact G));go_wp2_with fail;refine(Cr _ _ _ _ _ U (by rw[LJ,LJ,Au t 0 n (by omega)];show D.length+(n - 0+2+1)<=_;omega) (by omega)).mono ?_;rintro e Y ⟨rfl,F,A⟩;have J:=A.size;go_wp2_with fail;go_roundw
   case rel=>
    refine⟨t.extract n t.size,74,_,rfl,rfl,by omega,by omega,by rw[Au t n t.size (by omega)];omega,?_,F,M.trans (A.below (xa _) (by omega)),by omega,?_⟩
    ·rw[Au t n t.size (by omega),Hj,Hj,xc,xc,xc,<-Lib.size_eq (t.extract 0 n),Au t 0 n (by omega),show(⟨#[13,10]⟩:ByteArray).data.toList.length=2 from rfl,show(⟨#[32]⟩:ByteArray).data.toList.length=1 from rfl];omega
    ·show _=_
     rw[<-T.o,E.o,Lib.extract_to_end,Hj,Hj,Lib.extract_from_zero];simp
   case measure=>simp[Au t n t.size];omega
  ·have E:=Lh (Tt.foldGo_end t.data.toList.length n t.data.toList (by rw[<-V.o];exact G));go_wp2_with fail;refine(Cr _ _ _ _ _ U (by rw[LJ];show D.length+(t.size+2)<=_;omega) (by omega)).mono ?_;rintro e Y ⟨rfl,F,A⟩;have J:=A.size;go_wp2_with fail;refine(Ec _ _ _ _ F).mono ?_;rintro e w2 ⟨rfl,hb1⟩;go_wp2_with fail;go_ret;refine⟨Ix ?_,(M.trans (A.below (xa _) (by omega))).trans hb1⟩;rw[<-T.o,E.o]
end Go.Proofs.YtegjgjgoodekiaaGreatDoor
-- Text
namespace Go.Proofs.YtegjgjgoodekiaaGreatDoor
open Go.RowKit
theorem B7.but{b B:Nat}{w w':World}(h:B7 b w w'):AO b B w w':=⟨h.1,h.2.1,h.2.2.1,by rw[h.2.2.2.1];exact xa _,fun k _ hk=>h.2.2.2.2 k hk⟩
theorem CT{w:World}{B:Nat}{v:Value}{l:List UInt8}(h:w.ownsRow B 5 1 v l.length (Lib.byteCells l)):(convert 88 9 v).run Tryz.prog w=.ok (jc ⟨l.toArray⟩) w:=by
 rcases h.2 with⟨hv,h0⟩ | ⟨g,cap,cur,hv,r2,r3,r4⟩
 ·have:l=[]:=List.eq_nil_of_length_eq_zero h0;subst this;subst hv;exact run_convert_bytes_nil w 88 5 Tryz.underlying88 Tryz.underlying5 0 0 9 Tryz.underlying9
 ·subst hv;refine run_convert_bytes_back w 88 9 5 ⟨g,0,none⟩ cap l Tryz.underlying88 Tryz.underlying5 Tryz.underlying9 (fun j hj=>?_);exact h.cells (g:=g) rfl j _ (by simp[Lib.byteCells,hj])
end Go.Proofs.YtegjgjgoodekiaaGreatDoor
-- Same
namespace Go.Proofs.YtegjgjgoodekiaaGreatDoor
open Go.RowKit
def BW(w:World)(ao:Option Addr)(xs:List ByteArray):Prop:=∀j x,xs[j]?=some x-> ∃a,ao=some a/\w.cell? (a.add j)=some (jc x)
theorem UT(x y:ByteArray)(h:x=y):(x.toList==y.toList)=true:=by rw[h];exact beq_self_eq_true _
theorem US(x y:ByteArray)(h: ¬x=y):(x.toList==y.toList)=false:=by
 rw[beq_eq_false_iff_ne];intro e;apply h;rw[Lib.toList_data,Lib.toList_data]at e;rw[<-Lib.mk_data x,<-Lib.mk_data y,e]
