/- The cells of small blocks, at once. The program's recurrence.Parse (function 180) on the rule of a series. Dates and rules of any text: the program's recurrence.date and recurrence.Parse: some series without lists, and a code. A drawn region without a tail: every operation may come at any time that what it waits for allows. No function of the program in sight. The days of a line, read: the program's (*parser).days for the text of some days with one time. The parser's event: what is kept from line to line. The parser's event: numbers, texts and days of a line. -/
import Derived.Test.YtegjgjgoodekiaaGreatDoorQk9
import Derived.Test.YtegjgjgoodekiaaGreatDoorQk12
import Derived.Test.YtegjgjgoodekiaaGreatDoorQk8
import Derived.Test.YtegjgjgoodekiaaGreatDoorPk18
import Derived.Test.YtegjgjgoodekiaaGreatDoorQk4
import Derived.Test.YtegjgjgoodekiaaGreatDoorQk10
open Go.Value renaming int->ja,string->jc,slice->jd,bool->je,pointer->jf,tuple->jg
open Go.IntKind renaming i64->jb
open Go.Ending renaming returned->jh
open Go.Obj renaming cells->ji
open Nat renaming lt_of_lt_of_le->xa,zero_le->xb,le_refl->xd,le_of_lt->xe
open List renaming getElem?_eq_getElem->xc
set_option maxRecDepth 100000
set_option maxHeartbeats 40000000
namespace Go.Proofs.YtegjgjgoodekiaaGreatDoor
open Go.RowKit
theorem Af.c3{g:Nat}{a b c:Value}{ty:TypeId}{w:World}(h:Af g #[a,b,c] ty w):w.cell? ⟨g,0,none⟩=some a/\w.cell? ⟨g,1,none⟩=some b/\w.cell? ⟨g,2,none⟩=some c/\w.frozen? ⟨g,0,none⟩=false/\w.frozen? ⟨g,1,none⟩=false/\w.frozen? ⟨g,2,none⟩=false:=⟨h.cell 0,h.cell 1,h.cell 2,h.frozen 0,h.frozen 1,h.frozen 2⟩
theorem Af.c4{g:Nat}{a b c d:Value}{ty:TypeId}{w:World}(h:Af g #[a,b,c,d] ty w):w.cell? ⟨g,0,none⟩=some a/\w.cell? ⟨g,1,none⟩=some b/\w.cell? ⟨g,2,none⟩=some c/\w.cell? ⟨g,3,none⟩=some d:=⟨h.cell 0,h.cell 1,h.cell 2,h.cell 3⟩
theorem Af.c6{g:Nat}{a b c d e f:Value}{ty:TypeId}{w:World}(h:Af g #[a,b,c,d,e,f] ty w):w.cell? ⟨g,0,none⟩=some a/\w.cell? ⟨g,1,none⟩=some b/\w.cell? ⟨g,2,none⟩=some c/\w.cell? ⟨g,3,none⟩=some d/\w.cell? ⟨g,4,none⟩=some e/\w.cell? ⟨g,5,none⟩=some f:=⟨h.cell 0,h.cell 1,h.cell 2,h.cell 3,h.cell 4,h.cell 5⟩
theorem Ps.all{b p:Nat}{e:Ev}{v v':Value}{w:World}(h:Ps b p e v v' w):w.cell? ⟨b,p,none⟩=some (jc e.uid)/\w.cell? ⟨b,p+1,none⟩=some (ja jb e.seq)/\w.cell? ⟨b,p+2,none⟩=some (je e.canc)/\w.cell? ⟨b,p+3,none⟩=some (ja jb e.days.first)/\w.cell? ⟨b,p+4,none⟩=some (ja jb e.days.last)/\w.cell? ⟨b,p+5,none⟩=some (ja jb e.days.every)/\w.cell? ⟨b,p+6,none⟩=some (ja jb e.days.wd)/\w.cell? ⟨b,p+7,none⟩=some v/\w.cell? ⟨b,p+8,none⟩=some v'/\w.cell? ⟨b,p+9,none⟩=some (ja jb e.start)/\w.cell? ⟨b,p+10,none⟩=some (ja jb e.mins)/\w.cell? ⟨b,p+11,none⟩=some (jc e.summ)/\w.cell? ⟨b,p+12,none⟩=some (jc e.loc):=⟨h.c0,h.c1,h.c2,h.c3,h.c4,h.c5,h.c6,h.c7,h.c8,h.c9,h.c10,h.c11,h.c12⟩
theorem Af.ev{g:Nat}{e:Ev}{v v':Value}{w:World}(h:Af g (Ae e v v') 61 w):Ps g 0 e v v' w:=⟨h.cell 0,h.cell 1,h.cell 2,h.cell 3,h.cell 4,h.cell 5,h.cell 6,h.cell 7,h.cell 8,h.cell 9,h.cell 10,h.cell 11,h.cell 12⟩
theorem Fv.one'{B:Nat}{w:World}{ao:Option Addr}{ts:List (Ev × Value × Value)}(h:Fv B w ao ts){k:Nat}(hk:k<ts.length): ∃e pe ke pf kf b o,ts[k]?=some (e,jd pe e.days.ex.length ke,jd pf e.days.xt.length kf)/\ao=some ⟨b,o,none⟩/\b<B/\ND e/\Ints B w pe e.days.ex/\Ints B w pf e.days.xt/\Ps b (o+k*13) e (jd pe e.days.ex.length ke) (jd pf e.days.xt.length kf) w:=by
 obtain⟨⟨e,J,M⟩,ht⟩: ∃t,ts[k]?=some t:=⟨_,xc hk⟩
 obtain⟨b,o,ha,hb,hc⟩:=h.at'.resolve_left (fun G=>by rw[G]at hk;cases hk);obtain⟨H,⟨pe,ke,E,A⟩,⟨pf,kf,D,F⟩⟩:=h.ref _ (List.mem_of_getElem? ht);simp only at E D A F;subst E;subst D;exact⟨e,pe,ke,pf,kf,b,o,ht,ha,hb,H,A,F,Mj hc k _ ht⟩
theorem VM(w:World)(a b c:Array Value)(D E A:TypeId): ∃w0,w0=((w.alloc (ji a D)).alloc (ji b E)).alloc (ji c A)/\Af w.heap.size a D w0/\Af (w.heap.size+1) b E w0/\Af (w.heap.size+1+1) c A w0/\Below w.heap.size w w0/\w0.heap.size=w.heap.size+3:=
 ⟨_,rfl,((Af.new w _ _).alloc _).alloc _,(Af.new' (g:=w.heap.size+1) _ _ _ (by simp)).alloc _,Af.new' _ _ _ (by simp),((Aa w _).alloc (by simp) _).alloc (by simp;omega) _,by simp⟩
theorem Av.cap2{lo n c:Nat}{w:World}{ao:Option Addr}{ts:List (Ev × Value × Value)}(h:Av lo w (jd ao n c) ts):ts.length<=c:=by
 rcases h.row.2 with⟨_,h0⟩ | ⟨g,cap,cur,hv,_,_,hc,_⟩
 ·omega
 ·injection hv with A E D
  omega
theorem Av.ptr{lo n c:Nat}{w:World}{ao:Option Addr}{ts:List (Ev × Value × Value)}(h:Av lo w (jd ao n c) ts)(hp:0<ts.length): ∃g,ao=some ⟨g,0,none⟩:=by
 rcases h.row.2 with⟨_,h0⟩ | ⟨g,cap,cur,hv,_⟩
 ·omega
 ·injection hv with A E D
  exact⟨g,A⟩
theorem Av.one13{lo n c g:Nat}{w:World}{ts:List (Ev × Value × Value)}(h:Av lo w (jd (some ⟨g,0,none⟩) n c) ts){j i:Nat}{t:Ev × Value × Value}{u:Value}(ht:ts[j]?=some t)(hi:i<13)(hu:(Ae t.1 t.2.1 t.2.2).toList[i]?=some u):w.cell? ⟨g,j*13+i,none⟩=some u:=by
 have:=h.row.cells (g:=g) rfl (j*13+i) u (by rw[Eb ts j i t ht hi];exact hu);rw[Addr.add_lit,Nat.zero_add]at this;exact this
theorem Gs{g g':Nat}{cs:Array Value}{ty:TypeId}(hne:g'≠g): ∀(A:List Value) (o:Nat) (w:World),Af g' cs ty w->Af g' cs ty (setAll w g o A)
 | [],_,_,h=>h
 | v::A,o,_,h=>Gs hne A (o+1) _ (h.set_other hne o v)
theorem Wo{cs:Array Value}(h:cs.size=13): ∃x0 x1 x2 x3 x4 x5 x6 x7 x8 x9 x10 x11 x12,cs=#[x0,x1,x2,x3,x4,x5,x6,x7,x8,x9,x10,x11,x12]:=by
 rcases cs with⟨l⟩
 match l,h with
 | [x0,x1,x2,x3,x4,x5,x6,x7,x8,x9,x10,x11,x12],_=>exact⟨_,_,_,_,_,_,_,_,_,_,_,_,_,rfl⟩
theorem Af.c13{g:Nat}{O U V H J T R F G M A E D:Value}{ty:TypeId}{w:World}(h:Af g #[O,U,V,H,J,T,R,F,G,M,A,E,D] ty w):w.cell? ⟨g,0,none⟩=some O/\w.cell? ⟨g,1,none⟩=some U/\w.cell? ⟨g,2,none⟩=some V/\w.cell? ⟨g,3,none⟩=some H/\w.cell? ⟨g,4,none⟩=some J/\w.cell? ⟨g,5,none⟩=some T/\w.cell? ⟨g,6,none⟩=some R/\w.cell? ⟨g,7,none⟩=some F/\w.cell? ⟨g,8,none⟩=some G/\w.cell? ⟨g,9,none⟩=some M/\w.cell? ⟨g,10,none⟩=some A/\w.cell? ⟨g,11,none⟩=some E/\w.cell? ⟨g,12,none⟩=some D:=⟨h.cell 0,h.cell 1,h.cell 2,h.cell 3,h.cell 4,h.cell 5,h.cell 6,h.cell 7,h.cell 8,h.cell 9,h.cell 10,h.cell 11,h.cell 12⟩
theorem LC(k l:List UInt8)(t K:ByteArray)(w:K.data.toList=k)(ht:t.data.toList=k++l)(W:World):
  Calls Tryz.prog 101 #[jc t,jc K] W fun e w'=>e=jh (jg #[jc ⟨l.toArray⟩,je true])/\w'=W:=by
 have h:=Tryz.strings_CutPrefix t K W;rw[w,ht,BE,CV]at h;exact h
theorem RJ(s:Tt.Ser)(t:ByteArray)(w:World)(hh:Tt.Head s)(ht:t.data.toList=Tt.ruleL s)(hL:CD w)(hw:3<w.heap.size):
  Calls Tryz.prog 104 #[ja jb s.first,jc t] w fun e w'=>e=jh (jg #[.agg #[ja jb s.first,ja jb s.last,ja jb s.every,ja jb s.wd,jd none 0 0,jd none 0 0],ja jb 0])/\Below w.heap.size w w':=by
 have e0:=hh.e0;have e1:=hh.e1;obtain⟨c,hc⟩: ∃c:UInt8,c=UInt8.ofNat (48+s.every.toNat):=⟨_,rfl⟩
 have hcn:(c.toNat:Int)=48+s.every:=by rw[hc,Tt.ofNat_toNat (by omega)];omega
 have T:Lib.decDigits s.every.toNat=[c]:=by rw[Lib.decDigits_one (by omega),hc]
 obtain⟨R4,R⟩: ∃q:ByteArray,q=⟨(Tt.dateL s.last).toArray⟩:=⟨_,rfl⟩
 obtain⟨R3,O⟩: ∃q:ByteArray,q=⟨(59::([85,78,84,73,76,61]++Tt.dateL s.last)).toArray⟩:=⟨_,rfl⟩
 obtain⟨R2,M⟩: ∃q:ByteArray,q=⟨(Tt.byL s.wd 7++59::([85,78,84,73,76,61]++Tt.dateL s.last)).toArray⟩:=⟨_,rfl⟩
 obtain⟨F,E⟩: ∃q:ByteArray,q=⟨(c::([59,66,89,68,65,89,61]++(Tt.byL s.wd 7++59::([85,78,84,73,76,61]++Tt.dateL s.last)))).toArray⟩:=⟨_,rfl⟩
 have aa:1<=F.size:=by rw[E,size_mk,List.length_cons];omega
 have H0:F.data.toList=c::([59,66,89,68,65,89,61]++(Tt.byL s.wd 7++59::([85,78,84,73,76,61]++Tt.dateL s.last))):=by rw[E]
 have al:Hid (∀W,Calls Tryz.prog 101 #[jc t,jc ⟨#[70,82,69,81,61,87,69,69,75,76,89,59,73,78,84,69,82,86,65,76,61]⟩] W fun e w'=>e=jh (jg #[jc F,je true])/\w'=W):=Lh (fun W=>by
  rw[E];exact LC [70,82,69,81,61,87,69,69,75,76,89,59,73,78,84,69,82,86,65,76,61] _ t _ rfl (by rw[ht,Tt.ruleL,T];simp only[List.append_assoc,List.cons_append,List.nil_append]) W)
 have ag:Hid (∀W,Calls Tryz.prog 101 #[jc (F.extract 1 F.size),jc ⟨#[59,66,89,68,65,89,61]⟩] W fun e w'=>e=jh (jg #[jc R2,je true])/\w'=W):=Lh (fun W=>by
  rw[M];exact LC [59,66,89,68,65,89,61] _ _ _ rfl (by rw[Lib.extract_to_end,H0];rfl) W)
 have ac:Hid (∀W,Calls Tryz.prog 101 #[jc R3,jc ⟨#[59,85,78,84,73,76,61]⟩] W fun e w'=>e=jh (jg #[jc R4,je true])/\w'=W):=Lh (fun W=>by
  rw[R];exact LC [59,85,78,84,73,76,61] _ _ _ rfl (by rw[O];rfl) W)
 have aj:Hid (∀W,Calls Tryz.prog 131 #[jc R2] W fun e w'=>e=jh (jg #[ja jb s.wd,jc R3])/\w'=W):=Lh (fun W=>by
  have h:=Hn R2 W;rw[show R2.data.toList=Tt.byL s.wd 7++59::([85,78,84,73,76,61]++Tt.dateL s.last)from by rw[M],Tt.wk_back _ hh.w0 (by have:=hh.w1;omega),<-O]at h;exact h)
 have am:Hid (∀W,Below w.heap.size w W->Calls Tryz.prog 132 #[jc R4] W fun e w'=>e=jh (jg #[ja jb s.last,je true])/\Below W.heap.size W w'):=Lh (fun W A=>Uu R4 s.last W (by rw[R]) hh.l0 hh.l1 (hL.below hw A) (xa hw A.size));have ah:Hid (∀W:World,Calls Tryz.prog 133 #[.agg #[ja jb s.first,ja jb s.last,ja jb s.every,ja jb s.wd,jd none 0 0,jd none 0 0]] W fun e w'=>e=jh (ja jb 0)/\Below W.heap.size W w'):=Lh (fun W=>by
  have h:=Cg ⟨s.first,s.last,s.every,s.wd,[],[]⟩ 0 W (by simp) (by simp) none none 0 0 (xb _) (fun j x hj=>by simp at hj) (fun j x hj=>by simp at hj);rw[(Tt.serV_zero ⟨s.first,s.last,s.every,s.wd,[],[]⟩).2 ⟨⟨hh.f0,hh.f1,hh.l0,hh.l1,hh.fl,hh.lf,hh.e0,hh.e1,hh.w0,hh.w1,by simp⟩,rfl,rfl⟩]at h;exact h)
 have HI:Tt.isD s.first=true:=by unfold Tt.isD;have:=hh.f0;have:=hh.f1;simp;omega
 have hch:F[0]'aa=c:=by
  have h:=Lib.data_getElem? F 0 aa;rw[H0]at h;simpa using h.symm
 have hne:F.toList.isEmpty=false:=by rw[Lib.toList_data,H0];rfl
 have ar: ¬(c.toNat:Int)<48:=by omega
 have aq: ¬57<(c.toNat:Int):=by omega
 have ap:(c.toNat:Int) - 48=s.every:=by omega
 have HA:Hid (∀W,Below w.heap.size w W->3<W.heap.size):=Lh (fun W h=>xa hw h.size);clear E M O R H0 hc T ht hh hcn;go_enter Tryz.func104,Tryz.ntmps104;go_wp2_with fail;refine(Hc s.first _).mono ?_;rintro e w1 ⟨rfl,rfl⟩;rw[HI];go_wp2_with fail;refine(al.o _).mono ?_;rintro e w1 ⟨rfl,rfl⟩;go_wp2_with fail;refine(ag.o _).mono ?_;rintro e w1 ⟨rfl,rfl⟩;go_wp2_with fail;refine(aj.o _).mono ?_;rintro e w1 ⟨rfl,rfl⟩;go_wp2_with fail;refine(ac.o _).mono ?_;rintro e w1 ⟨rfl,rfl⟩;go_wp2_with fail;obtain⟨Z,U⟩: ∃Z,Z=((w.alloc (ji #[ja jb 0,ja jb 0,ja jb 0,ja jb 0,jd none 0 0,jd none 0 0] 59)).alloc (ji #[ja jb s.first,ja jb 0,ja jb s.every,ja jb s.wd,jd none 0 0,jd none 0 0] 59)):=⟨_,rfl⟩
 rw[<-U];have H:Af w.heap.size #[ja jb 0,ja jb 0,ja jb 0,ja jb 0,jd none 0 0,jd none 0 0] 59 Z:=by rw[U];exact(Af.new w _ 59).alloc _
 have G:Af (w.heap.size+1) #[ja jb s.first,ja jb 0,ja jb s.every,ja jb s.wd,jd none 0 0,jd none 0 0] 59 Z:=by rw[U];exact Af.new' _ _ 59 (by simp)
 have A:Below w.heap.size w Z:=by rw[U];exact(Aa w _).trans ((Aa _ _).mono (by simp))
 clear U;refine(am.o Z A).mono ?_;rintro e x ⟨rfl,hb⟩;have ab:=Lh (H.below hb H.lt);have D:=Lh (G.below hb G.lt);have V:=Lh (A.trans (hb.mono A.size));clear H G A hb;have fz:=D.o.frozen 1;have cz:=D.o.cell 1;go_upto_region 16 with(fail)
 obtain⟨X,hX⟩: ∃X,X=x.setCell ⟨w.heap.size+1,1,none⟩ (ja jb s.last):=⟨_,rfl⟩
 rw[<-hX];have H:Af w.heap.size #[ja jb 0,ja jb 0,ja jb 0,ja jb 0,jd none 0 0,jd none 0 0] 59 X:=by rw[hX];exact ab.o.only (AN x (w.heap.size+1) 1 _) (by omega)
 have G:Af (w.heap.size+1) #[ja jb s.first,ja jb s.last,ja jb s.every,ja jb s.wd,jd none 0 0,jd none 0 0] 59 X:=by rw[hX];exact D.o.set 1 _
 have A:Below w.heap.size w X:=by rw[hX];exact V.o.trans ((AN x (w.heap.size+1) 1 _).but (b:=w.heap.size+1) (B:=w.heap.size+1) |>.below (by omega) (by omega))
 clear hX fz cz ab D V;have b0:=G.c6;go_wp2_with fail;refine(ah.o X).mono ?_;rintro e x2 ⟨rfl,hb⟩;have J:=H.below hb H.lt;have ai:=G.below hb G.lt;have ae:=Lh (A.trans (hb.mono A.size));clear H G A hb b0;have b0:=ai.c6;have a0:=fun i=>J.frozen i;have z0:=J.c6;go_wp2_with fail
 obtain⟨Y,hY⟩: ∃Y,Y=((((((x2.setCell ⟨w.heap.size,0,none⟩ (ja jb s.first)).setCell ⟨w.heap.size,1,none⟩ (ja jb s.last)).setCell ⟨w.heap.size,2,none⟩ (ja jb s.every)).setCell ⟨w.heap.size,3,none⟩ (ja jb s.wd)).setCell ⟨w.heap.size,4,none⟩ (jd none 0 0)).setCell ⟨w.heap.size,5,none⟩ (jd none 0 0)):=⟨_,rfl⟩
 rw[<-hY];have ak:Af w.heap.size #[ja jb s.first,ja jb s.last,ja jb s.every,ja jb s.wd,jd none 0 0,jd none 0 0] 59 Y:=by rw[hY];exact(((((J.set 0 _).set 1 _).set 2 _).set 3 _).set 4 _).set 5 _
 have af:Below w.heap.size w Y:=by
  have q: ∀(W:World) (i:Nat) (u:Value),Below w.heap.size w W->Below w.heap.size w (W.setCell ⟨w.heap.size,i,none⟩ u):=fun W i u h=>h.trans ((AN W w.heap.size i u).but (b:=w.heap.size) (B:=w.heap.size) |>.below (by omega) (by omega))
  rw[hY];exact q _ _ _ (q _ _ _ (q _ _ _ (q _ _ _ (q _ _ _ (q _ _ _ ae.o)))))
 clear hY;have r0:=ak.c6;refine bodyPost_ret (v:=jg #[.agg #[ja jb s.first,ja jb s.last,ja jb s.every,ja jb s.wd,jd none 0 0,jd none 0 0],ja jb 0]) (by simp[results,Tryz.results104,go_sem,r0]) rfl ?_;exact⟨rfl,af⟩
def Ww(w:World)(e:Ending)(w':World):Prop:=∃(n:Int) (ok:Bool),e=jh (jg #[ja jb n,je ok])/\Below w.heap.size w w'
theorem SL(s:ByteArray)(w:World)(X:CD w)(hw:3<w.heap.size):Calls Tryz.prog 132 #[jc s] w (Ww w):=by
 by_cases hs:s.size=8
 ·have zs:((s.size:Int) !=8)=false:=by rw[hs];rfl
  obtain⟨cap,W,E,D,Z,hcell⟩:=Fb s w;have V:=Lh D;have H:=Lh hcell;have U:=Lh (X.below hw D);have J:Hid (∀k,k<8-> ∃c:UInt8,s.data.toList[k]?=some c):=Lh (fun k hk=>by
   have:k<s.data.toList.length:=by rw[<-Lib.size_eq,hs];exact hk
   exact⟨_,xc this⟩)
  clear X D hcell;go_enter Tryz.func132,Tryz.ntmps132;go_wp2_with fail;clear E;go_loopw [4,6,15] (fun nv _ O wr=> ∃(k:Nat) (v:Int),k<=8/\O=ja jb k/\nv=ja jb v/\Hid (wr=W)) (fun _ _ O _=>8 - (intOf O).toNat)
  case atStart=>exact⟨0,0,xb _,rfl,rfl,Lh rfl⟩
  case round=>
   obtain⟨k,v,hk,rfl,rfl,A⟩:=hrel;by_cases M:k<8
   ·obtain⟨c,hc⟩:=J.o k M;have F:=H.o k c hc;rw[<-A.o]at F;obtain⟨n,hn⟩: ∃n:Int,n=c.toNat:=⟨_,rfl⟩
    rw[<-hn]at F;have T:(k:Int)<8:=by omega
    have G:=Lh (show Below w.heap.size w wr from by rw[A.o];exact V.o);clear hc hn;by_cases h0:n<48
    ·go_wp2_with fail;go_ret2;exact⟨_,_,rfl,G.o⟩
    ·by_cases h1:57<n
     ·go_wp2_with fail;go_ret2;exact⟨_,_,rfl,G.o⟩
     ·go_wp2_with fail;go_roundw
      case rel=>exact⟨k+1,_,by omega,by go_num,rfl,A⟩
      case measure=>simp[intOf];omega
   ·have Y:k=8:=by omega
    have T: ¬(k:Int)<8:=by omega
    have R:=A.o;subst R;clear J H;go_wp2_with fail;refine(Pf _ _ _ wr U.o).mono ?_;rintro e w1 ⟨⟨n,c,rfl⟩,rfl⟩;go_wp2_with fail;go_ret2;exact⟨_,_,rfl,V.o⟩
 ·have zs:((s.size:Int) !=8)=true:=by simp;omega
  go_enter Tryz.func132,Tryz.ntmps132;go_wp2_with fail;go_ret2;exact⟨_,_,rfl,Below.refl _ _⟩
def Wq(w:World)(e:Ending)(w':World):Prop:=∃a l v d c:Int,e=jh (jg #[.agg #[ja jb a,ja jb l,ja jb v,ja jb d,jd none 0 0,jd none 0 0],ja jb c])/\Below w.heap.size w w'
theorem CR{g:Nat}{cs:Array Value}{w0 w:World}(h:Af g cs 59 w)(hc:cs.size=6)(hb:Below w0.heap.size w0 w)(hg:w0.heap.size<=g)(F A E D u4 u5:Value): ∃Y,Y=((((((w.setCell ⟨g,0,none⟩ F).setCell ⟨g,1,none⟩ A).setCell ⟨g,2,none⟩ E).setCell ⟨g,3,none⟩ D).setCell ⟨g,4,none⟩ u4).setCell ⟨g,5,none⟩ u5)/\Af g #[F,A,E,D,u4,u5] 59 Y/\Below w0.heap.size w0 Y:=by
 refine⟨_,rfl,?_,?_⟩
 ·obtain⟨l⟩:=cs;match l,hc with
  | [a0,a1,a2,a3,a4,a5],_=>exact(((((h.set 0 F).set 1 A).set 2 E).set 3 D).set 4 u4).set 5 u5
 ·have q: ∀(W:World) (i:Nat) (u:Value),Below w0.heap.size w0 W->Below w0.heap.size w0 (W.setCell ⟨g,i,none⟩ u):=fun W i u h=>h.setCell hg _
  exact q _ _ _ (q _ _ _ (q _ _ _ (q _ _ _ (q _ _ _ (q _ _ _ hb)))))
theorem Qj(f:Int)(t:ByteArray)(w:World)(hL:CD w)(hw:3<w.heap.size):Calls Tryz.prog 104 #[ja jb f,jc t] w (Wq w):=by
 have HL:Hid (∀W,Below w.heap.size w W->CD W/\3<W.heap.size):=Lh (fun W h=>⟨hL.below hw h,xa hw h.size⟩);obtain⟨R,hR⟩: ∃R,R=w.heap.size:=⟨_,rfl⟩
 have Z:=Lh (show Below w.heap.size w (w.alloc (ji #[ja jb 0,ja jb 0,ja jb 0,ja jb 0,jd none 0 0,jd none 0 0] 59))from Aa w _);have U:=Lh (show Af R #[ja jb 0,ja jb 0,ja jb 0,ja jb 0,jd none 0 0,jd none 0 0] 59 (w.alloc (ji #[ja jb 0,ja jb 0,ja jb 0,ja jb 0,jd none 0 0,jd none 0 0] 59))from by rw[hR];exact Af.new w _ 59);have E:=Lh (show w.heap.size<=R by omega);obtain⟨W0,au⟩: ∃W0,W0=w.alloc (ji #[ja jb 0,ja jb 0,ja jb 0,ja jb 0,jd none 0 0,jd none 0 0] 59):=⟨_,rfl⟩
 rw[<-au]at U Z;clear hL;go_enter Tryz.func104,Tryz.ntmps104;go_upto_region 1 with(fail);rw[<-au,<-hR];clear au hR hw;go_wp2_with fail;refine(Hc f _).mono ?_;rintro e w1 ⟨rfl,hx⟩;rw[hx];clear hx w1;obtain⟨b1,hb1⟩: ∃b1,b1=Tt.isD f:=⟨_,rfl⟩
 rw[<-hb1];clear hb1;cases b1
 ·have a0:=fun i=>U.o.frozen i;have z0:=U.o.c6
  go_wp2_with fail;obtain⟨Y,D,J,M⟩:=CR U.o rfl Z.o E.o (ja jb 0) (ja jb 0) (ja jb 0) (ja jb 0) (jd none 0 0) (jd none 0 0);rw[<-D];clear D a0 z0;have H:=J.c6;refine bodyPost_ret (v:=jg #[.agg #[ja jb 0,ja jb 0,ja jb 0,ja jb 0,jd none 0 0,jd none 0 0],ja jb 13]) (by simp[results,Tryz.results104,go_sem,H]) rfl ?_;exact⟨(0),(0),(0),(0),13,rfl,M⟩
 ·go_upto_region 4 with(fail);obtain⟨G,hG⟩: ∃G,G=W0.heap.size:=⟨_,rfl⟩
  obtain⟨W1,ag⟩: ∃W1,W1=W0.alloc (ji #[ja jb f,ja jb 0,ja jb 0,ja jb 0,jd none 0 0,jd none 0 0] 59):=⟨_,rfl⟩
  have aj:=Lh (show Af G #[ja jb f,ja jb 0,ja jb 0,ja jb 0,jd none 0 0,jd none 0 0] 59 W1 from by rw[ag,hG];exact Af.new W0 _ 59);have A:=Lh (show Af R #[ja jb 0,ja jb 0,ja jb 0,ja jb 0,jd none 0 0,jd none 0 0] 59 W1 from by rw[ag];exact U.o.alloc _);have X:=Lh (show Below w.heap.size w W1 from by rw[ag];exact Z.o.trans ((Aa W0 _).mono Z.o.size));have ar:=Lh (show R≠G from by have:=U.o.lt;omega);have aq:=Lh (show w.heap.size<=G from by have:=Z.o.size;omega);rw[<-ag,<-hG];clear ag hG U Z;go_wp2_with fail;refine(Tryz.strings_CutPrefix _ _ _).mono ?_;rintro e w1 ⟨rfl,hx⟩;rw[hx];clear hx w1;obtain⟨F,av⟩: ∃F:ByteArray,F=⟨(Lib.trimPrefix t.data.toList (⟨#[70,82,69,81,61,87,69,69,75,76,89,59,73,78,84,69,82,86,65,76,61]⟩:ByteArray).data.toList).toArray⟩:=⟨_,rfl⟩
  obtain⟨b2,aD⟩: ∃b2,b2=Lib.hasPrefix t.data.toList (⟨#[70,82,69,81,61,87,69,69,75,76,89,59,73,78,84,69,82,86,65,76,61]⟩:ByteArray).data.toList:=⟨_,rfl⟩
  rw[<-av,<-aD];clear av aD;cases b2
  ·have a0:=fun i=>A.o.frozen i;have z0:=A.o.c6
   go_wp2_with fail;obtain⟨Y,D,J,M⟩:=CR A.o rfl X.o E.o (ja jb 0) (ja jb 0) (ja jb 0) (ja jb 0) (jd none 0 0) (jd none 0 0);rw[<-D];clear D a0 z0;have H:=J.c6;refine bodyPost_ret (v:=jg #[.agg #[ja jb 0,ja jb 0,ja jb 0,ja jb 0,jd none 0 0,jd none 0 0],ja jb 4]) (by simp[results,Tryz.results104,go_sem,H]) rfl ?_;exact⟨(0),(0),(0),(0),4,rfl,M⟩
  ·by_cases az:F.size=0
   ·have he:F.toList.isEmpty=true:=by rw[JB F az];rfl
    have a0:=fun i=>A.o.frozen i;have z0:=A.o.c6
    go_wp2_with fail;obtain⟨Y,D,J,M⟩:=CR A.o rfl X.o E.o (ja jb 0) (ja jb 0) (ja jb 0) (ja jb 0) (jd none 0 0) (jd none 0 0);rw[<-D];clear D a0 z0;have H:=J.c6;refine bodyPost_ret (v:=jg #[.agg #[ja jb 0,ja jb 0,ja jb 0,ja jb 0,jd none 0 0,jd none 0 0],ja jb 4]) (by simp[results,Tryz.results104,go_sem,H]) rfl ?_;exact⟨(0),(0),(0),(0),4,rfl,M⟩
   ·have he:=FG F az;have aI:(0:Int)<(F.size:Int):=by omega
    have aK:1<=F.size:=by omega
    have ac:0<F.size:=by omega
    obtain⟨n,hn⟩: ∃n:Int,n=((F[0]'ac).toNat:Int):=⟨_,rfl⟩
    by_cases h0:n<48
    ·have aH:(((F[0]'ac).toNat:Int)<48):=by omega
     clear hn h0;have a0:=fun i=>A.o.frozen i;have z0:=A.o.c6
     go_wp2_with fail;obtain⟨Y,D,J,M⟩:=CR A.o rfl X.o E.o (ja jb 0) (ja jb 0) (ja jb 0) (ja jb 0) (jd none 0 0) (jd none 0 0);rw[<-D];clear D a0 z0;have H:=J.c6;refine bodyPost_ret (v:=jg #[.agg #[ja jb 0,ja jb 0,ja jb 0,ja jb 0,jd none 0 0,jd none 0 0],ja jb 4]) (by simp[results,Tryz.results104,go_sem,H]) rfl ?_;exact⟨(0),(0),(0),(0),4,rfl,M⟩
    ·have aH: ¬(((F[0]'ac).toNat:Int)<48):=by omega
     by_cases h1:57<n
     ·have T:57<((F[0]'ac).toNat:Int):=by omega
      clear hn h0 h1;have a0:=fun i=>A.o.frozen i;have z0:=A.o.c6
      go_wp2_with fail;obtain⟨Y,D,J,M⟩:=CR A.o rfl X.o E.o (ja jb 0) (ja jb 0) (ja jb 0) (ja jb 0) (jd none 0 0) (jd none 0 0);rw[<-D];clear D a0 z0;have H:=J.c6;refine bodyPost_ret (v:=jg #[.agg #[ja jb 0,ja jb 0,ja jb 0,ja jb 0,jd none 0 0,jd none 0 0],ja jb 4]) (by simp[results,Tryz.results104,go_sem,H]) rfl ?_;exact⟨(0),(0),(0),(0),4,rfl,M⟩
     ·have T: ¬57<((F[0]'ac).toNat:Int):=by omega
      have fz:=aj.o.frozen 2;have cz:=aj.o.cell 2;go_upto_region 8 with(fail)
      clear fz cz;obtain⟨e2,ay⟩: ∃q:Int,q=((F[0]'ac).toNat:Int) - 48:=⟨_,rfl⟩
      rw[<-ay];clear ay;obtain⟨W2,O⟩: ∃q,q=W1.setCell ⟨G,2,none⟩ (ja jb e2):=⟨_,rfl⟩
      have ah:=Lh (show Af G #[ja jb f,ja jb 0,ja jb e2,ja jb 0,jd none 0 0,jd none 0 0] 59 W2 from by rw[O];exact aj.o.set 2 _);have af:=Lh (show Af R #[ja jb 0,ja jb 0,ja jb 0,ja jb 0,jd none 0 0,jd none 0 0] 59 W2 from by rw[O];exact A.o.set_other ar.o 2 _);have am:=Lh (show Below w.heap.size w W2 from by rw[O];exact X.o.setCell aq.o _);rw[<-O];clear O aj A X;go_wp2_with fail;refine(Tryz.strings_CutPrefix _ _ _).mono ?_;rintro e w1 ⟨rfl,hx⟩;rw[hx];clear hx w1;obtain⟨R2,T⟩: ∃q:ByteArray,q=⟨(Lib.trimPrefix (F.extract 1 F.size).data.toList (⟨#[59,66,89,68,65,89,61]⟩:ByteArray).data.toList).toArray⟩:=⟨_,rfl⟩
      obtain⟨b3,hq2⟩: ∃q,q=Lib.hasPrefix (F.extract 1 F.size).data.toList (⟨#[59,66,89,68,65,89,61]⟩:ByteArray).data.toList:=⟨_,rfl⟩
      rw[<-T,<-hq2];clear T hq2;cases b3
      ·have a0:=fun i=>af.o.frozen i;have z0:=af.o.c6
       go_wp2_with fail;obtain⟨Y,D,J,M⟩:=CR af.o rfl am.o E.o (ja jb 0) (ja jb 0) (ja jb 0) (ja jb 0) (jd none 0 0) (jd none 0 0);rw[<-D];clear D a0 z0;have H:=J.c6;refine bodyPost_ret (v:=jg #[.agg #[ja jb 0,ja jb 0,ja jb 0,ja jb 0,jd none 0 0,jd none 0 0],ja jb 4]) (by simp[results,Tryz.results104,go_sem,H]) rfl ?_;exact⟨(0),(0),(0),(0),4,rfl,M⟩
      ·go_wp2_with fail;refine(Hn R2 _).mono ?_;rintro e w1 ⟨rfl,hx⟩;rw[hx];clear hx w1;obtain⟨d3,aC⟩: ∃q:Int,q=(Tt.wkGo 7 0 R2.data.toList).1:=⟨_,rfl⟩
       obtain⟨R3,aA⟩: ∃q:ByteArray,q=⟨(Tt.wkGo 7 0 R2.data.toList).2.toArray⟩:=⟨_,rfl⟩
       rw[<-aC,<-aA];clear aC aA;have fz:=ah.o.frozen 3;have cz:=ah.o.cell 3;go_upto_region 12 with(fail)
       clear fz cz;obtain⟨W3,O⟩: ∃q,q=W2.setCell ⟨G,3,none⟩ (ja jb d3):=⟨_,rfl⟩
       have ap:=Lh (show Af G #[ja jb f,ja jb 0,ja jb e2,ja jb d3,jd none 0 0,jd none 0 0] 59 W3 from by rw[O];exact ah.o.set 3 _);have ab:=Lh (show Af R #[ja jb 0,ja jb 0,ja jb 0,ja jb 0,jd none 0 0,jd none 0 0] 59 W3 from by rw[O];exact af.o.set_other ar.o 3 _);have ae:=Lh (show Below w.heap.size w W3 from by rw[O];exact am.o.setCell aq.o _);rw[<-O];clear O ah af am;go_wp2_with fail;refine(Tryz.strings_CutPrefix _ _ _).mono ?_;rintro e w1 ⟨rfl,hx⟩;rw[hx];clear hx w1;obtain⟨R4,T⟩: ∃q:ByteArray,q=⟨(Lib.trimPrefix R3.data.toList (⟨#[59,85,78,84,73,76,61]⟩:ByteArray).data.toList).toArray⟩:=⟨_,rfl⟩
       obtain⟨b4,hq2⟩: ∃q,q=Lib.hasPrefix R3.data.toList (⟨#[59,85,78,84,73,76,61]⟩:ByteArray).data.toList:=⟨_,rfl⟩
       rw[<-T,<-hq2];clear T hq2;cases b4
       ·have a0:=fun i=>ab.o.frozen i;have z0:=ab.o.c6
        go_wp2_with fail;obtain⟨Y,D,J,M⟩:=CR ab.o rfl ae.o E.o (ja jb 0) (ja jb 0) (ja jb 0) (ja jb 0) (jd none 0 0) (jd none 0 0);rw[<-D];clear D a0 z0;have H:=J.c6;refine bodyPost_ret (v:=jg #[.agg #[ja jb 0,ja jb 0,ja jb 0,ja jb 0,jd none 0 0,jd none 0 0],ja jb 4]) (by simp[results,Tryz.results104,go_sem,H]) rfl ?_;exact⟨(0),(0),(0),(0),4,rfl,M⟩
       ·go_wp2_with fail;refine(SL R4 _ (HL.o _ ae.o).1 (HL.o _ ae.o).2).mono ?_;rintro e W4 ⟨n5,aF,rfl,hb⟩;have ak:=Lh (ap.o.below hb ap.o.lt);have ax:=Lh (ab.o.below hb ab.o.lt);have aw:=Lh (ae.o.trans (hb.mono ae.o.size));clear hb ap ab ae;have fz:=ak.o.frozen 1;have cz:=ak.o.cell 1;go_upto_region 16 with(fail);clear fz cz;obtain⟨W5,O⟩: ∃q,q=W4.setCell ⟨G,1,none⟩ (ja jb n5):=⟨_,rfl⟩
        have ai:=Lh (show Af G #[ja jb f,ja jb n5,ja jb e2,ja jb d3,jd none 0 0,jd none 0 0] 59 W5 from by rw[O];exact ak.o.set 1 _);have aa:=Lh (show Af R #[ja jb 0,ja jb 0,ja jb 0,ja jb 0,jd none 0 0,jd none 0 0] 59 W5 from by rw[O];exact ax.o.set_other ar.o 1 _);have al:=Lh (show Below w.heap.size w W5 from by rw[O];exact aw.o.setCell aq.o _);rw[<-O];clear O ak ax aw;cases aF
        ·have a0:=fun i=>aa.o.frozen i;have z0:=aa.o.c6
         go_wp2_with fail;obtain⟨Y,D,J,M⟩:=CR aa.o rfl al.o E.o (ja jb 0) (ja jb 0) (ja jb 0) (ja jb 0) (jd none 0 0) (jd none 0 0);rw[<-D];clear D a0 z0;have H:=J.c6;refine bodyPost_ret (v:=jg #[.agg #[ja jb 0,ja jb 0,ja jb 0,ja jb 0,jd none 0 0,jd none 0 0],ja jb 4]) (by simp[results,Tryz.results104,go_sem,H]) rfl ?_;exact⟨(0),(0),(0),(0),4,rfl,M⟩
        ·have g0:=ai.o.c6;go_wp2_with fail;refine(Cg ⟨f,n5,e2,d3,[],[]⟩ 0 W5 (by simp) (by simp) none none 0 0 (xb _) (fun j x hj=>by simp at hj) (fun j x hj=>by simp at hj)).mono ?_;rintro e W6 ⟨rfl,hb⟩;have aG:=Lh (ai.o.below hb ai.o.lt);have V:=Lh (aa.o.below hb aa.o.lt);have aB:=Lh (al.o.trans (hb.mono al.o.size));clear hb ai aa al g0;obtain⟨v6,aE⟩: ∃q,q=Tt.serV ⟨f,n5,e2,d3,[],[]⟩:=⟨_,rfl⟩
         rw[<-aE];clear aE;by_cases h6:v6=0
         ·subst h6;have g0:=aG.o.c6;have a0:=fun i=>V.o.frozen i;have z0:=V.o.c6
          go_wp2_with fail;obtain⟨Y,D,J,M⟩:=CR V.o rfl aB.o E.o (ja jb f) (ja jb n5) (ja jb e2) (ja jb d3) (jd none 0 0) (jd none 0 0);rw[<-D];clear D a0 z0;have H:=J.c6;refine bodyPost_ret (v:=jg #[.agg #[ja jb f,ja jb n5,ja jb e2,ja jb d3,jd none 0 0,jd none 0 0],ja jb 0]) (by simp[results,Tryz.results104,go_sem,H]) rfl ?_;exact⟨(f),(n5),(e2),(d3),0,rfl,M⟩
         ·have aJ:(v6 !=0)=true:=by simp[h6]
          clear h6;have a0:=fun i=>V.o.frozen i;have z0:=V.o.c6
          go_wp2_with fail;obtain⟨Y,D,J,M⟩:=CR V.o rfl aB.o E.o (ja jb 0) (ja jb 0) (ja jb 0) (ja jb 0) (jd none 0 0) (jd none 0 0);rw[<-D];clear D a0 z0;have H:=J.c6;refine bodyPost_ret (v:=jg #[.agg #[ja jb 0,ja jb 0,ja jb 0,ja jb 0,jd none 0 0,jd none 0 0],ja jb 3]) (by simp[results,Tryz.results104,go_sem,H]) rfl ?_;exact⟨(0),(0),(0),(0),3,rfl,M⟩
section
variable {P:Program} {ops:Array Oper} {Q:Exit->Act->World->Prop}
end
theorem Mf(d start:Int)(q:ByteArray)(hq:q.data.toList=Tt.stampL d start):(q.extract 0 4).data.toList=Tt.d4 (Tt.yOf d).toNat/\(q.extract 4 6).data.toList=Tt.d2 (Tt.mOf d).toNat/\(q.extract 6 8).data.toList=Tt.d2 (Tt.dOf d).toNat/\(q.extract 9 11).data.toList=Tt.d2 (start / 60).toNat/\(q.extract 11 13).data.toList=Tt.d2 (start % 60).toNat:=by
 refine⟨?_,?_,?_,?_,?_⟩
 all_goals (rw[Lib.extract_data,hq];rfl)
theorem Kz{b g o cap lo n:Nat}{xs:List ByteArray}{z:ByteArray}{bad:Bool}{W W':World}{v:Value}{ys:List Value}(h:Bl b g o cap xs z bad W)(ho:W.ownsRow lo 3 1 v n ys)(hb:b<lo)(hg:g<lo)(hlo:lo<=W.heap.size)(u:Obj)(w:(W.alloc u).grownBy W' v.ownBlock):Bl b g o cap xs z bad W':=by
 have hq: ∀k,k<lo->W'.heap[k]?=W.heap[k]?:=fun k hk=>by
  rw[w.block k (by simp;omega) (fun e=>by have:=(ho.lt k e.symm).1;omega),Lib.alloc_old W _ k (by omega)]
 exact h.other (hq b hb) (hq g hg)
theorem Uq(b g o cap:Nat)(xs:List ByteArray)(z s:ByteArray)(ds:List Int)(start m:Int)(w:World)(aa:Bl b g o cap xs z false w)(hg:g<w.heap.size)(ay:3<b)(hL:CD w)(hm:w.cell? ⟨0,0,none⟩=some (ja jb m))
  (hs:s.data.toList=Tt.stampsL start ds) (hne:ds≠[]) (hd: ∀d∈ds,0<=d/\d<=36524) (h0:0<=start) (h1:start<1440) (hn:ds.length<=140):
  Calls Tryz.prog 102 #[jf (some ⟨b,0,none⟩),jc s] w fun e w'=> ∃v,e=jh (jg #[v,ja jb start])/\w'.ownsRow w.heap.size 3 1 v ds.length (ds.map fun d=>ja jb d)/\Bl b g o cap xs z false w'/\AO b w.heap.size w w':=by
 obtain⟨i0,hi,bj,bi,aX⟩:=info_parts Dy;have V:=aa.lt;have zs:s.size<=3000:=by
  have h2:=Tt.stampsL_len start ds;rw[<-hs,<-Lib.size_eq]at h2;omega
 have ar:=Lh (J4 hs hne hd h0 h1);have aC:=Lh (Lib.splitB_all ⟨#[44]⟩ (by decide) 0 (Lib.countB s ⟨#[44]⟩) s rfl);have HC:=Lh (show Lib.countB s ⟨#[44]⟩+1=ds.length from by rw[<-aC.o,ar.o,List.length_map]);have HD:=Lh hd;have bg:0<ds.length:=List.length_pos_iff.2 hne;obtain⟨n,ag⟩: ∃n,n=ds.length:=⟨_,rfl⟩
 have HN:=Lh ag;have ai:=Lh aa;have HL:=Lh hL;clear hs hd hne aa hL;go_enter Tryz.func102,Tryz.ntmps102;go_wp2_with fail;refine(Tryz.strings_Split s ⟨#[44]⟩ m w (by omega) hm (by decide)).mono ?_;rintro e w1 ⟨rfl,hw⟩;rw[ar.o]at hw;rw[HC.o,<-ag];rw[<-ag]at hn bg;obtain⟨G,hG⟩: ∃G,G=w.heap.size:=⟨_,rfl⟩
 have aD:=Lh (show Af G ((ds.map fun d=>str (Tt.stampL d start)).map Value.string).toArray 9 w1 from by rw[hw,hG];exact Af.new w _ 9);have hb1:Below w.heap.size w w1:=by rw[hw];exact Aa w _
 have aL:=Lh (ai.o.below hb1 hg);have aN:=Lh (AO.of_below (b:=b) hb1);have av:=Lh (show w1.ownsRow w.heap.size 3 1 (jd none 0 0) 0 (((ds.take 0).map fun d=>ja jb d))from⟨rfl,.inl ⟨rfl,rfl⟩⟩);have bn:b<G:=by omega
 rw[<-hG];clear hw hb1 ar aC HC ai ag hG;go_wp2_with fail;go_loopw [4,5,13] (fun v t i wr=> ∃(k:Nat) (st:Int),i=ja jb k/\k<=n/\t=ja jb st/\(k=0∨st=start)/\Hid (wr.ownsRow w.heap.size 3 1 v k ((ds.take k).map fun d=>ja jb d))/\Hid (Af G ((ds.map fun d=>str (Tt.stampL d start)).map Value.string).toArray 9 wr)/\Hid (Bl b g o cap xs z false wr)/\Hid (AO b w.heap.size w wr)) (fun _ _ i _=>n - (intOf i).toNat)
 case atStart=>exact⟨0,0,rfl,xb _,rfl,.inl rfl,av,aD,aL,aN⟩
 case round=>
  clear av aD aL aN;obtain⟨k,st,rfl,hk,rfl,aI,HO,ap,HP,HK⟩:=hrel;have a7:=HK.o.size;by_cases aQ:k<n
  ·have hx:k<ds.length:=by rw[<-HN.o];exact aQ
   have aA:(k:Int)<n:=by omega
   obtain⟨d,ae⟩: ∃d,d=ds[k]:=⟨_,rfl⟩
   have Z:=HD.o d (by rw[ae];exact List.getElem_mem hx);have HT:=Lh (show ds.take (k+1)=ds.take k++[d]from by rw[List.take_succ_eq_append_getElem hx,ae]);obtain⟨q,hq⟩: ∃q,q=str (Tt.stampL d start):=⟨_,rfl⟩
   have hcell:wr.cell? ⟨G,k,none⟩=some (jc q):=by rw[ap.o.cell k,hq,ae];simp[hx]
   have zq:q.size=15:=by rw[hq];exact Rj (Tt.stampL_len _ _)
   obtain⟨p1,p2,p3,p4,p5⟩:=Mf d start q (by rw[hq];rfl);obtain⟨y0,y1,m0,m1,d0,d1⟩:=Tt.date_toNat Z.1 Z.2;have am:=(Tt.date_some Z.1 Z.2).day;obtain⟨Y,hY⟩: ∃Y:Int,Y=Tt.yOf d:=⟨_,rfl⟩
   obtain⟨M,hM⟩: ∃M:Int,M=Tt.mOf d:=⟨_,rfl⟩
   obtain⟨D,hD⟩: ∃D:Int,D=Tt.dOf d:=⟨_,rfl⟩
   rw[<-hY,<-hM,<-hD]at am;rw[<-hY]at y0 y1 p1;rw[<-hM]at m0 m1 p2;rw[<-hD]at d0 d1 p3;obtain⟨H,hH⟩: ∃H:Int,H=start / 60:=⟨_,rfl⟩
   obtain⟨N,aJ⟩: ∃N:Int,N=start % 60:=⟨_,rfl⟩
   rw[<-hH]at p4;rw[<-aJ]at p5;have bl:60*H+N=start:=by omega
   have bo:0<=H/\H<24/\0<=N/\N<60:=by omega
   have ax:=Lh am;have aB:=Lh (show Lib.atoi (q.extract 0 4).data.toList=some Y from by rw[p1,Tt.atoi_d4 (by omega) (by omega)];congr 1;omega);have aw:=Lh (show Lib.atoi (q.extract 4 6).data.toList=some M from by rw[p2,Tt.atoi_d2 _ (by omega)];congr 1;omega);have aH:=Lh (show Lib.atoi (q.extract 6 8).data.toList=some D from by rw[p3,Tt.atoi_d2 _ (by omega)];congr 1;omega);have a8:=Lh (show Lib.atoi (q.extract 9 11).data.toList=some H from by rw[p4,Tt.atoi_d2 _ (by omega)];congr 1;omega);have aV:=Lh (show Lib.atoi (q.extract 11 13).data.toList=some N from by rw[p5,Tt.atoi_d2 _ (by omega)];congr 1;omega);have aS:(q.extract 0 4).size<=18:=by rw[Au q 0 4 (by omega)];decide
   have be:(q.extract 4 6).size<=18:=by rw[Au q 4 6 (by omega)];decide
   have aY:(q.extract 6 8).size<=18:=by rw[Au q 6 8 (by omega)];decide
   have bc:(q.extract 9 11).size<=18:=by rw[Au q 9 11 (by omega)];decide
   have bf:(q.extract 11 13).size<=18:=by rw[Au q 11 13 (by omega)];decide
   have aP:=Lh (show b<wr.heap.size from by omega);have E:=Lh (show g<wr.heap.size from by omega);have T:=HP;have bk:=Lh (HL.o.below ay (HK.o.below (xd b) (xe V)));clear ae hq p1 p2 p3 p4 p5 am hY hM hD hH aJ Z;go_upto_region 7 with(fail)
   refine AH (GR.inv (I:=Bl b g o cap xs z false) (b:=b) (g:=g) fun w hg h=>h.below (Ac (Below.refl _ w)) hg) 17 [gE _,gE _,gE _,gE _,gE _,gE _,gE _,gE _,gE _,gE _,gE _,gE _,gE _,gE _,gE _,gE _,gE _] rfl EA ⟨qE,qE,qE,by
    intro v x F h QQ K;have J:=Lh (show Bl b g o cap xs z false x/\AO b wr.heap.size wr x from⟨F.2 E.o T.o,F.1⟩);simp only[A2,A1]at h;obtain⟨⟨_,e0,_⟩,⟨_,e2,_⟩, -⟩:=h;simp only[e0,e2]at K ⊢;go_wp2_with fail;refine(Cy b g o cap xs z (q.extract 0 4) Y aS aB.o x J.o.1 (xa E.o J.o.2.size)).mono ?_;rintro y1 x1 ⟨rfl,A,hb1⟩;have O:gI (Bl b g o cap xs z false) b g x x1:=⟨hb1,fun _ _=>A⟩
    clear hb1 A;go_wp2_with fail;exact K _ _ rfl (.inr O),
    qE,qE,qE,by
    intro v x F h QQ K;have J:=Lh (show Bl b g o cap xs z false x/\AO b wr.heap.size wr x from⟨F.2 E.o T.o,F.1⟩);simp only[A2,A1]at h;obtain⟨⟨_,e4,_⟩,⟨_,e6,_⟩, -⟩:=h;simp only[e4,e6]at K ⊢;go_wp2_with fail;refine(Cy b g o cap xs z (q.extract 4 6) M be aw.o x J.o.1 (xa E.o J.o.2.size)).mono ?_;rintro y1 x1 ⟨rfl,A,hb1⟩;have O:gI (Bl b g o cap xs z false) b g x x1:=⟨hb1,fun _ _=>A⟩
    clear hb1 A;go_wp2_with fail;exact K _ _ rfl (.inr O),
    qE,qE,qE,by
    intro v x F h QQ K;have J:=Lh (show Bl b g o cap xs z false x/\AO b wr.heap.size wr x from⟨F.2 E.o T.o,F.1⟩);simp only[A2,A1]at h;obtain⟨⟨_,e8,_⟩,⟨_,a6,_⟩, -⟩:=h;simp only[e8,a6]at K ⊢;go_wp2_with fail;refine(Cy b g o cap xs z (q.extract 6 8) D aY aH.o x J.o.1 (xa E.o J.o.2.size)).mono ?_;rintro y1 x1 ⟨rfl,A,hb1⟩;have O:gI (Bl b g o cap xs z false) b g x x1:=⟨hb1,fun _ _=>A⟩
    clear hb1 A;go_wp2_with fail;exact K _ _ rfl (.inr O),
    by
    intro v x F h QQ K;have J:=Lh (show Bl b g o cap xs z false x/\AO b wr.heap.size wr x from⟨F.2 E.o T.o,F.1⟩);simp only[A2,A1]at h;obtain⟨⟨_,e3,_⟩,⟨_,e7,_⟩,⟨_,bh,_⟩, -⟩:=h;simp only[e3,e7,bh]at K ⊢;go_wp2_with fail;refine(Ox Y M D x (bk.o.below ay (J.o.2.below (xd b) (xe aP.o))) (by omega) (by omega)).mono ?_;rintro y1 x1 ⟨rfl,rfl⟩;rw[ax.o];go_wp2_with fail;exact K _ _ rfl (.inl rfl),
    qE,qE,qE,qE,trivial⟩ ?_
   intro v x F h;have J:=Lh (show Bl b g o cap xs z false x/\AO b wr.heap.size wr x from⟨F.2 E.o T.o,F.1⟩);simp only[Dt,Nat.reduceAdd]at h;obtain⟨-, -, -, -, -, -, -, -, -, -, -, -, -, -, -,⟨_,aT,_⟩,⟨_,aZ,_⟩, -⟩:=h;refine DE fun QQ X=>?_
   have HQ:=Lh X;clear X;simp only[aT,aZ,Ci];go_wp2_with fail;rw[HQ.o];refine Cm (fun x=>(_:Value)=ja jb d/\(_:Value)=ja jb 0/\Bl b g o cap xs z false x/\AO b wr.heap.size wr x) (by exact⟨rfl,rfl,J.o.1,J.o.2⟩) ?_;clear HQ;intro x U;obtain⟨-, -,hp,hk⟩:=U;have aE:=Lh (BR HO.o (Kept.but (B:=w.heap.size) hk V));have aG:=Lh (ap.o.but hk (by omega));have aj:=Lh (Ba HK.o hk a7);have c2:=hp.c2;have f2:=hp.f0 2;have bm:=aj.o.size;clear HO ap HP HK hk;go_upto_region 9 with(fail);obtain⟨W8,ac⟩: ∃W,W=x.setCell ⟨b,2,none⟩ (je false):=⟨_,rfl⟩
   rw[<-ac];have af:B7 b x W8:=by rw[ac];exact AN x b 2 _
   have az:=Lh (show Bl b g o cap xs z false W8 from by rw[ac];exact hp.set2 false);have ab:=Lh (BR aE.o (Kept.only (B:=w.heap.size) af V));have aM:=Lh (aG.o.only af (by omega));have aq:=Lh (aj.o.trans af.but);have aK:=aq.o.size;clear ac af hp c2 f2 aE aG aj;go_wp2_with (at_builtin;refine wpList_append_own_at _ rfl (.tmp 51) (.tmp 53) 22 rfl w.heap.size 3 i0 (ja jb 0) 1 8 Tryz.underlying22 hi bj bi aX rfl (by decide) _ _ _ rfl (ab.o.alloc _) ⟨W8.heap.size,0,none⟩ 1 1 [ja jb d] rfl rfl (Bq _ _ _) (by intro u hu;simp at hu;subst hu;rfl) (by unfold maxLen;omega) (by omega) (by simp;omega) ?_);intro v9 W9 ah R _ aW;have aO:=Lh (show W9.ownsRow w.heap.size 3 1 v9 (k+1) ((ds.take (k+1)).map fun d=>ja jb d)from by rw[HT.o,List.map_append,List.map_take];exact ah);have aF:=Lh ((aM.o.alloc _).grown (ab.o.alloc _) R (by decide));have au:=Lh (Kz az.o ab.o V hg aK _ R);have al:=Lh (D4 (aq.o.trans (AO.of_below ((Aa W8 _).mono aK))) (ab.o.alloc _) (by simp;omega) R);clear ah R aW ab aM az aq aB aw aH ax HT;have ba:=al.o.size;by_cases ak:k=0
   ·have q0:((k:Int)==0)=true:=by rw[ak];rfl
    clear ak;have aP:=Lh (show b<W9.heap.size from by omega);have E:=Lh (show g<W9.heap.size from by omega);have T:=au;go_upto_region 11 with(fail)
    refine AH (GR.inv (I:=Bl b g o cap xs z false) (b:=b) (g:=g) fun w hg h=>h.below (Ac (Below.refl _ w)) hg) 9 [gE _,gE _,gE _,gE _,gE _,gE _,gE _,gE _,gE _] rfl EA ⟨qE,qE,qE,by
     intro v x F h QQ K;have J:=Lh (show Bl b g o cap xs z false x/\AO b W9.heap.size W9 x from⟨F.2 E.o T.o,F.1⟩);simp only[A2,A1]at h;obtain⟨⟨_,e0,_⟩,⟨_,e2,_⟩, -⟩:=h;simp only[e0,e2]at K ⊢;go_wp2_with fail;refine(Cy b g o cap xs z (q.extract 9 11) H bc a8.o x J.o.1 (xa E.o J.o.2.size)).mono ?_;rintro y1 x1 ⟨rfl,A,hb1⟩;have O:gI (Bl b g o cap xs z false) b g x x1:=⟨hb1,fun _ _=>A⟩
     clear hb1 A;go_wp2_with fail;exact K _ _ rfl (.inr O),
     qE,qE,qE,qE,by
     intro v x F h QQ K;have J:=Lh (show Bl b g o cap xs z false x/\AO b W9.heap.size W9 x from⟨F.2 E.o T.o,F.1⟩);simp only[A2,A1]at h;obtain⟨⟨_,e5,_⟩,⟨_,e7,_⟩, -⟩:=h;simp only[e5,e7]at K ⊢;go_wp2_with fail;refine(Cy b g o cap xs z (q.extract 11 13) N bf aV.o x J.o.1 (xa E.o J.o.2.size)).mono ?_;rintro y1 x1 ⟨rfl,A,hb1⟩;have O:gI (Bl b g o cap xs z false) b g x x1:=⟨hb1,fun _ _=>A⟩
     clear hb1 A;go_wp2_with fail;exact K _ _ rfl (.inr O),
     trivial⟩ ?_
    intro v x F h;have J:=Lh (show Bl b g o cap xs z false x/\AO b W9.heap.size W9 x from⟨F.2 E.o T.o,F.1⟩);simp only[Dt,Nat.reduceAdd]at h;obtain⟨-, -, -, -,⟨_,e4,_⟩, -, -, -,⟨_,e8,_⟩, -⟩:=h;refine DE fun QQ X=>?_
    have HQ:=Lh X;clear X;simp only[e4,e8,Ci];go_wp2_with fail;rw[HQ.o];refine Cm (fun x=>(_:Value)=ja jb start/\Bl b g o cap xs z false x/\AO b W9.heap.size W9 x) (by exact⟨rfl,J.o.1,J.o.2⟩) ?_;clear HQ;intro x U;obtain⟨⟨⟩,hp,hk⟩:=U;go_wp2_with fail;go_roundw
    case rel=>exact⟨k+1,start,by go_num,by omega,rfl,.inr rfl,Lh (BR aO.o (Kept.but (B:=w.heap.size) hk V)),Lh (aF.o.but hk (by omega)),Lh hp,Lh (Ba al.o hk ba)⟩
    case measure=>simp[intOf];omega
   ·have q0:((k:Int)==0)=false:=beq_eq_false_iff_ne.2 (by omega);go_wp2_with fail;go_roundw
    case rel=>exact⟨k+1,st,by go_num,by omega,rfl,.inr (aI.resolve_left ak),aO,aF,au,al⟩
    case measure=>simp[intOf];omega
  ·have aR:k=n:=by omega
   have aA: ¬(k:Int)<n:=by omega
   have bp:st=start:=aI.resolve_left (by omega);have aU:=Lh (show wr.ownsRow w.heap.size 3 1 u4 ds.length (ds.map fun d=>ja jb d)from by have h:=HO.o;rw[aR,HN.o,List.take_length]at h;exact h);go_wp2_with fail;go_ret2;exact⟨_,rfl,aU.o,HP.o,HK.o⟩
structure AZ (b g G R:Nat) (xs:List ByteArray) (z:ByteArray) (cs rs:Array Value) (w0 w:World):Prop where
 par: ∃o cap,Bl b g o cap xs z false w
 ev:Af G cs 61 w
 res:Af R rs 61 w
 but:AO b w0.heap.size w0 w
theorem AZ.only{b g G R:Nat}{xs ys:List ByteArray}{z:ByteArray}{cs rs:Array Value}{w0 w w':World}(h:AZ b g G R xs z cs rs w0 w)(A:G≠b)(D:R≠b)(hp: ∃o cap,Bl b g o cap ys z false w')(ho:B7 b w w'):AZ b g G R ys z cs rs w0 w':=
 ⟨hp,h.ev.only ho A,h.res.only ho D,h.but.trans ho.but⟩
theorem AZ.step{b g G R:Nat}{xs:List ByteArray}{z:ByteArray}{cs rs:Array Value}{w0 w w':World}(h:AZ b g G R xs z cs rs w0 w)(A:G≠b)(D:R≠b)(hp: ∃o cap,Bl b g o cap xs z false w')(ho:AO b w.heap.size w w'):AZ b g G R xs z cs rs w0 w':=
 ⟨hp,h.ev.but ho A,h.res.but ho D,Ba h.but ho h.but.size⟩
theorem Bl.set{b g o cap:Nat}{xs:List ByteArray}{z:ByteArray}{bad:Bool}{w:World}(h:Bl b g o cap xs z bad w){G:Nat}(hb:G≠b)(hg:G≠g)(i:Nat)(u:Value):Bl b g o cap xs z bad (w.setCell ⟨G,i,none⟩ u):=
 h.other (by simp[World.setCell,Array.getElem?_modify,hb]) (by simp[World.setCell,Array.getElem?_modify,hg])
theorem AZ.set{b g G R:Nat}{xs:List ByteArray}{z:ByteArray}{cs rs:Array Value}{w0 w:World}(h:AZ b g G R xs z cs rs w0 w)(A:G≠b)(hg:G≠g)(D:R≠G)(E:w0.heap.size<=G)(i:Nat)(u:Value):AZ b g G R xs z (cs.setIfInBounds i u) rs w0 (w.setCell ⟨G,i,none⟩ u):=by
 obtain⟨o,cap,hp⟩:=h.par;refine⟨⟨o,cap,hp.set A hg i u⟩,h.ev.set i u,h.res.only (AN w G i u) D,h.but.trans ?_⟩;exact⟨rfl,rfl,rfl,by simp[World.setCell],fun k hk _=>by simp[World.setCell,Array.getElem?_modify,show ¬G=k by omega]⟩
theorem Bg{b g G R:Nat}{k l:List UInt8}{xs:List ByteArray}{z K:ByteArray}{cs rs:Array Value}{w0 w:World}(A:K.data.toList=k)(h:AZ b g G R (str (k++l)::xs) z cs rs w0 w)(E:G≠b)(F:R≠b):
  Calls Tryz.prog 70 #[jf (some ⟨b,0,none⟩),jc K] w fun e w'=>e=jh (jc (str l))/\AZ b g G R xs z cs rs w0 w'/\B7 b w w':=by
 obtain⟨o,cap,hp⟩:=h.par;have D:=CW b g o cap _ xs z K false w hp (by rw[A];exact BE k l);refine D.mono ?_;rintro e w' ⟨rfl,hq,ho⟩;refine⟨?_,h.only E F hq ho,ho⟩;rw[A,show(str (k++l)).data.toList=k++l from rfl,CV];rfl
theorem IQ{b g G R:Nat}{k l:List UInt8}{xs:List ByteArray}{z K:ByteArray}{cs rs:Array Value}{w0 w:World}(D:K.data.toList=k)(h:AZ b g G R (str (k++l)::xs) z cs rs w0 w):
  Calls Tryz.prog 72 #[jf (some ⟨b,0,none⟩),jc K] w fun e w'=>e=jh (jg #[jc (str l),je true])/\w'=w:=by
 obtain⟨o,cap,hp⟩:=h.par;have A:=Dv b g o cap _ xs z K false w hp;rw[D,show(str (k++l)).data.toList=k++l from rfl,CV,BE]at A;exact A
theorem Qa{b g G R:Nat}{x:ByteArray}{xs:List ByteArray}{z K:ByteArray}{cs rs:Array Value}{w0 w:World}(h:AZ b g G R (x::xs) z cs rs w0 w)(hx:Lib.hasPrefix x.data.toList K.data.toList=false):
  Calls Tryz.prog 72 #[jf (some ⟨b,0,none⟩),jc K] w fun e w'=> ∃q,e=jh (jg #[jc q,je false])/\w'=w:=by
 obtain⟨o,cap,hp⟩:=h.par;have A:=Dv b g o cap _ xs z K false w hp;rw[hx]at A;exact A.mono fun e w' hh=>⟨_,hh⟩
theorem MB{b g G R:Nat}{xs:List ByteArray}{z:ByteArray}{cs rs:Array Value}{w0 w:World}{n:Int}(h:AZ b g G R xs z cs rs w0 w)(hg:g<w0.heap.size)(A:G≠b)(D:R≠b)(F:0<=n)(E:n<=9999):
  Calls Tryz.prog 71 #[jf (some ⟨b,0,none⟩),jc (str (Lib.decDigits n.toNat))] w fun e w'=>e=jh (ja jb n)/\AZ b g G R xs z cs rs w0 w'/\AO b w.heap.size w w':=by
 obtain⟨o,cap,hp⟩:=h.par;have hl:(str (Lib.decDigits n.toNat)).size<=18:=by
  rw[show(str (Lib.decDigits n.toNat)).size=(Lib.decDigits n.toNat).length from size_mk _];exact Nat.le_trans (Tt.dec_len 4 _ (by omega)) (by decide)
 refine(Cy b g o cap xs z _ n hl (by rw[show(str (Lib.decDigits n.toNat)).data.toList=Lib.decDigits n.toNat from rfl,Tt.atoi_dec];congr 1;omega) w hp (xa hg h.but.size)).mono ?_;rintro e w' ⟨rfl,hq,ho⟩;exact⟨rfl,h.step A D ⟨_,_,hq⟩ ho,ho⟩
theorem Kq{b g G R:Nat}{xs:List ByteArray}{z s:ByteArray}{cs rs:Array Value}{w0 w:World}(h:AZ b g G R xs z cs rs w0 w)(hg:g<w0.heap.size)(D:G≠b)(E:R≠b)(hs:s.size<=1000):
  Calls Tryz.prog 105 #[jf (some ⟨b,0,none⟩),jc (str (Tt.esc s.data.toList))] w fun e w'=>e=jh (jc s)/\AZ b g G R xs z cs rs w0 w'/\AO b w.heap.size w w':=by
 obtain⟨o,cap,hp⟩:=h.par;have hl:(str (Tt.esc s.data.toList)).size<=70368744177664:=by
  rw[show(str (Tt.esc s.data.toList)).size=(Tt.esc s.data.toList).length from size_mk _];have A:=Tt.esc_length s.data.toList;rw[<-Lib.size_eq]at A;omega
 refine(OP b g o cap xs z _ false w hp (xa hg h.but.size) hl).mono ?_;rintro e w' ⟨rfl,hq,ho⟩;have hu:B8 (str (Tt.esc s.data.toList)).data.toList=s:=by
  show(⟨((Tt.unesc (Tt.esc s.data.toList)).getD []).toArray⟩:ByteArray)=s
  rw[Tt.unesc_esc];exact Lib.mk_data s
 have hv:FV (str (Tt.esc s.data.toList)).data.toList=true:=by
  show(Tt.unesc (Tt.esc s.data.toList)).isSome=true
  rw[Tt.unesc_esc];rfl
 rw[hv]at hq;exact⟨by rw[hu],h.step D E ⟨_,_,hq⟩ ho,ho⟩
theorem Hh{b g G R:Nat}{xs:List ByteArray}{z:ByteArray}{cs rs:Array Value}{w0 w:World}{ds:List Int}{start m:Int}(h:AZ b g G R xs z cs rs w0 w)(hg:g<w0.heap.size)(F:G≠b)(H:R≠b)(A:3<b)(E:b<=w0.heap.size)(J:CD w0)(hm:w0.cell? ⟨0,0,none⟩=some (ja jb m))
  (hne:ds≠[]) (hd: ∀d∈ds,0<=d/\d<=36524) (O:0<=start) (M:start<1440) (hn:ds.length<=140):
  Calls Tryz.prog 102 #[jf (some ⟨b,0,none⟩),jc (str (Tt.stampsL start ds))] w fun e w'=> ∃v,e=jh (jg #[v,ja jb start])/\w'.ownsRow w.heap.size 3 1 v ds.length (ds.map fun d=>ja jb d)/\AZ b g G R xs z cs rs w0 w'/\AO b w.heap.size w w':=by
 obtain⟨o,cap,hp⟩:=h.par;have hb:=h.but.below (xd b) E;refine(Uq b g o cap xs z _ ds start m w hp (xa hg h.but.size) A (J.below A hb) ((hb.cell (p:=⟨0,0,none⟩) (by show 0<b;omega)).trans hm) rfl hne hd O M hn).mono ?_;rintro e w' ⟨v,rfl,D,hq,ho⟩;exact⟨v,rfl,D,h.step F H ⟨_,_,hq⟩ ho,ho⟩
