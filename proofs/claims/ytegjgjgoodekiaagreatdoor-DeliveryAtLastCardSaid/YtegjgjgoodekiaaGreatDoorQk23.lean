/- The order of sessions in a published timetable: contracts of the program's and the reference's. A published timetable's error: changes.Valid (126) and the reference's Valid (151). The feed of a timetable's versions: what feed.Make answers. Lists of lists of sessions in memory. No function of the program in sight. Events in a map that the call makes, by their identifiers (map[string]api.Event), and a set of texts (map[string]bool). No function of the program in sight. Condition: none. Events in a map, against ascending lists of events: plain facts on lists of events with their list values. No program in sight. What the instants of a session's event are, in a valid zone: one a day, at which clocks show the time of the slot unless they skip it. No program in sight. feed.advance: the events of a timetable, in a map, brought to its next version. Toward the reference's Make: where its feed stands in memory, step by step. No function of the program in sight. -/
import Derived.Test.YtegjgjgoodekiaaGreatDoorQk22
import Derived.Test.YtegjgjgoodekiaaGreatDoorQk20
import Derived.Test.YtegjgjgoodekiaaGreatDoorQk8
import Derived.Deep.RegionHeld3
import Derived.Test.YtegjgjgoodekiaaGreatDoorQk12
import Derived.Test.YtegjgjgoodekiaaGreatDoorQk21
import Derived.Maps.RangeWalk
import Derived.Test.YtegjgjgoodekiaaGreatDoorQk9
import Derived.RegionTactic
import Derived.ChangeAlike
import Derived.BigRegion
import Derived.Test.YtegjgjgoodekiaaGreatDoorQk19
import Derived.Test.YtegjgjgoodekiaaGreatDoorQk6
import Derived.Maps.OwnRows
import Derived.Test.YtegjgjgoodekiaaGreatDoorQk10
open Go.Value renaming int->ja,string->jc,slice->jd,bool->je,tuple->jg
open Go.IntKind renaming i64->jb
open Go.Ending renaming returned->jh
open Go.Obj renaming cells->ji
open List renaming getElem?_eq_some_iff->xa,getElem?_eq_getElem->xb,mem_cons->xc,length_take->xf,mem_of_getElem?->xg,length_append->xh,drop_eq_getElem_cons->xk,mem_cons_self->xm,length_cons->xo,map_append->xp,length_map->xq
open Nat renaming zero_le->xd,le_refl->xe,le_of_lt->xi,add_zero->xl,lt_of_lt_of_le->xn
open Go.World.ownsRow renaming alloc->xj,cells->xr
set_option maxRecDepth 100000
set_option maxHeartbeats 40000000
namespace Go.Proofs.YtegjgjgoodekiaaGreatDoor
open Go.RowKit
def Ez(w:Int):Nat->List Int
 | 0=>[]
 | k+1=>Ez w k++(if Tt.bit w (k:Nat)=true then[(k:Int)+1]else[])
theorem LR(w:Int): ∀k:Nat,(Ez w k).length<=k
 | 0=>xe _
 | k+1=>by
  rw[Ez,xh];have:=LR w k;split<;>simp<;>omega
theorem MJ(w:Int): ∀(n k:Nat),(∃i:Nat,k<=i/\i<k+n/\Tt.bit w (i:Nat)=true)->k<=Tt.lowB w n k/\Tt.bit w (Tt.lowB w n k:Nat)=true/\ ∀i:Nat,k<=i->i<Tt.lowB w n k->Tt.bit w (i:Nat)=false
 | 0,k,⟨i,D,A,_⟩=>by omega
 | n+1,k,⟨i,D,A,h3⟩=>by
  rw[Tt.lowB];split
  ·rename_i hb
   exact⟨xe _,hb,fun i D A=>by omega⟩
  ·rename_i hb
   have E:i≠k:=fun e=>hb (by rw[<-e];exact h3)
   obtain⟨g1,g2,g3⟩:=MJ w n (k+1) ⟨i,by omega,by omega,h3⟩;refine⟨by omega,g2,fun j D A=>?_⟩;rcases Nat.lt_or_ge k j with h | h
   ·exact g3 j h A
   ·obtain rfl:j=k:=by omega
    simpa using hb
theorem Hm{w:Int}{m:Nat}(h: ∀i:Nat,i<m->Tt.bit w (i:Nat)=false): ∀k:Nat,k<=m->Ez w k=[]
 | 0,_=>rfl
 | k+1,hk=>by rw[Ez,Hm h k (by omega),if_neg (by rw[h k (by omega)];decide)];rfl
theorem Km{w:Int}{m:Nat}(h: ∀i:Nat,i<m->Tt.bit w (i:Nat)=false)(hm:Tt.bit w (m:Nat)=true): ∀d:Nat,∃r,Ez w (m+1+d)=((m:Int)+1)::r
 | 0=>⟨[],by rw[xl,Ez,Hm h m (xe _),if_pos hm];rfl⟩
 | d+1=>by
  obtain⟨r,hr⟩:=Km h hm d;exact⟨r++_,by rw[show m+1+(d+1)=(m+1+d)+1 by omega,Ez,hr];rfl⟩
theorem NF{w:Int}(h:Tt.weeksB w 20=true): ∃r,Ez w 20=((Tt.lowB w 20 0:Nat)+1:Int)::r:=by
 have hs:=Tt.weeks_some h;have hx: ∃i:Nat,0<=i/\i<0+20/\Tt.bit w (i:Nat)=true:=by
  apply Classical.byContradiction
  intro hc;apply hs;intro i hi;cases hb:Tt.bit w (i:Nat)with
  | false=>rfl
  | true=>exact absurd ⟨i,xd _,by omega,hb⟩ hc
 obtain⟨_,g2,g3⟩:=MJ w 20 0 hx;have hl:=Tt.low_week h;obtain⟨r,hr⟩:=Km (fun i hi=>g3 i (xd _) hi) g2 (19 - Tt.lowB w 20 0);exact⟨r,by rw[<-hr];congr 1;omega⟩
theorem KU{g:Nat}{ty:TypeId}{cs:Array Value}{w0 w:World}(h:Af g cs ty w)(hb:Below w0.heap.size w0 w)(hg:w0.heap.size<=g)(A:List Value)(hl:cs.size=A.length): ∃Y,Y=setAll w g 0 A/\Af g A.toArray ty Y/\Below w0.heap.size w0 Y:=by
 refine⟨_,rfl,?_,Es hg A 0 w hb⟩;have:=Af.puts (g:=g) (ty:=ty) A [] cs.toList [] w (by simpa using h) (by simpa using hl);simpa using this
theorem Q7(s:Int)(w:World)(hs:Tt.weeksB s 20=true):Calls Tryz.prog 118 #[ja jb s] w fun e w'=> ∃v,e=jh v/\Ah w.heap.size w' v (Ez s 20)/\Below w.heap.size w w':=by
 obtain⟨i0,hi,Z,U,M⟩:=info_parts Dy;obtain⟨ai,af⟩:=Tt.weeks_bd hs;have Y:=Lh (ED s 20 w);rw[hs]at Y;have O:=Lh (fun k:Int=>LK s k (by omega) (by omega));clear hs;go_enter Tryz.func118,Tryz.ntmps118;go_wp2_with fail;refine Y.o.mono ?_;clear Y;rintro e w1 ⟨rfl,hx⟩;rw[hx];clear hx w1;go_wp2_with fail;go_loopw [3,4] (fun rv R wr=> ∃k:Nat,k<=20/\R=ja jb ((k:Int)+1)/\Hid (Ah w.heap.size wr rv (Ez s k))/\Hid (Below w.heap.size w wr)) (fun _ R _=>30 - (intOf R).toNat)
 case atStart=>exact⟨0,by omega,rfl,Lh (Ah.nil _ _),Lh (Below.refl _ _)⟩
 case round=>
  obtain⟨k,hk,rfl,F,H⟩:=hrel;by_cases ah:k<20;rotate_left
  ·obtain rfl:k=20:=by omega
   go_wp2_with fail;go_ret;exact⟨_,rfl,F.o,H.o⟩
  have ab:(k:Int)+1<=20:=by omega
  have ac:(0:Int)<=(k:Int):=by omega
  have aa:(k:Int)<20:=by omega
  have ae: ¬s<0:=by omega
  have A:=O.o (k:Int);rw[show((k:Int)).toNat=k from Int.toNat_natCast k]at A;obtain⟨b,hb⟩: ∃b,b=Tt.bit s (k:Int):=⟨_,rfl⟩
  rw[<-hb]at A;have G:=Lh hb;clear hb;cases b
  ·have A:(bits .and .i64 (s / 2 ^ k) 1==1)=false:=A;have T:=Lh (show Ez s (k+1)=Ez s k from by rw[Ez,if_neg (by rw[<-G.o];decide),List.append_nil]);go_wp2_with fail;go_roundw
   case rel=>exact⟨k+1,by omega,by go_num,Lh (by rw[T.o];exact F.o),H⟩
   case measure=>simp[intOf];omega
  ·have A:(bits .and .i64 (s / 2 ^ k) 1==1)=true:=A;have T:=Lh (show Ez s (k+1)=Ez s k++[(k:Int)+1]from by rw[Ez,if_pos G.o.symm]);have aj:=LR s k;have ag:=H.o.size;obtain⟨pr,cr,hv⟩:=Ah.slice F.o;subst hv;go_wp2_with (at_builtin;refine wpList_append_own_at _ rfl (.tmp 19) (.tmp 21) 22 rfl w.heap.size 3 i0 (ja jb 0) 1 8 Tryz.underlying22 hi Z U M rfl (by decide) _ _ _ rfl (xj F.o _) ⟨wr.heap.size,0,none⟩ 1 1 [ja jb ((k:Int)+1)] rfl rfl (Bq _ _ _) (by intro u hu;simp at hu;subst hu;rfl) (by unfold maxLen;omega) (by omega) (by simp;omega) ?_);intro v' x8 D E _ V;have J:=Lh (Ak (H.o.trans ((Aa wr _).mono H.o.size)) (xj F.o _) (xe _) (by simp;omega) E);have X:=Lh (show Ah w.heap.size x8 v' (Ez s (k+1))from by rw[T.o];exact Ah.snoc D);clear E D V;go_wp2_with fail;go_roundw
   case rel=>exact⟨k+1,by omega,by go_num,X,J⟩
   case measure=>simp[intOf];omega
theorem RY(s:Az)(w:World)(hs:Tt.weeksB s.tim.weeks 20=true):Calls Tryz.prog 88 #[ja jb s.tim.weeks] w fun e w'=>e=jh (ja jb (N9 s))/\Below w.heap.size w w':=by
 have A:=Lh (Q7 s.tim.weeks w hs);obtain⟨r,hr⟩:=NF hs;rw[hr]at A;have e:((Tt.lowB s.tim.weeks 20 0:Nat)+1:Int)=N9 s:=rfl;rw[e]at A;obtain⟨m,hm⟩: ∃m,m=N9 s:=⟨_,rfl⟩
 rw[<-hm]at A ⊢;clear hs hr e hm;go_enter Tryz.func88,Tryz.ntmps88;go_wp2_with fail;refine A.o.mono ?_;clear A;rintro e H ⟨v,rfl,hv,hb⟩;have G:=Lh hb;clear hb;obtain⟨ao,c,D,hi⟩:=hv.ints;subst D;obtain⟨b,o,ha,E,hc⟩:=hi.form (by simp);subst ha;have c0:=hc 0 m rfl;clear hc hi hv;simp only[xo];have F:(0:Int)<(r.length:Int)+1:=by omega
 rw[xl]at c0;go_wp2_with fail;go_ret;exact⟨rfl,G.o⟩
theorem QZ(D A:Az)(w:World)(ha:Tt.weeksB D.tim.weeks 20=true)(hb:Tt.weeksB A.tim.weeks 20=true):Calls Tryz.prog 60 #[Cv D,Cv A] w fun e w'=>e=jh (je (Q0 D A))/\Below w.heap.size w w':=by
 obtain⟨X,hX⟩: ∃x,x=w.heap.size:=⟨_,rfl⟩
 obtain⟨Y,hY⟩: ∃x,x=w.heap.size+1:=⟨_,rfl⟩
 obtain⟨w0,H⟩: ∃x,x=(w.alloc (ji #[jc D.cls,ja jb D.tim.weeks,ja jb D.tim.day,ja jb D.tim.start,ja jb D.tim.len,jc D.room] 93)).alloc (ji #[jc A.cls,ja jb A.tim.weeks,ja jb A.tim.day,ja jb A.tim.start,ja jb A.tim.len,jc A.room] 93):=⟨_,rfl⟩
 have E:=Lh (show Af X #[jc D.cls,ja jb D.tim.weeks,ja jb D.tim.day,ja jb D.tim.start,ja jb D.tim.len,jc D.room] 93 w0 from by rw[H,hX];exact(Af.new w _ _).alloc _);have G:=Lh (show Af Y #[jc A.cls,ja jb A.tim.weeks,ja jb A.tim.day,ja jb A.tim.start,ja jb A.tim.len,jc A.room] 93 w0 from by rw[H,hY];exact Af.new' _ _ _ (by simp));have F:=Lh (show Below w.heap.size w w0 from by rw[H];exact(Aa w _).trans ((Aa _ _).mono (by simp)));unfold Cv AE;have V:=Lh (fun W=>RY D W ha);have U:=Lh (fun W=>RY A W hb);clear ha hb;obtain⟨la,O⟩: ∃m,m=N9 D:=⟨_,rfl⟩
 obtain⟨lb,M⟩: ∃m,m=N9 A:=⟨_,rfl⟩
 have T:=Lh (show Q0 D A=(Op.bytesLess D.cls.toList A.cls.toList || (decide (D.cls=A.cls) && decide (la<lb)))from by rw[O,M];rfl);rw[<-O]at V;rw[<-M]at U;clear O M;obtain⟨xx,aa⟩: ∃x,Op.bytesLess D.cls.toList A.cls.toList=x:=⟨_,rfl⟩
 rw[aa,<-Fq]at T;obtain⟨yy,ac⟩: ∃y,(D.cls.toList==A.cls.toList)=y:=⟨_,rfl⟩
 rw[ac]at T;have x0:w0.cell? ⟨X,0,none⟩=some (jc D.cls):=E.o.cell 0;have x1:w0.cell? ⟨X,1,none⟩=some (ja jb D.tim.weeks):=E.o.cell 1;have y0:w0.cell? ⟨Y,0,none⟩=some (jc A.cls):=G.o.cell 0;have y1:w0.cell? ⟨Y,1,none⟩=some (ja jb A.tim.weeks):=G.o.cell 1;go_enter Tryz.func60,Tryz.ntmps60;go_upto_region 1 with(fail);rw[<-H,<-hY,<-hX];clear H hX hY;cases xx
 ·cases yy
  ·go_quiet (fail)
   go_wp2_with fail;go_ret;exact⟨by rw[T.o];rfl,F.o.trans (by obtain⟨w2,h1,h2, -⟩:=DG w0 nq;rw[<-h1];exact(h2 _).mono F.o.size)⟩
  ·have J:Hid (∀W:World,Below w0.heap.size w0 W->W.cell? ⟨X,0,none⟩=some (jc D.cls)/\W.cell? ⟨X,1,none⟩=some (ja jb D.tim.weeks)/\W.cell? ⟨Y,0,none⟩=some (jc A.cls)/\W.cell? ⟨Y,1,none⟩=some (ja jb A.tim.weeks)):=Lh fun W Z=>⟨(E.o.below Z E.o.lt).cell 0,(E.o.below Z E.o.lt).cell 1,(G.o.below Z G.o.lt).cell 0,(G.o.below Z G.o.lt).cell 1⟩
   go_region_held3 (fun W'=>W'.cell? ⟨X,0,none⟩=some (jc D.cls)/\W'.cell? ⟨X,1,none⟩=some (ja jb D.tim.weeks)/\W'.cell? ⟨Y,0,none⟩=some (jc A.cls)/\W'.cell? ⟨Y,1,none⟩=some (ja jb A.tim.weeks)) (first | exact J.o _ (Below.refl _ _) | exact J.o _ (Ac (Below.refl _ _)) | exact J.o _ ((Ac (Below.refl _ _)).trans R) | exact J.o _ (((Ac (Below.refl _ _)).trans R).trans (h6.mono (((Ac (Below.refl _ w0)).trans R).size)))) (first | (go_at_call 88;refine(V.o w0.drew).mono ?_;rintro e w5 ⟨rfl,R⟩) | (go_at_call 88;refine(U.o _).mono ?_;rintro e w6 ⟨rfl,h6⟩))
   have H5:=Lh ((Ac (Below.refl _ w0)).trans R);have ab:=Lh (F.o.trans ((H5.o.trans (h6.mono H5.o.size)).mono F.o.size));clear R h6;go_wp2_with fail;go_ret;exact⟨by rw[T.o];rfl,ab.o⟩
 ·go_quiet (fail)
  go_wp2_with fail;go_ret;exact⟨by rw[T.o];rfl,F.o.trans (by obtain⟨w2,h1,h2, -⟩:=DG w0 nq;rw[<-h1];exact(h2 _).mono F.o.size)⟩
def D6(B:Nat)(w:World)(ao:Option Addr)(ls:List Az):Prop:=ls=[]∨ ∃b o,ao=some ⟨b,o,none⟩/\b<B/\ ∀(j i:Nat) (s:Az) (u:Value),ls[j]?=some s->(AE s).toList[i]?=some u->w.cell? ⟨b,o+j*6+i,none⟩=some u
theorem D6.below{B:Nat}{w w':World}{ao:Option Addr}{ls:List Az}(h:D6 B w ao ls)(hb:Below B w w'):D6 B w' ao ls:=by
 rcases h with h | ⟨b,o,E,A,D⟩
 ·exact .inl h
 ·exact .inr ⟨b,o,E,A,fun j i s u hs hu=>(hb.cell (p:=⟨b,o+j*6+i,none⟩) A).trans (D j i s u hs hu)⟩
theorem D6.mono{B A:Nat}{w:World}{ao:Option Addr}{ls:List Az}(h:D6 B w ao ls)(G:B<=A):D6 A w ao ls:=by
 rcases h with h | ⟨b,o,D,F,E⟩
 ·exact .inl h
 ·exact .inr ⟨b,o,D,by omega,E⟩
theorem D6.form{B:Nat}{w:World}{ao:Option Addr}{ls:List Az}(h:D6 B w ao ls)(hp:0<ls.length): ∃b o,ao=some ⟨b,o,none⟩/\b<B/\ ∀(j i:Nat) (s:Az) (u:Value),ls[j]?=some s->(AE s).toList[i]?=some u->w.cell? ⟨b,o+j*6+i,none⟩=some u:=by
 rcases h with h | h
 ·subst h;simp at hp
 ·exact h
theorem QX{l:List Az}{n:Int}(h:n<1∨20<n):C3 l n=3:=if_pos h
theorem SP{l:List Az}{n:Int}(h: ¬(n<1∨20<n))(w:96<(l.length:Int)):C3 l n=2:=(if_neg h).trans (if_pos w)
theorem Uv{l:List Az}{n:Int}(h: ¬(n<1∨20<n))(w: ¬96<(l.length:Int))(A:Ee n l≠0):C3 l n=Ee n l:=(if_neg h).trans ((if_neg w).trans (if_pos A))
theorem Uw{l:List Az}{n:Int}(h: ¬(n<1∨20<n))(w: ¬96<(l.length:Int))(D:Ee n l=0)(A:F5 l=false):C3 l n=63:=(if_neg h).trans ((if_neg w).trans ((if_neg (by simp[D])).trans (if_pos A)))
theorem Ph{l:List Az}{n:Int}(h: ¬(n<1∨20<n))(w: ¬96<(l.length:Int))(E:Ee n l=0)(A:F5 l=true)(D:Dd [] l=true):C3 l n=11:=(if_neg h).trans ((if_neg w).trans ((if_neg (by simp[E])).trans ((if_neg (by simp[A])).trans (if_pos D))))
theorem VK{l:List Az}{n:Int}(h: ¬(n<1∨20<n))(w: ¬96<(l.length:Int))(E:Ee n l=0)(A:F5 l=true)(D:Dd [] l=false):C3 l n=0:=(if_neg h).trans ((if_neg w).trans ((if_neg (by simp[E])).trans ((if_neg (by simp[A])).trans (if_neg (by simp[D])))))
theorem VL(ls:List Az)(n:Int)(ao:Option Addr)(c B:Nat)(w:World)(hB:B<=w.heap.size)(hS:D6 B w ao ls)(hn:ls.length<=4611686018427387903):Calls Tryz.prog 36 #[jd ao ls.length c,ja jb n] w fun e w'=>e=jh (ja jb (C3 ls n))/\Below w.heap.size w w':=by
 have HS:=Lh (hS.mono hB);have aS:=hn;clear hS hn;by_cases hn:n<1∨20<n
 ·have Z:=Lh (QX (l:=ls) hn);rcases hn with hn | hn
  ·go_enter Tryz.func36,Tryz.ntmps36;go_wp2_with fail;go_ret;exact⟨Aj Z.o.symm,Below.refl _ _⟩
  ·have aE: ¬n<1:=by omega
   go_enter Tryz.func36,Tryz.ntmps36;go_wp2_with fail;go_ret;exact⟨Aj Z.o.symm,Below.refl _ _⟩
 have HN:=Lh hn;have aE: ¬n<1:=by omega
 have aL: ¬20<n:=by omega
 clear hn;by_cases hl:96<(ls.length:Int)
 ·have Z:=Lh (SP HN.o hl);go_enter Tryz.func36,Tryz.ntmps36;go_wp2_with fail;go_ret;exact⟨Aj Z.o.symm,Below.refl _ _⟩
 have af:=Lh (show(ls.length:Int)<=96 from by omega);go_enter Tryz.func36,Tryz.ntmps36;go_wp2_with fail;go_loopw [5] (fun iv wr=> ∃k:Nat,iv=ja jb k/\k<=ls.length/\Hid (Ee n ls=Ee n (ls.drop k))/\Hid (Below w.heap.size w wr)) (fun iv _=>ls.length - (intOf iv).toNat)
 case atStart=>exact⟨0,rfl,xd _,Lh rfl,Lh (Below.refl _ _)⟩
 case round=>
  obtain⟨k,rfl,hk,HK,F⟩:=hrel;by_cases X:k<ls.length
  ·have V:(k:Int)<(ls.length:Int):=by omega
   have av:(0:Int)<=(k:Int):=by omega
   obtain⟨b,o,ha,D,A⟩:=HS.o.form (by omega);subst ha;obtain⟨s,hs⟩: ∃s,ls[k]?=some s:=⟨_,xb X⟩
   have O:=Lh hs;have x0:wr.cell? ⟨b,o+k*6,none⟩=some (jc s.cls):=(F.o.cell (p:=⟨b,o+k*6,none⟩) D).trans (A k 0 s _ O.o rfl);have x1:wr.cell? ⟨b,o+k*6+1,none⟩=some (ja jb s.tim.weeks):=(F.o.cell (p:=⟨b,o+k*6+1,none⟩) D).trans (A k 1 s _ O.o rfl);have x2:wr.cell? ⟨b,o+k*6+2,none⟩=some (ja jb s.tim.day):=(F.o.cell (p:=⟨b,o+k*6+2,none⟩) D).trans (A k 2 s _ O.o rfl);have x3:wr.cell? ⟨b,o+k*6+3,none⟩=some (ja jb s.tim.start):=(F.o.cell (p:=⟨b,o+k*6+3,none⟩) D).trans (A k 3 s _ O.o rfl);have x4:wr.cell? ⟨b,o+k*6+4,none⟩=some (ja jb s.tim.len):=(F.o.cell (p:=⟨b,o+k*6+4,none⟩) D).trans (A k 4 s _ O.o rfl);have x5:wr.cell? ⟨b,o+k*6+5,none⟩=some (jc s.room):=(F.o.cell (p:=⟨b,o+k*6+5,none⟩) D).trans (A k 5 s _ O.o rfl);have R:=Lh (HK.o.trans (PT n ls k s hs));clear A hs;have Y:=Lh (SR s n wr);unfold Cv AE at Y;obtain⟨E,hE⟩: ∃e,e=FZ s n:=⟨_,rfl⟩
   rw[<-hE]at Y R;clear hE;go_wp2_with fail;refine Y.o.mono ?_;clear Y;rintro e w2 ⟨rfl,hb⟩;have ay:=Lh (F.o.trans (hb.mono F.o.size));clear hb x0 x1 x2 x3 x4 x5;by_cases hE:E=0
   ·subst hE;have ah:=Lh (show Ee n ls=Ee n (ls.drop (k+1))from R.o.trans (if_neg (by simp)));go_wp2_with fail;go_roundw
    case rel=>exact⟨k+1,by go_num,by omega,ah,ay⟩
    case measure=>simp[intOf];omega
   ·have Z:=Lh (show C3 ls n=E from by have h:=R.o.trans (if_pos hE);rw[Uv HN.o (show ¬96<(ls.length:Int)from by have:=af.o;omega) (by rw[h];exact hE),h]);have aM:(E==0)=false:=by simpa using hE
    have aP:(E !=0)=true:=by simpa using hE
    go_wp2_with fail;go_ret;exact⟨Aj Z.o.symm,ay.o⟩
  have V: ¬(k:Int)<(ls.length:Int):=by omega
  have ag:=Lh (show Ee n ls=0 from by rw[HK.o,List.drop_eq_nil_of_le (by omega)];rfl);obtain⟨wa,ai⟩: ∃q,q=wr:=⟨_,rfl⟩
  rw[<-ai]at F ⊢;clear ai;have az:=Lh (Ku n ls ag.o);go_wp2_with fail;clear V hk X HK;go_loopw [7] (fun iv wr=> ∃k:Nat,iv=ja jb ((k:Int)+1)/\k<=ls.length/\Hid (F5 ls=F5 (ls.drop k))/\Hid (Below w.heap.size w wr)) (fun iv _=>ls.length+1 - (intOf iv).toNat)
  case atStart=>exact⟨0,rfl,xd _,Lh rfl,F⟩
  case round=>
   clear F;obtain⟨k,rfl,hk,HK,F⟩:=hrel;by_cases X:k+1<ls.length
   ·have V:(k:Int)+1<(ls.length:Int):=by omega
    have av:(0:Int)<=(k:Int):=by omega
    have aO:(k:Int)<(ls.length:Int):=by omega
    obtain⟨b,o,ha,D,A⟩:=HS.o.form (by omega);subst ha;obtain⟨s,hs⟩: ∃s,ls[k]?=some s:=⟨_,xb (by omega)⟩
    obtain⟨z,hz⟩: ∃z,ls[k+1]?=some z:=⟨_,xb X⟩
    have O:=Lh hs;have Hz:=Lh hz;have R:=Lh (HK.o.trans (Qk ls k s z hs hz));have aH:=Lh (Mi (az.o s (xg hs)));have aK:=Lh (Mi (az.o z (xg hz)));have G:b<wr.heap.size:=xn D F.o.size;have H:Hid (∀W':World,Below wr.heap.size wr W'->W'.cell? ⟨b,o+k*6,none⟩=some (jc s.cls)/\W'.cell? ⟨b,o+k*6+1,none⟩=some (ja jb s.tim.weeks)/\W'.cell? ⟨b,o+k*6+2,none⟩=some (ja jb s.tim.day)/\W'.cell? ⟨b,o+k*6+3,none⟩=some (ja jb s.tim.start)/\W'.cell? ⟨b,o+k*6+4,none⟩=some (ja jb s.tim.len)/\W'.cell? ⟨b,o+k*6+5,none⟩=some (jc s.room)/\W'.cell? ⟨b,o+(k+1)*6,none⟩=some (jc z.cls)/\W'.cell? ⟨b,o+(k+1)*6+1,none⟩=some (ja jb z.tim.weeks)/\W'.cell? ⟨b,o+(k+1)*6+2,none⟩=some (ja jb z.tim.day)/\W'.cell? ⟨b,o+(k+1)*6+3,none⟩=some (ja jb z.tim.start)/\W'.cell? ⟨b,o+(k+1)*6+4,none⟩=some (ja jb z.tim.len)/\W'.cell? ⟨b,o+(k+1)*6+5,none⟩=some (jc z.room)):=Lh fun W' J=>⟨((J.cell (p:=⟨b,o+k*6,none⟩) G).trans ((F.o.cell (p:=⟨b,o+k*6,none⟩) D).trans (A k 0 s _ O.o rfl))),((J.cell (p:=⟨b,o+k*6+1,none⟩) G).trans ((F.o.cell (p:=⟨b,o+k*6+1,none⟩) D).trans (A k 1 s _ O.o rfl))),((J.cell (p:=⟨b,o+k*6+2,none⟩) G).trans ((F.o.cell (p:=⟨b,o+k*6+2,none⟩) D).trans (A k 2 s _ O.o rfl))),((J.cell (p:=⟨b,o+k*6+3,none⟩) G).trans ((F.o.cell (p:=⟨b,o+k*6+3,none⟩) D).trans (A k 3 s _ O.o rfl))),((J.cell (p:=⟨b,o+k*6+4,none⟩) G).trans ((F.o.cell (p:=⟨b,o+k*6+4,none⟩) D).trans (A k 4 s _ O.o rfl))),((J.cell (p:=⟨b,o+k*6+5,none⟩) G).trans ((F.o.cell (p:=⟨b,o+k*6+5,none⟩) D).trans (A k 5 s _ O.o rfl))),((J.cell (p:=⟨b,o+(k+1)*6,none⟩) G).trans ((F.o.cell (p:=⟨b,o+(k+1)*6,none⟩) D).trans (A (k+1) 0 z _ Hz.o rfl))),((J.cell (p:=⟨b,o+(k+1)*6+1,none⟩) G).trans ((F.o.cell (p:=⟨b,o+(k+1)*6+1,none⟩) D).trans (A (k+1) 1 z _ Hz.o rfl))),((J.cell (p:=⟨b,o+(k+1)*6+2,none⟩) G).trans ((F.o.cell (p:=⟨b,o+(k+1)*6+2,none⟩) D).trans (A (k+1) 2 z _ Hz.o rfl))),((J.cell (p:=⟨b,o+(k+1)*6+3,none⟩) G).trans ((F.o.cell (p:=⟨b,o+(k+1)*6+3,none⟩) D).trans (A (k+1) 3 z _ Hz.o rfl))),((J.cell (p:=⟨b,o+(k+1)*6+4,none⟩) G).trans ((F.o.cell (p:=⟨b,o+(k+1)*6+4,none⟩) D).trans (A (k+1) 4 z _ Hz.o rfl))),((J.cell (p:=⟨b,o+(k+1)*6+5,none⟩) G).trans ((F.o.cell (p:=⟨b,o+(k+1)*6+5,none⟩) D).trans (A (k+1) 5 z _ Hz.o rfl)))⟩
    have Y:=Lh (fun W=>QZ s z W aH.o aK.o);unfold Cv AE at Y;obtain⟨M,hM⟩: ∃m,m=Q0 s z:=⟨_,rfl⟩
    rw[<-hM]at Y R;clear hM A hs hz;have U:IntKind.i64.wrap ((k:Int)+1 - 1)=(k:Int):=by rw[IntKind.wrap_i64];omega
    have aA:IntKind.i64.wrap (k:Int)=(k:Int):=by rw[IntKind.wrap_i64];omega
    have aJ:((k:Int)).toNat=k:=by omega
    have aB:(0:Int)<=(k:Int)+1:=by omega
    have aD:((k:Int)+1).toNat=k+1:=by omega
    go_wp2_with fail;go_region_held3 (fun W'=>W'.cell? ⟨b,o+k*6,none⟩=some (jc s.cls)/\W'.cell? ⟨b,o+k*6+1,none⟩=some (ja jb s.tim.weeks)/\W'.cell? ⟨b,o+k*6+2,none⟩=some (ja jb s.tim.day)/\W'.cell? ⟨b,o+k*6+3,none⟩=some (ja jb s.tim.start)/\W'.cell? ⟨b,o+k*6+4,none⟩=some (ja jb s.tim.len)/\W'.cell? ⟨b,o+k*6+5,none⟩=some (jc s.room)/\W'.cell? ⟨b,o+(k+1)*6,none⟩=some (jc z.cls)/\W'.cell? ⟨b,o+(k+1)*6+1,none⟩=some (ja jb z.tim.weeks)/\W'.cell? ⟨b,o+(k+1)*6+2,none⟩=some (ja jb z.tim.day)/\W'.cell? ⟨b,o+(k+1)*6+3,none⟩=some (ja jb z.tim.start)/\W'.cell? ⟨b,o+(k+1)*6+4,none⟩=some (ja jb z.tim.len)/\W'.cell? ⟨b,o+(k+1)*6+5,none⟩=some (jc z.room)) (first | exact H.o _ (Below.refl _ _) | exact H.o _ (Ac (Below.refl _ _)) | exact H.o _ h5) (first | (go_at_call 60;(with_reducible refine(Y.o _).mono ?_);rintro e w5 ⟨rfl,ac⟩;have h5:Below wr.heap.size wr w5:=(Ac (Below.refl _ wr)).trans ac))
    have ax:=Lh (F.o.trans (h5.mono F.o.size));clear h5 ac H Y U aA aJ aB aD;cases M
    ·have Z:=Lh (show C3 ls n=63 from Uw HN.o (show ¬96<(ls.length:Int)from by have:=af.o;omega) ag.o (by rw[R.o];rfl));go_wp2_with fail;go_ret;exact⟨Aj Z.o.symm,ax.o⟩
    ·have ah:=Lh (show F5 ls=F5 (ls.drop (k+1))from by rw[R.o];rfl);go_wp2_with fail;go_roundw
     case rel=>exact⟨k+1,by go_num,by omega,ah,ax⟩
     case measure=>simp[intOf];omega
   have V: ¬(k:Int)+1<(ls.length:Int):=by omega
   have ar:=Lh (show F5 ls=true from by rw[HK.o];exact RN ls k (by omega));obtain⟨aN,ai⟩: ∃q,q=wr:=⟨_,rfl⟩
   rw[<-ai]at F ⊢;clear ai;go_wp2_with fail;clear V hk X HK;go_loopw [8] (fun iv wr=> ∃k:Nat,iv=ja jb k/\k<=ls.length/\Hid (Dd [] ls=Dd (ls.take k) (ls.drop k))/\Hid (Below w.heap.size w wr)) (fun iv _=>ls.length - (intOf iv).toNat)
   case atStart=>exact⟨0,rfl,xd _,Lh rfl,F⟩
   case round=>
    clear F;obtain⟨k,rfl,hk,HK,F⟩:=hrel;by_cases X:k<ls.length;rotate_left
    ·have V: ¬(k:Int)<(ls.length:Int):=by omega
     have Z:=Lh (show C3 ls n=0 from VK HN.o (show ¬96<(ls.length:Int)from by have:=af.o;omega) ag.o ar.o (by rw[HK.o,List.drop_eq_nil_of_le (by omega)];rfl));go_wp2_with fail;go_ret;exact⟨Aj Z.o.symm,F.o⟩
    have V:(k:Int)<(ls.length:Int):=by omega
    have av:(0:Int)<=(k:Int):=by omega
    obtain⟨b,o,ha,D,A⟩:=HS.o.form (by omega);subst ha;obtain⟨s,hs⟩: ∃s,ls[k]?=some s:=⟨_,xb X⟩
    have O:=Lh hs;have R:=Lh (HK.o.trans (QL ls k s hs));have aI:=Lh A;obtain⟨wb,T⟩: ∃q,q=wr:=⟨_,rfl⟩
    rw[<-T]at F ⊢;clear A hs T;have aC:=F;clear F;go_wp2_with fail;go_loopw [9] (fun jv w2=> ∃j:Nat,jv=ja jb j/\j<=k/\Hid (Dd [] ls=(((ls.take k).drop j).any (EF s) || Dd (ls.take (k+1)) (ls.drop (k+1))))/\Hid (Below w.heap.size w w2)) (fun jv _=>k - (intOf jv).toNat)
    case atStart=>exact⟨0,rfl,xd _,R,aC⟩
    case round=>
     clear aC;obtain⟨j,rfl,hj,HJ,F⟩:=hrel;by_cases aF:j<k;rotate_left
     ·have aG: ¬(j:Int)<(k:Int):=by omega
      have ah:=Lh (show Dd [] ls=Dd (ls.take (k+1)) (ls.drop (k+1))from by rw[HJ.o,List.drop_eq_nil_of_le (by rw[xf];omega)];rfl);go_wp2_with fail;go_roundw
      case rel=>exact⟨k+1,by go_num,by omega,ah,F⟩
      case measure=>simp[intOf];omega
     have aG:(j:Int)<(k:Int):=by omega
     have aQ:(j:Int)<(ls.length:Int):=by omega
     have aR:(0:Int)<=(j:Int):=by omega
     obtain⟨z,hz⟩: ∃z,ls[j]?=some z:=⟨_,xb (by omega)⟩
     have Hz:=Lh hz;have A:=aI.o;have G:b<wr.heap.size:=xn D F.o.size;have H:Hid (∀W':World,Below wr.heap.size wr W'->W'.cell? ⟨b,o+k*6,none⟩=some (jc s.cls)/\W'.cell? ⟨b,o+k*6+1,none⟩=some (ja jb s.tim.weeks)/\W'.cell? ⟨b,o+k*6+2,none⟩=some (ja jb s.tim.day)/\W'.cell? ⟨b,o+k*6+3,none⟩=some (ja jb s.tim.start)/\W'.cell? ⟨b,o+k*6+4,none⟩=some (ja jb s.tim.len)/\W'.cell? ⟨b,o+k*6+5,none⟩=some (jc s.room)/\W'.cell? ⟨b,o+j*6,none⟩=some (jc z.cls)/\W'.cell? ⟨b,o+j*6+1,none⟩=some (ja jb z.tim.weeks)/\W'.cell? ⟨b,o+j*6+2,none⟩=some (ja jb z.tim.day)/\W'.cell? ⟨b,o+j*6+3,none⟩=some (ja jb z.tim.start)/\W'.cell? ⟨b,o+j*6+4,none⟩=some (ja jb z.tim.len)/\W'.cell? ⟨b,o+j*6+5,none⟩=some (jc z.room)):=Lh fun W' J=>⟨((J.cell (p:=⟨b,o+k*6,none⟩) G).trans ((F.o.cell (p:=⟨b,o+k*6,none⟩) D).trans (A k 0 s _ O.o rfl))),((J.cell (p:=⟨b,o+k*6+1,none⟩) G).trans ((F.o.cell (p:=⟨b,o+k*6+1,none⟩) D).trans (A k 1 s _ O.o rfl))),((J.cell (p:=⟨b,o+k*6+2,none⟩) G).trans ((F.o.cell (p:=⟨b,o+k*6+2,none⟩) D).trans (A k 2 s _ O.o rfl))),((J.cell (p:=⟨b,o+k*6+3,none⟩) G).trans ((F.o.cell (p:=⟨b,o+k*6+3,none⟩) D).trans (A k 3 s _ O.o rfl))),((J.cell (p:=⟨b,o+k*6+4,none⟩) G).trans ((F.o.cell (p:=⟨b,o+k*6+4,none⟩) D).trans (A k 4 s _ O.o rfl))),((J.cell (p:=⟨b,o+k*6+5,none⟩) G).trans ((F.o.cell (p:=⟨b,o+k*6+5,none⟩) D).trans (A k 5 s _ O.o rfl))),((J.cell (p:=⟨b,o+j*6,none⟩) G).trans ((F.o.cell (p:=⟨b,o+j*6,none⟩) D).trans (A j 0 z _ Hz.o rfl))),((J.cell (p:=⟨b,o+j*6+1,none⟩) G).trans ((F.o.cell (p:=⟨b,o+j*6+1,none⟩) D).trans (A j 1 z _ Hz.o rfl))),((J.cell (p:=⟨b,o+j*6+2,none⟩) G).trans ((F.o.cell (p:=⟨b,o+j*6+2,none⟩) D).trans (A j 2 z _ Hz.o rfl))),((J.cell (p:=⟨b,o+j*6+3,none⟩) G).trans ((F.o.cell (p:=⟨b,o+j*6+3,none⟩) D).trans (A j 3 z _ Hz.o rfl))),((J.cell (p:=⟨b,o+j*6+4,none⟩) G).trans ((F.o.cell (p:=⟨b,o+j*6+4,none⟩) D).trans (A j 4 z _ Hz.o rfl))),((J.cell (p:=⟨b,o+j*6+5,none⟩) G).trans ((F.o.cell (p:=⟨b,o+j*6+5,none⟩) D).trans (A j 5 z _ Hz.o rfl)))⟩
     have aa:=Lh (show Dd [] ls=(Gy s z || H9 s z || (((ls.take k).drop (j+1)).any (EF s) || Dd (ls.take (k+1)) (ls.drop (k+1))))from by rw[HJ.o,S7 (EF s) ls k j z hz aF,Bool.or_assoc];rfl);clear A hz;by_cases hc:s.cls=z.cls;rotate_left
     ·have ak:=ME hc;have au:=Lh (show Dd [] ls=(((ls.take k).drop (j+1)).any (EF s) || Dd (ls.take (k+1)) (ls.drop (k+1)))from by rw[aa.o,show Gy s z=false from by unfold Gy;rw[decide_eq_false hc];rfl,show H9 s z=false from by unfold H9;rw[decide_eq_false hc];rfl];rfl);clear hc;obtain⟨x0,x1,x2,x3,x4,x5,y0,y1,y2,y3,y4,y5⟩:=H.o wr (Below.refl _ _);go_wp2_with fail;go_quiet (fail);clear ak;clear x0 y0 x1 y1 x2 y2 x3 y3 x4 y4 x5 y5 H;obtain⟨wq,ae,ab,am,al⟩:=DG wr nq;have aq:=Lh (F.o.trans (ab _));rw[<-ae];clear ae ab am al;go_wp2_with fail;go_roundw
      case rel=>exact⟨j+1,by go_num,by omega,au,aq⟩
      case measure=>simp[intOf];omega
     have ak:(s.cls.toList==z.cls.toList)=true:=by rw[hc];simp
     cases U:WV s z;rotate_left
     ·have ap:=Lh (show Dd [] ls=true from by rw[aa.o,show Gy s z=true from by unfold Gy;rw[decide_eq_true hc,U];rfl];rfl);have T:(bits .and .i64 s.tim.weeks z.tim.weeks !=0)=true:=U;have aj:(bits .and .i64 s.tim.weeks z.tim.weeks==0)=false:=by simpa using T
      clear hc U;obtain⟨x0,x1,x2,x3,x4,x5,y0,y1,y2,y3,y4,y5⟩:=H.o wr (Below.refl _ _);go_wp2_with fail;go_quiet (fail)
      clear ak T aj;clear x0 y0 x1 y1 x2 y2 x3 y3 x4 y4 x5 y5 H;obtain⟨wq,ae,ab,am,al⟩:=DG wr nq;have aq:=Lh (F.o.trans (ab _));rw[<-ae];clear ae ab am al;have Z:=Lh (show C3 ls n=11 from Ph HN.o (show ¬96<(ls.length:Int)from by have:=af.o;omega) ag.o ar.o ap.o);go_wp2_with fail;go_ret;exact⟨Aj Z.o.symm,aq.o⟩
     have HM:=Lh (show Gy s z=false from by unfold Gy;rw[U,Bool.and_false]);have T:(bits .and .i64 s.tim.weeks z.tim.weeks !=0)=false:=U;have aj:(bits .and .i64 s.tim.weeks z.tim.weeks==0)=true:=by simpa using T
     clear hc U;rw[HM.o]at aa;have Y:=Lh (fun W=>S9 s z W);unfold Cv AE at Y;obtain⟨K,hK⟩: ∃m,m=H9 s z:=⟨_,rfl⟩
     rw[<-hK]at Y aa;clear hK;go_wp2_with fail;go_region_held3 (fun W'=>W'.cell? ⟨b,o+k*6,none⟩=some (jc s.cls)/\W'.cell? ⟨b,o+k*6+1,none⟩=some (ja jb s.tim.weeks)/\W'.cell? ⟨b,o+k*6+2,none⟩=some (ja jb s.tim.day)/\W'.cell? ⟨b,o+k*6+3,none⟩=some (ja jb s.tim.start)/\W'.cell? ⟨b,o+k*6+4,none⟩=some (ja jb s.tim.len)/\W'.cell? ⟨b,o+k*6+5,none⟩=some (jc s.room)/\W'.cell? ⟨b,o+j*6,none⟩=some (jc z.cls)/\W'.cell? ⟨b,o+j*6+1,none⟩=some (ja jb z.tim.weeks)/\W'.cell? ⟨b,o+j*6+2,none⟩=some (ja jb z.tim.day)/\W'.cell? ⟨b,o+j*6+3,none⟩=some (ja jb z.tim.start)/\W'.cell? ⟨b,o+j*6+4,none⟩=some (ja jb z.tim.len)/\W'.cell? ⟨b,o+j*6+5,none⟩=some (jc z.room)) (first | exact H.o _ (Below.refl _ _) | exact H.o _ (Ac (Below.refl _ _)) | exact H.o _ h5) (first | (go_at_call 61;(with_reducible refine(Y.o _).mono ?_);rintro e w5 ⟨rfl,ac⟩;have h5:Below wr.heap.size wr w5:=(Ac (Below.refl _ wr)).trans ac))
     have aw:=Lh (F.o.trans (h5.mono F.o.size));clear h5 ac H Y ak T aj;cases K;rotate_left
     ·have ap:=Lh (show Dd [] ls=true from by rw[aa.o];rfl);have Z:=Lh (show C3 ls n=11 from Ph HN.o (show ¬96<(ls.length:Int)from by have:=af.o;omega) ag.o ar.o ap.o);go_wp2_with fail;go_ret;exact⟨Aj Z.o.symm,aw.o⟩
     have au:=Lh (show Dd [] ls=(((ls.take k).drop (j+1)).any (EF s) || Dd (ls.take (k+1)) (ls.drop (k+1)))from aa.o);go_wp2_with fail;go_roundw
     case rel=>exact⟨j+1,by go_num,by omega,au,aw⟩
     case measure=>simp[intOf];omega
def C8(n:Int):List (List Az)->Int
 | []=>0
 | l::r=>if C3 l n≠0 then C3 l n else C8 n r
theorem OC(n:Int)(ls:List (List Az))(k:Nat)(l:List Az)(h:ls[k]?=some l):C8 n (ls.drop k)=if C3 l n≠0 then C3 l n else C8 n (ls.drop (k+1)):=by
 obtain⟨w,A⟩:=xa.1 h;rw[xk w,A];rfl
theorem JQ(n:Int): ∀(ls:List (List Az)),C8 n ls=0-> ∀l∈ls,C3 l n=0
 | [],_,l,hl=>by cases hl
 | a::r,h,l,hl=>by
  unfold C8 at h;by_cases w:C3 a n≠0
  ·rw[if_pos w]at h;exact absurd h w
  ·rw[if_neg w]at h;rcases xc.1 hl with rfl | hl
   ·simpa using w
   ·exact JQ n r h l hl
theorem SQ{l:List Az}{n:Int}(h:C3 l n=0):l.length<=96:=by
 unfold C3 at h;split at h
 ·cases h
 ·split at h
  ·cases h
  ·rename_i w;omega
def G7(g:Tt.Grd)(t:Tt.Trm)(nm:ByteArray)(ls:List (List Az)):Int:=
 if Tt.gridV g≠0∨Tt.trmV t≠0 then 1 else if Tt.code nm.data.toList=false then 10 else if 64<(ls.length:Int)then 2 else if C8 t.weeks ls≠0 then C8 t.weeks ls else if 256<((Bp g t 1 ls []).length:Int)then 2 else 0
def Jb(g:Tt.Grd)(t:Tt.Trm)(nm:ByteArray)(ls:List (List Az)):ByteArray × Int × List Ev:=
 if G7 g t nm ls=0 then(nm,(ls.length:Int),Bp g t 1 ls [])else(⟨#[]⟩,0,[])
theorem Vd{g:Tt.Grd}{t:Tt.Trm}{w:ByteArray}{ls:List (List Az)}(h:Tt.gridV g≠0∨Tt.trmV t≠0):G7 g t w ls=1:=if_pos h
theorem TU{g:Tt.Grd}{t:Tt.Trm}{w:ByteArray}{ls:List (List Az)}(A:Tt.gridV g=0)(D:Tt.trmV t=0)(h:Tt.code w.data.toList=false):G7 g t w ls=10:=(if_neg (by simp[A,D])).trans (if_pos h)
theorem Vc{g:Tt.Grd}{t:Tt.Trm}{w:ByteArray}{ls:List (List Az)}(A:Tt.gridV g=0)(D:Tt.trmV t=0)(E:Tt.code w.data.toList=true)(h:64<(ls.length:Int)):G7 g t w ls=2:=(if_neg (by simp[A,D])).trans ((if_neg (by simp[E])).trans (if_pos h))
theorem Vb{g:Tt.Grd}{t:Tt.Trm}{w:ByteArray}{ls:List (List Az)}(A:Tt.gridV g=0)(D:Tt.trmV t=0)(F:Tt.code w.data.toList=true)(E: ¬64<(ls.length:Int))(h:C8 t.weeks ls≠0):G7 g t w ls=C8 t.weeks ls:=(if_neg (by simp[A,D])).trans ((if_neg (by simp[F])).trans ((if_neg E).trans (if_pos h)))
theorem Va{g:Tt.Grd}{t:Tt.Trm}{w:ByteArray}{ls:List (List Az)}(A:Tt.gridV g=0)(D:Tt.trmV t=0)(G:Tt.code w.data.toList=true)(F: ¬64<(ls.length:Int))(E:C8 t.weeks ls=0)(h:256<((Bp g t 1 ls []).length:Int)):G7 g t w ls=2:=(if_neg (by simp[A,D])).trans ((if_neg (by simp[G])).trans ((if_neg F).trans ((if_neg (by simp[E])).trans (if_pos h))))
theorem RX{g:Tt.Grd}{t:Tt.Trm}{w:ByteArray}{ls:List (List Az)}(A:Tt.gridV g=0)(D:Tt.trmV t=0)(G:Tt.code w.data.toList=true)(F: ¬64<(ls.length:Int))(E:C8 t.weeks ls=0)(h: ¬256<((Bp g t 1 ls []).length:Int)):G7 g t w ls=0:=(if_neg (by simp[A,D])).trans ((if_neg (by simp[G])).trans ((if_neg F).trans ((if_neg (by simp[E])).trans (if_neg h))))
def VU(g:Tt.Grd)(t:Tt.Trm)(nm:ByteArray)(ls:List (List Az))(lo:Nat)(e:Ending)(w':World):Prop:=
 ∃v ts,e=jh (jg #[.agg #[jc (Jb g t nm ls).1,ja jb (Jb g t nm ls).2.1,v],ja jb (G7 g t nm ls)])/\Av lo w' v ts/\ts.map (·.1)=(Jb g t nm ls).2.2
theorem EW{g:Tt.Grd}{t:Tt.Trm}{w:ByteArray}{ls:List (List Az)}{lo:Nat}{w':World}{c:Int}(h:G7 g t w ls=c)(D:c≠0):VU g t w ls lo (jh (jg #[.agg #[jc ⟨#[]⟩,ja jb 0,jd none 0 0],ja jb c])) w':=by
 have A:Jb g t w ls=(⟨#[]⟩,0,[]):=if_neg (by rw[h];exact D);refine⟨jd none 0 0,[],?_,Av.nil _ _,?_⟩
 ·rw[A,h]
 ·rw[A];rfl
theorem TT{g:Tt.Grd}{t:Tt.Trm}{w:ByteArray}{ls:List (List Az)}{lo:Nat}{w':World}{v:Value}{ts:List (Ev × Value × Value)}(h:G7 g t w ls=0)(hr:Av lo w' v ts)(he:ts.map (·.1)=Bp g t 1 ls []):VU g t w ls lo (jh (jg #[.agg #[jc w,ja jb (ls.length:Int),v],ja jb 0])) w':=by
 have A:Jb g t w ls=(w,(ls.length:Int),Bp g t 1 ls []):=if_pos h;refine⟨v,ts,?_,hr,?_⟩
 ·rw[A,h]
 ·rw[A];exact he
def DC(B:Nat)(w:World)(ao:Option Addr)(ls:List (List Az)):Prop:=
 ls=[]∨ ∃b o,ao=some ⟨b,o,none⟩/\b<B/\ ∀(j:Nat) (l:List Az),ls[j]?=some l-> ∃p c,w.cell? ⟨b,o+j,none⟩=some (jd p l.length c)/\l.length<=c/\c<=9223372036854775807/\l.length<=100000/\D6 B w p l
theorem DC.below{B:Nat}{w w':World}{ao:Option Addr}{ls:List (List Az)}(h:DC B w ao ls)(hb:Below B w w'):DC B w' ao ls:=by
 rcases h with h | ⟨b,o,G,A,F⟩
 ·exact .inl h
 ·refine .inr ⟨b,o,G,A,fun j l hl=>?_⟩;obtain⟨p,c,k1,k2,E,D,H⟩:=F j l hl;exact⟨p,c,(hb.cell (p:=⟨b,o+j,none⟩) A).trans k1,k2,E,D,H.below hb⟩
theorem DC.mono{B A:Nat}{w:World}{ao:Option Addr}{ls:List (List Az)}(h:DC B w ao ls)(G:B<=A):DC A w ao ls:=by
 rcases h with h | ⟨b,o,H,M,F⟩
 ·exact .inl h
 ·refine .inr ⟨b,o,H,by omega,fun j l hl=>?_⟩;obtain⟨p,c,k1,k2,E,D,J⟩:=F j l hl;exact⟨p,c,k1,k2,E,D,J.mono G⟩
theorem DC.at_{B:Nat}{w:World}{ao:Option Addr}{ls:List (List Az)}(h:DC B w ao ls){j:Nat}{l:List Az}(hl:ls[j]?=some l): ∃b o p c,ao=some ⟨b,o,none⟩/\b<B/\w.cell? ⟨b,o+j,none⟩=some (jd p l.length c)/\l.length<=c/\c<=9223372036854775807/\l.length<=100000/\D6 B w p l:=by
 rcases h with h | ⟨b,o,G,D,F⟩
 ·subst h;cases hl
 ·obtain⟨p,c,k1,k2,E,A,H⟩:=F j l hl;exact⟨b,o,p,c,G,D,k1,k2,E,A,H⟩
theorem Gb(g:Tt.Grd)(t:Tt.Trm)(ls:List (List Az))(k:Nat)(l:List Az)(h:ls[k]?=some l):Bp g t 1 (ls.take (k+1)) []=Gh g t ((k:Int)+1) l (Bp g t 1 (ls.take k) []):=by
 obtain⟨w,A⟩:=xa.1 h;rw[List.take_add_one,h,Option.toList_some,I9,xf,Nat.min_eq_left (xi w)];congr 1
 omega
theorem Gl(g:Tt.Grd)(t:Tt.Trm): ∀(ls:List (List Az)) (k:Int) (es:List Ev),BG es->BG (Bp g t k ls es)
 | [],_,_,h=>h
 | l::r,k,es,h=>by
  rw[Bp];refine Gl g t r _ _ ?_;unfold Gh;refine BG.gone ?_;have: ∀(fs es:List Ev),BG es->BG (fs.foldl (CK k) es):=by
   intro fs;induction fs with
   | nil=>intro es h;exact h
   | cons f r ih=>intro es h;exact ih _ h.adv
  exact this _ _ h
theorem BG.same: ∀{xs ys:List Ev},BG xs->BG ys->xs.Perm ys->xs=ys
 | [],ys,_,_,hp=>(List.nil_perm.1 hp).symm
 | x::r,[],_,_,hp=>by have:=hp.length_eq;simp at this
 | x::r,y::q,hx,hy,hp=>by
  obtain⟨w,A⟩:=List.pairwise_cons.1 hx;obtain⟨k1,k2⟩:=List.pairwise_cons.1 hy;have he:x=y:=by
   rcases xc.1 (hp.mem_iff.1 (xm (a:=x) (l:=r)))with e | hm
   ·exact e
   ·rcases xc.1 (hp.mem_iff.2 (xm (a:=y) (l:=q)))with e | hn
    ·exact e.symm
    ·have a:=k1 x hm;have b:=w y hn;have:=CX a b;rw[Ch]at this;cases this
  subst he;rw[BG.same A k2 (List.perm_cons _ |>.1 hp)]
open Go.RowKit Go.Maps
open Classical in
abbrev Hk:=Ev × Value × Value
def Kh(k:Int)(t:Hk):Hk:=({ t.1 with canc:=true,seq:=k },t.2)
theorem Cf.can{lo:Nat}{w:World}{t:Hk}(h:Cf lo w t)(k:Int):Cf lo w (Kh k t):=⟨⟨h.1.ex,h.1.xt,h.1.uid,h.1.summ,h.1.loc⟩,h.2⟩
theorem GW(x:ByteArray):x.data.toList.length=x.size:=by rw[Array.length_toList];rfl
theorem VD{g:Tt.Grd}{t:Tt.Trm}{s:Az}(h:GP g t s)(q:Int):ND (GJ g t s q):=by
 have D:=(Tt.soundB_iff _).1 (Tt.fits_parts h.hf).1;have hl:=Tt.low_week D.1;have hb:=Tt.best_len (Tt.daysK t s.tim 20) (Tt.daysK_ok _ _ h.hd).span.2 3;have hd:=Tt.dec_len 1 (Tt.lowB s.tim.weeks 20 0+1) (by omega);have hc:=LD h.hc;have hs:=GW s.cls;have hu:=GW (IJ s);rw[LY,xh,xo]at hu;have hr:s.room.size<=16:=by
  have w:=h.hr;unfold EN at w;rw[Bool.or_eq_true]at w;have A:=GW s.room;rcases w with e | e
  ·rw[List.isEmpty_iff.1 e]at A;simp at A;omega
  ·have:=LD e;omega
 refine⟨?_,?_,?_,?_,?_⟩
 ·show(Tt.bestK _ 3).ex.length<=_;omega
 ·show(Tt.bestK _ 3).xt.length<=_;omega
 ·show(IJ s).size<=_;omega
 ·show s.cls.size<=_;omega
 ·show s.room.size<=_;omega
theorem Sf:(Tryz.prog.info? 9).map (fun i=>(i.zero,i.size,i.bytes))=some (some (jc ⟨#[]⟩),1,16):=by kernel_rfl
def Fz(lo:Nat)(w:World)(v:Value)(xs:List ByteArray):Prop:=w.ownsRow lo 9 1 v xs.length (xs.map Value.string)
theorem Fz.nil(lo:Nat)(w:World):Fz lo w (jd none 0 0) []:=World.ownsRow_nil _ _ _ _
theorem Fz.snoc{lo:Nat}{w:World}{v:Value}{xs:List ByteArray}{x:ByteArray}(h:w.ownsRow lo 9 1 v (xs.length+1) (xs.map Value.string++[jc x])):Fz lo w v (xs++[x]):=by
 unfold Fz;rw[xh,xp];exact h
theorem Cf.form{lo:Nat}{w:World}{t:Hk}(h:Cf lo w t): ∃(p A:Option Addr) (c c':Nat),t=(t.1,jd p t.1.days.ex.length c,jd A t.1.days.xt.length c'):=by
 obtain⟨p,c,D⟩:=Ah.slice h.2.1;obtain⟨A,c',E⟩:=Ah.slice h.2.2;exact⟨p,A,c,c',by obtain⟨e,v,v'⟩:=t;simp only at D E ⊢;rw[D,E]⟩
theorem Ah.ao{lo n c:Nat}{w:World}{ao:Option Addr}{xs:List Int}(h:Ah lo w (jd ao n c) xs):Ints w.heap.size w ao xs:=by
 obtain⟨a,c',hv,hi⟩:=h.ints;have:a=ao:=by injection hv with A;exact A.symm
 subst this;exact hi
theorem Fz.made{lo:Nat}{w w':World}{v:Value}{xs:List ByteArray}(h:Fz lo w v xs)(hb:Below w.heap.size w w'):Fz lo w' v xs:=Ay h hb
theorem Fz.slice{lo:Nat}{w:World}{v:Value}{xs:List ByteArray}(h:Fz lo w v xs): ∃ao c,v=jd ao xs.length c:=AM h
theorem Fz.at_{lo n c:Nat}{w:World}{ao:Option Addr}{xs:List ByteArray}(h:Fz lo w (jd ao n c) xs){j:Nat}{u:ByteArray}(hu:xs[j]?=some u): ∃g,ao=some ⟨g,0,none⟩/\w.cell? ⟨g,j,none⟩=some (jc u):=by
 have hp:0<xs.length:=Nat.lt_of_le_of_lt (xd j) (xa.1 hu).1;rcases h.2 with⟨_,h0⟩ | ⟨g,cap,cur,hv,_⟩
 ·omega
 ·have ha:ao=some ⟨g,0,none⟩:=by injection hv
  subst ha;have:=xr h (g:=g) rfl j (jc u) (by rw[List.getElem?_map,hu];rfl);rw[Addr.add_lit,Nat.zero_add]at this;exact⟨g,rfl,this⟩
theorem M1(u:ByteArray): ∀(es:List Ev) (k:Int),0<=k->(Aw u es k= -1/\Cp u es=none)∨ ∃(j:Nat) (o:Ev),Aw u es k=k+j/\es[j]?=some o/\Cp u es=some o
 | [],_,_=>.inl ⟨rfl,rfl⟩
 | e::r,k,hk=>by
  unfold Aw Cp;by_cases h:e.uid=u
  ·rw[if_pos h];exact .inr ⟨0,e,by simp,rfl,by simp[h]⟩
  ·rw[if_neg h];rcases M1 u r (k+1) (by omega)with⟨h1,h2⟩ | ⟨j,o,h1,h2,h3⟩
   ·exact .inl ⟨h1,by rw[List.find?_cons_of_neg (by simpa using h)];exact h2⟩
   ·exact .inr ⟨j+1,o,by rw[h1];push_cast;omega,h2,by rw[List.find?_cons_of_neg (by simpa using h)];exact h3⟩
theorem Q4{k:Int}{es:List Ev}{e:Ev}(h:Cp e.uid es=none):CK k es e=Cl e es:=by unfold CK;rw[h]
theorem Q3{k:Int}{es:List Ev}{e o:Ev}(h:Cp e.uid es=some o)(hs:{ o with seq:=k }=e):CK k es e=es:=by unfold CK;rw[h];exact if_pos hs
theorem Td{k:Int}{es:List Ev}{e o:Ev}(h:Cp e.uid es=some o)(hs: ¬{ o with seq:=k }=e):CK k es e=Cl e es:=by unfold CK;rw[h];exact if_neg hs
theorem MI(t x:Hk): ∀ts:List Hk,x∈Cx t ts->x=t∨x∈ts
 | [],h=>by rw[Cx]at h;exact .inl (List.mem_singleton.1 h)
 | s::r,h=>by
  rw[Cx]at h;split at h
  ·rcases xc.1 h with h | h
   ·exact .inr (by simp[h])
   ·rcases MI t x r h with h | h
    ·exact .inl h
    ·exact .inr (by simp[h])
  ·split at h
   ·rcases xc.1 h with h | h
    ·exact .inl h
    ·exact .inr (by simp[h])
   ·rcases xc.1 h with h | h
    ·exact .inl h
    ·exact .inr (by simp[h])
theorem IY(t:Hk): ∀ts:List Hk,(Cx t ts).length<=ts.length+1
 | []=>by rw[Cx];simp
 | s::r=>by
  rw[Cx];split
  ·have:=IY t r;simp;omega
  ·split<;>simp
structure Ki (wA w:World) (F:Nat) (nm:ByteArray) (n:Int) (v:Value) (ts:List Hk) (here:List ByteArray) (sv:Value):Prop where
 box:Af F #[jc nm,ja jb n,v] 41 w
 row:Av F w v ts
 seen:Fz F w sv here
 bel:Below F wA w
theorem Ki.lt{G w:World}{F:Nat}{D:ByteArray}{n:Int}{v E:Value}{ts:List Hk}{A:List ByteArray}(h:Ki G w F D n v ts A E):F<w.heap.size:=h.box.lt
theorem Ki.made{G w w':World}{F:Nat}{D:ByteArray}{n:Int}{v E:Value}{ts:List Hk}{A:List ByteArray}(h:Ki G w F D n v ts A E)(hb:Below w.heap.size w w'):Ki G w' F D n v ts A E:=
 ⟨h.box.below hb h.box.lt,h.row.made hb,h.seen.made hb,h.bel.trans (hb.mono (xi h.box.lt))⟩
theorem Ki.fresh{E w:World}{F:Nat}{D:ByteArray}{n:Int}{v G:Value}{ts:List Hk}{A:List ByteArray}(h:Ki E w F D n v ts A G):Ki E w F D n v ts [] (jd none 0 0):=⟨h.box,h.row,Fz.nil _ _,h.bel⟩
theorem Ki.put{J w w':World}{F:Nat}{G:ByteArray}{n:Int}{v H u:Value}{ts:List Hk}{A:List ByteArray}{t:Hk}(h:Ki J w F G n v ts A H)(hr:Cf F w t)(E:w'.ownsRow w.heap.size 61 13 u (Cx t ts).length (Ap (Cx t ts)))(hb:Below w.heap.size w w'):Ki J (w'.setCell ⟨F,2,none⟩ u) F G n u (Cx t ts) A H:=by
 have D:=h.made hb;have M:=h.box.lt;refine⟨D.box.set 2 u,Av.set ⟨Ab E (by omega),fun x hx=>?_⟩ D.box (by decide) (by decide) 2 u,A7 D.seen D.box (by decide) 2 u,D.bel.setCell (xe F) u⟩;rcases MI t x ts hx with rfl | hx
 ·exact hr.made hb
 ·exact D.row.ref x hx
theorem Ki.app{H w x:World}{F:Nat}{E:ByteArray}{n:Int}{v G u:Value}{ts:List Hk}{A:List ByteArray}{y:ByteArray}(h:Ki H w F E n v ts A G)(hg:w.grownBy x G.ownBlock)(D:x.ownsRow F 9 1 u (A.length+1) (A.map Value.string++[jc y])):Ki H x F E n v ts (A++[y]) u:=by
 have ht: ∀{lo k m:Nat} {q:Value} {xs:List Value} {e:TypeId},e≠9->w.ownsRow lo e k q m xs->x.ownsRow lo e k q m xs:=fun he hr=>World.ownsRow.kept hr hg (AU hr h.seen he)
 refine⟨h.box.grown h.seen hg (by decide),⟨ht (by decide) h.row.row,fun z hz=>?_⟩,Fz.snoc D,Ak h.bel h.seen (xe F) (xi h.box.lt) hg⟩;obtain⟨r1,r2,r3⟩:=h.row.ref z hz;exact⟨r1,ht (by decide) r2,ht (by decide) r3⟩
theorem FW: ∀(ts:List (Ev × Value × Value)) (k o:Nat) (t w:Ev × Value × Value) (u:Value),ts[k]?=some t->o<13->(Ae w.1 w.2.1 w.2.2).toList=(Ae t.1 t.2.1 t.2.2).toList.set o u->
  Ap (ts.set k w)=(Ap ts).set (k*13+o) u
 | [],_,_,_,_,_,h,_,_=>by simp at h
 | t0::r,0,o,t,w,u,h,ho,hc=>by
  simp at h;subst h;show(Ae w.1 w.2.1 w.2.2).toList++Ap r=((Ae t0.1 t0.2.1 t0.2.2).toList++Ap r).set (0*13+o) u
  rw[hc,show 0*13+o=o by omega,List.set_append_left _ _ (show o<13 from ho)]
 | t0::r,k+1,o,t,w,u,h,ho,hc=>by
  have ih:=FW r k o t w u (by simpa using h) ho hc;show(Ae t0.1 t0.2.1 t0.2.2).toList++Ap (r.set k w)=((Ae t0.1 t0.2.1 t0.2.2).toList++Ap r).set ((k+1)*13+o) u
  rw[ih,List.set_append_right _ _ (show 13<=(k+1)*13+o by omega),show(k+1)*13+o - (Ae t0.1 t0.2.1 t0.2.2).toList.length=k*13+o by show _ - 13=_;omega]
theorem OG(t:Hk):(Ae { t.1 with canc:=true } t.2.1 t.2.2).toList=(Ae t.1 t.2.1 t.2.2).toList.set 2 (je true):=rfl
theorem OF(k:Int)(t:Hk):(Ae (Kh k t).1 (Kh k t).2.1 (Kh k t).2.2).toList=(Ae { t.1 with canc:=true } t.2.1 t.2.2).toList.set 1 (ja jb k):=rfl
theorem Ki.flag{G w:World}{F g c m j:Nat}{H:ByteArray}{n k:Int}{J:Value}{ts:List Hk}{D:List ByteArray}{t:Hk}(h:Ki G w F H n (jd (some ⟨g,0,none⟩) m c) ts D J)(hm:ts.length=m)(ht:ts[j]?=some t):
  Ki G ((w.setCell ⟨g,j*13+2,none⟩ (je true)).setCell ⟨g,j*13+1,none⟩ (ja jb k)) F H n (jd (some ⟨g,0,none⟩) m c) (ts.set j (Kh k t)) D J:=by
 subst hm;have M:=h.row.row.stored (j*13+2) (je true);have E:=M.1.stored (j*13+1) (ja jb k);have hg:=M.2.trans E.2;have hl:=(xa.1 ht).1;have e1:=FW ts j 2 t ({ t.1 with canc:=true },t.2) (je true) ht (by decide) (OG t);have e2:=FW (ts.set j ({ t.1 with canc:=true },t.2)) j 1 ({ t.1 with canc:=true },t.2) (Kh k t) (ja jb k) (by simp[hl]) (by decide) (OF k t);have A:w.grownBy _ (Value.ownBlock (jd (some ⟨g,0,none⟩) ts.length c)):=hg;refine⟨h.box.grown h.row.row A (by decide),h.row.changed A (us:=ts.set j (Kh k t)) (fun x hx=>?_) ?_,World.ownsRow.kept h.seen A (AU h.seen h.row.row (by decide)),Ak h.bel h.row.row (xe F) (xi h.box.lt) A⟩
 ·rcases List.mem_or_eq_of_mem_set hx with hx | rfl
  ·exact .inl hx
  ·exact .inr ((h.row.ref t (xg ht)).can k)
 ·rw[List.length_set];rw[List.set_set]at e2;rw[e2,e1];exact E.1
theorem Sj{k:Int}{w:List ByteArray}{e:Ev}(h:(e.canc || w.any (fun u=>decide (u=e.uid)))=true):Dp k w e=e:=if_pos h
theorem Ua{k:Int}{w:List ByteArray}{e:Ev}(h:(e.canc || w.any (fun u=>decide (u=e.uid)))=false):Dp k w e={ e with canc:=true,seq:=k }:=if_neg (by rw[h];decide)
theorem P1(w:List ByteArray)(u y:ByteArray)(i:Nat)(h:w[i]?=some y):(w.take (i+1)).any (fun x=>decide (x=u))=((w.take i).any (fun x=>decide (x=u)) || decide (y=u)):=by
 rw[List.take_add_one,h,List.any_append];simp
theorem Ub{f:Ev->Ev}{e1:List Ev}{j:Nat}{e:Ev}(h:e1[j]?=some e):((e1.take j).map f++e1.drop j)[j]?=some e:=by
 have hl:=(xa.1 h).1;have w:((e1.take j).map f).length=j:=by rw[xq,xf];omega
 rw[List.getElem?_append_right (by omega),w,Nat.sub_self,List.getElem?_drop,xl];exact h
theorem Jp{f:Ev->Ev}{e1:List Ev}{j:Nat}{e:Ev}(h:e1[j]?=some e):(e1.take j).map f++e1.drop j=(e1.take j).map f++e::e1.drop (j+1):=by
 obtain⟨w,A⟩:=xa.1 h;rw[xk w,A]
theorem KM{f:Ev->Ev}{e1:List Ev}{j:Nat}{e:Ev}(h:e1[j]?=some e):(e1.take (j+1)).map f++e1.drop (j+1)=(e1.take j).map f++f e::e1.drop (j+1):=by
 rw[List.take_add_one,h,xp];simp
theorem QB{f:Ev->Ev}{e1:List Ev}{j:Nat}{e:Ev}(h:e1[j]?=some e)(hf:f e=e):(e1.take j).map f++e1.drop j=(e1.take (j+1)).map f++e1.drop (j+1):=by
 rw[Jp h,KM h,hf]
theorem Sk{f:Ev->Ev}{e1:List Ev}{j:Nat}{e:Ev}(h:e1[j]?=some e):((e1.take j).map f++e1.drop j).set j (f e)=(e1.take (j+1)).map f++e1.drop (j+1):=by
 have hl:=(xa.1 h).1;have w:((e1.take j).map f).length=j:=by rw[xq,xf];omega
 rw[Jp h,KM h,List.set_append_right _ _ (by omega),w,Nat.sub_self,List.set_cons_zero]
