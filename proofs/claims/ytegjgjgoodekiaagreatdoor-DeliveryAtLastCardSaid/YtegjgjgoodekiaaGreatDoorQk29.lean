/- The small functions of deliveries: has, send, tag, Clone of messages. Condition: none. Deliveries: feed.Parse as Al; version, send. Condition: none. Deliveries: the machine's rows changed; send. Condition: none. Deliveries: the machine's methods ask, lose, repeat, serve, cut. Condition: none. Deliveries: begin. Condition: none. -/
import Derived.Test.YtegjgjgoodekiaaGreatDoorQk28
import Derived.Deep.AppendLies
import Derived.Deep.RegionLaw
import Derived.Deep.QuietTactic
import Derived.BigQuiet
import Derived.IntWalk
open Go.Value renaming int->ja,string->jc,slice->jd,bool->je,pointer->jf,tuple->jg
open Go.IntKind renaming i64->jb
open Go.Ending renaming returned->jh
open Go.Obj renaming cells->ji
open Nat renaming le_refl->xa,le_trans->xd,zero_add->xg,add_zero->xk,zero_le->xl
open List renaming getElem?_eq_getElem->xb,length_take->xc,length_map->xe,getElem?_eq_some_iff->xf,mem_of_getElem?->xh,length_append->xi,length_drop->xj
open Option.some renaming inj->xm
set_option maxRecDepth 100000
set_option maxHeartbeats 40000000
namespace Go.Proofs.YtegjgjgoodekiaaGreatDoor
open Go.RowKit
theorem Jo(b:Nat)(z c:ByteArray)(A:Option Addr)(n F:Nat)(H J:Value)(i:Int)(w:World)(E:Af b #[jc z,jc c,jd A n F,H,J] 85 w):
  Calls Tryz.prog 48 #[jf (some ⟨b,0,none⟩),ja jb i] w fun e w'=>e=jh (je (decide (0<=i/\i<n)))/\w'=w:=by
 have c2:w.cell? ⟨b,2,none⟩=some (jd A n F):=E.cell 2;clear E;go_enter Tryz.func48,Tryz.ntmps48;by_cases G:0<=i
 ·by_cases D:i<n
  ·go_wp2_with fail;go_ret;exact⟨Ag (by simp[G,D]),rfl⟩
  ·skip
   go_wp2_with fail;go_ret;exact⟨Ag (by simp[D]),rfl⟩
 ·skip
  go_wp2_with fail;go_ret;exact⟨Ag (by simp;omega),rfl⟩
def BH(s:ByteArray)(v:Int):Int:=v*4294967296+PA s.data.toList+1
theorem Ri(s:ByteArray)(v:Int)(w:World)(J:0<=v)(M:v<=64)(hs:s.size<=262144):
  Calls Tryz.prog 49 #[jc s,ja jb v] w fun e w'=>e=jh (ja jb (BH s v))/\Below w.heap.size w w':=by
 obtain⟨cap,W',E,hb,D,hc⟩:=Fb s w;have F:=Lh hb;have G:=Lh hc;clear hb hc D;go_enter Tryz.func49,Tryz.ntmps49;go_wp2_with fail;refine(UR s.data.toList w.heap.size s.size cap W' (by rw[Lib.size_eq]) G.o (by omega)).mono ?_;rintro e H ⟨rfl,A⟩;rw[A];clear A H;go_wp2_with fail;have hr:=EI s.data.toList;have A:wrap64 (wrap64 (v*4294967296+PA s.data.toList)+1)=BH s v:=by unfold BH wrap64;omega
 rw[A];go_ret;exact⟨rfl,F.o⟩
theorem SO(F:Option Addr)(J:Nat)(A:List Hl)(w:World)(M:Rd BI w.heap.size w F A)(hn:F=none->J=0)(hl:A.length<=1000000):
  Calls Tryz.prog 52 #[jd F A.length J] w fun e w'=> ∃ao c,e=jh (jd ao A.length c)/\Rw BI 4 107 w.heap.size w' (jd ao A.length c) A/\Below w.heap.size w w':=by
 obtain⟨i0,hi,T,O,G⟩:=info_parts Lt;cases F with
 | none=>
  have R:A=[]:=by
   rcases M with h | ⟨b,o,ha,_⟩
   ·exact h
   ·cases ha
  subst R;have hq:=hn rfl;subst hq;have H: ∀(w:World) (a:Option Addr) (n c n' c':Nat),(binOp .eql 29 (jd a n c) (jd none n' c')).run Tryz.prog w=.ok (je a.isNone) w:=fun w a n c n' c'=>Lib.run_eql_slice_nil w _ _ a n c n' c' Tryz.underlying29
  go_enter Tryz.func52,Tryz.ntmps52;go_wp2_with fail;go_ret;exact⟨none,0,rfl,Rw.nil _ _ _ _ _,Below.refl _ _⟩
 | some ad=>
  have H: ∀(w:World) (a:Option Addr) (n c n' c':Nat),(binOp .eql 29 (jd a n c) (jd none n' c')).run Tryz.prog w=.ok (je a.isNone) w:=fun w a n c n' c'=>Lib.run_eql_slice_nil w _ _ a n c n' c' Tryz.underlying29
  have V:Hid (∀(j:Nat) (u:Value),(gC BI A)[j]?=some u->(w.alloc (ji #[] 107)).cell? (ad.add j)=some u):=Lh (by
   intro j u hj;rcases M with h | ⟨b,o,ha,_,hc⟩
   ·rw[h]at hj;simp[gC]at hj
   ·cases ha;rw[Addr.add_lit];exact Lib.cell?_alloc_some _ (hc j u hj))
  clear M hn;go_enter Tryz.func52,Tryz.ntmps52;go_wp2_with (at_builtin;refine wpList_append_own_at _ rfl _ _ 29 rfl w.heap.size 107 i0 _ 4 40 Tryz.underlying29 hi T O G rfl (by decide) _ _ _ rfl (World.ownsRow_made w #[] 0 (xa _) (xl _) (by simp)) ad A.length J (gC BI A) rfl (Dq AV A) V.o (Hd I7 A) (by unfold maxLen;omega) (by omega) (by simp) ?_);intro v' X E D _ _;have U:=Lh (show Below w.heap.size w X from((Below.refl _ w).alloc (xa _) _).grown D (by simp) (by intro k hk;simp[Value.ownBlock]at hk;omega));clear D;obtain⟨p,q,hv⟩:=AM E;subst hv;go_wp2_with fail;go_ret;exact⟨p,q,rfl,E,U.o⟩
theorem Ed: ∀(A:List Value) (g o:Nat) (w:World),w.setCells g o A=setAll w g o A
 | [],_,_,_=>rfl
 | _::r,g,o,_=>Ed r g (o+1) _
theorem Rv{lo k n m cap g:Nat}{e:TypeId}{w:World}{xs:List Value}(h:w.ownsRow lo e k (jd (some ⟨g,0,none⟩) n cap) n xs)(hm:m<=n):w.ownsRow lo e k (jd (some ⟨g,0,none⟩) m cap) m (xs.take (m*k)):=by
 have A:m*k<=n*k:=Nat.mul_le_mul_right k hm;refine⟨by rw[xc,h.1,Nat.min_eq_left A],.inr ?_⟩;rcases h.2 with⟨h1,_⟩ | ⟨g',cap',cur,r1,r2,r3,r4,r5,r6,r7⟩
 ·cases h1
 ·simp only[Value.slice.injEq,Option.some.injEq,Addr.mk.injEq,and_true,true_and]at r1;obtain⟨rfl,rfl⟩:=r1;exact⟨g,cap,cur,rfl,r2,r3,by omega,r5,r6,by rw[<-r7,List.take_take,Nat.min_eq_left A]⟩
theorem Sq{α:Type}{f:α->List Value}{k:Nat}(hf: ∀x,(f x).length=k)(xs:List α)(i:Nat)(hi:i<xs.length):(gC f xs).take (i*k)++(gC f xs).drop ((i+1)*k)=gC f (xs.eraseIdx i):=by
 rw[<-Ud hf xs i (by omega),<-Uf hf xs (i+1) hi,<-DK,List.eraseIdx_eq_take_drop_succ]
def MG:List Value:=[ja jb 0,je false,ja jb 0,jc ⟨#[]⟩]
theorem QW(w:World)(ty:TypeId)(b o c:Nat)(hc: ∀j,j<4->(w.cell? ⟨b,o+j,none⟩).isSome=true)(hf: ∀j,j<4->w.frozen? ⟨b,o+j,none⟩=false):
  (Builtin.clear_ #[29] ty #[jd (some ⟨b,o,none⟩) 1 c]).run Tryz.prog w=.ok (jg #[]) (w.setCells b o MG):=by
 have A:=run_storeCells_cells (P:=Tryz.prog) b o MG 0 w (by simpa[MG]using hc) (by simpa[MG]using hf) (by intro v hv';simp only[MG,List.mem_cons,List.not_mem_nil,or_false]at hv';rcases hv' with rfl | rfl | rfl | rfl<;>rfl);simp only[xk]at A;have hz:(Builtin.zeroCells #[ja jb 0,je false,ja jb 0,jc ⟨#[]⟩] 1).toList=MG:=by kernel_rfl
 simp[Builtin.clear_,run_underlying Tryz.underlying29,Tryz.zeroValue107,hz,A,Value.cells]
theorem KY(lo g cap:Nat)(E:List Hl)(i:Nat)(w:World)(h:Rw BI 4 107 lo w (jd (some ⟨g,0,none⟩) E.length cap) E)(hi:i<E.length)(hl:E.length<=1000000):
  Calls Tryz.prog 50 #[jd (some ⟨g,0,none⟩) E.length cap,ja jb i,ja jb (i+1)] w fun e w'=>e=jh (jd (some ⟨g,0,none⟩) (E.length - 1) cap)/\Rw BI 4 107 lo w' (jd (some ⟨g,0,none⟩) (E.length - 1) cap) (E.eraseIdx i)/\AO g w.heap.size w w':=by
 obtain⟨i0,Z,ai,ab,ak⟩:=info_parts Lt;obtain⟨n,hn⟩: ∃n,n=E.length:=⟨_,rfl⟩
 have M:Hid (w.ownsRow lo 107 4 (jd (some ⟨g,0,none⟩) n cap) n (gC BI E)):=Lh (by rw[hn];exact h);have HN:=Lh hn;rw[<-hn]at hi hl ⊢;obtain⟨D,F⟩: ∃D,D=(gC BI E).drop ((i+1)*4):=⟨_,rfl⟩
 have G:D.length=(n - (i+1))*4:=by rw[F,xj,Dq AV,<-hn,<-Nat.sub_mul]
 have ac:n<=cap:=by
  rcases M.o.2 with⟨h1,_⟩ | ⟨g',cap',cur,r1,r2,r3,r4,_⟩
  ·cases h1
  ·simp only[Value.slice.injEq]at r1;omega
 have aa:cap<=9223372036854775807:=by
  rcases M.o.2 with⟨h1,_⟩ | ⟨g',cap',cur,r1,r2,r3,r4,r5,_⟩
  ·cases h1
  ·simp only[Value.slice.injEq]at r1;unfold maxLen at r5;omega
 have ae:g<w.heap.size:=(M.o.lt g rfl).2;have hN: ∀j u,D[j]?=some u->w.cell? ⟨g,(i+1)*4+j,none⟩=some u:=fun j u hj=>by
  rw[F,List.getElem?_drop]at hj;have:=M.o.cells (g:=g) rfl _ u hj;rw[Addr.add_lit]at this;rw[<-this,xg]
 obtain⟨A,hA,Y⟩: ∃A:Addr,(if cap=i+1 then(some ⟨g,0,none⟩:Option Addr)else some ⟨g,(i+1)*4,none⟩)=some A/\Hid (∀t u,D[t]?=some u->w.drew.cell? (A.add t)=some u):=by
  by_cases hc:cap=i+1
  ·refine⟨⟨g,0,none⟩,by simp[hc],Lh fun t u hu=>?_⟩;have h0:D.length=0:=by rw[G];omega
   rw[List.length_eq_zero_iff.1 h0]at hu;simp at hu
  ·refine⟨⟨g,(i+1)*4,none⟩,by simp[hc],Lh fun t u hu=>?_⟩;rw[Addr.add_lit];exact hN t u hu
 have s2:Hid (∀u∈D,u.oneCell'=true):=Lh (fun u hu=>Hd I7 E u (by rw[F]at hu;exact List.mem_of_mem_drop hu));have hcell: ∀j,j<n*4->(w.cell? ⟨g,j,none⟩).isSome=true:=fun j hj=>by
  obtain⟨u,hu⟩: ∃u,(gC BI E)[j]?=some u:=⟨_,xb (by rw[Dq AV,<-hn];exact hj)⟩
  have:=M.o.cells (g:=g) rfl j u hu;rw[Addr.add_lit,xg]at this;rw[this];rfl
 have s3:Hid (∀t,t<D.length->(w.drew.cell? ⟨g,0+i*4+t,none⟩).isSome=true/\w.drew.frozen? ⟨g,0+i*4+t,none⟩=false):=Lh (fun t ht=>⟨hcell _ (by rw[G]at ht;omega),M.o.frozenAt _⟩)
 -- the worlds behind the append and behind the clear
 have R:(gC BI E).length=n*4:=by rw[Dq AV,<-hn]
 have H:=CG D (i*4) (gC BI E) w.drew (show w.drew.ownsRow lo 107 4 _ n _ from M.o) (by rw[G];omega);obtain⟨X,O⟩: ∃X,X=w.drew.setCells g (i*4) D:=⟨_,rfl⟩
 rw[<-Ed,<-O]at H;have J:=CG MG ((n - 1)*4) _ X H.1 (by show _+4<=_;omega);obtain⟨W2,T⟩: ∃W2,W2=X.setCells g ((n - 1)*4) MG:=⟨_,rfl⟩
 rw[<-Ed,<-T]at J;have hcl:=fun ty=>QW X ty g ((n - 1)*4) (cap - (n - 1)) (fun j hj=>by
  obtain⟨u,hu⟩: ∃u,((gC BI E).take (i*4)++D++(gC BI E).drop (i*4+D.length))[(n - 1)*4+j]?=some u:=⟨_,xb (by simp only[xi,xc,xj,R,G];omega)⟩
  have:=H.1.cells (g:=g) rfl _ u hu;rw[Addr.add_lit,xg]at this;rw[this];rfl) (fun j _=>H.1.frozenAt _)
 rw[<-T]at hcl;have HE:=Lh (show W2.ownsRow lo 107 4 (jd (some ⟨g,0,none⟩) (n - 1) cap) (n - 1) (gC BI (E.eraseIdx i))from by
  have h3:=Rv J.1 (show n - 1<=n by omega);have e:gC BI (E.eraseIdx i)=(gC BI E).take (i*4)++D:=by rw[F,Sq AV E i (by omega)]
  have hle:((gC BI E).take (i*4)++D).length=(n - 1)*4:=by rw[xi,xc,R,G,Nat.min_eq_left (by omega)];omega
  have U:((gC BI E).take (i*4)++D++(gC BI E).drop (i*4+D.length)).take ((n - 1)*4)=(gC BI E).take (i*4)++D:=List.take_left' hle;rw[e];rw[U,List.append_assoc,List.take_left' hle]at h3;exact h3)
 have V:Hid (w.drew.grownBy W2 (some g)):=Lh (H.2.trans J.2);clear hn h F hN hcell R H J;have ag:i<=cap:=by omega
 have aj:i+1<=cap:=by omega
 have af:(i:Int)+1<=n:=by omega
 have ah:(0:Int)<=(i:Int)+1:=by omega
 have mixed:Tryz.prog.follows Departure.mixedOrders=true:=by kernel_rfl
 go_enter Tryz.func50,Tryz.ntmps50;go_wp2_with fail;go_region_law_o (refine step_append_room rfl (.tmp 22) (.tmp 25) 29 rfl 107 i0 4 Tryz.underlying29 Z ab g 0 i cap (by simp[Act.eval,Act.put]) A (n - (i+1)) (cap - (i+1)) D (by simp[Act.eval,Act.put]) G Y.o s2.o (by omega) s3.o ?_)
 rw[<-O,show i+(n - (i+1))=n - 1 by omega];clear O T;have e1:n - (n - 1)=1:=by omega
 go_wp2_with fail;go_ret;refine⟨rfl,?_,⟨V.o.os,V.o.tape,V.o.output,V.o.size,fun j hj hne=>V.o.block j hj (fun he=>hne (xm he))⟩⟩;have:=HE.o;unfold Rw;rw[List.length_eraseIdx,if_pos (by rw[<-HN.o];exact hi),<-HN.o];exact this
structure Eu (w:World):Prop where
 m: ∃m:Int,w.cell? ⟨0,0,none⟩=some (ja jb m)
 lens:CD w
 errs:Gk w
 pow:Pow w
 sz:6<w.heap.size
theorem Eu.below{B:Nat}{w w':World}(h:Eu w)(G:6<B)(hb:Below B w w'):Eu w':=by
 obtain⟨⟨m,hm⟩,A,D,F,E⟩:=h;exact⟨⟨m,(hb.cell (p:=⟨0,0,none⟩) (show 0<B by omega)).trans hm⟩,A.below (by omega) hb,D.below (by omega) hb,F.below (by omega) hb,Nat.lt_of_lt_of_le E hb.size⟩
theorem Eu.made{w w':World}(h:Eu w)(hb:Below w.heap.size w w'):Eu w':=h.below h.sz hb
theorem N3(s z:ByteArray)(hz:Tt.code z.data.toList=true)(w:World)(U:Eu w):Calls Tryz.prog 43 #[jc s,jc z] w (OL (Al s z) w):=by
 obtain⟨⟨m,hm⟩,G,V,F,M⟩:=U;by_cases hs:s.size<=262144
 ·cases hu:Tt.unf s.data.toList with
  | none=>
   rw[Hy hs hu];exact(U9 s z m w hs hz hu hm (by omega)).mono fun e w' h=>by rw[h.1];exact OL.empty 4 h.2
  | some ls=>
   rcases CF s z with⟨n,v,es,ls',hp,_,hu',hv,hx⟩ | ⟨c,hc,hp⟩
   ·rw[hu]at hu';cases hu';rw[hp];obtain⟨O,Y,T,E⟩:=BC hv;refine(RH s n z v m es ls w hs hv hz (fun e he=>by have h:=By v es Option.none E e he;exact QJ h.1 h.2) hu hx.symm hm G F M).mono ?_;rintro e w' ⟨H,J,ts,D,rfl,hr,hb⟩;exact⟨H,J,ts,rfl,D,hr,hb⟩
   ·have A: ∀n v es,Aq n v es=0-> ¬(AI n.data.toList v es z.data.toList).map str=AA (ls.map str):=fun n v es h hx=>by
     have:=Hw hs hu h hx;rw[hp]at this;simp only[Prod.mk.injEq]at this;exact hc this.2
    rw[N2 hs hu A];refine(RI s z m ls w hs hz hu hm G V F M).mono ?_;rintro e w' (⟨rfl,hb⟩ | ⟨Z,v2,H,J,ts,rfl,X,R,hr,hb⟩)
    ·exact OL.empty 15 hb
    ·exact absurd R (A _ _ _ X)
 ·rw[N1 (by omega)];exact(Wl s z w (by omega)).mono fun e w' h=>by rw[h.1];exact OL.empty 2 h.2
theorem I3(s z:ByteArray):0<=(Al s z).1.2.1/\(Al s z).1.2.1<=64:=by
 rcases CF s z with⟨n,v,es,ls,hp,_,_,hv,_⟩ | ⟨c,_,hp⟩
 ·rw[hp];obtain⟨w,A,_⟩:=BC hv;exact⟨w,A⟩
 ·rw[hp];exact⟨Int.le_refl _,by show(0:Int)<=64;decide⟩
theorem Hx{s z:ByteArray}(h:(Al s z).2=0):s.size<=262144:=by
 rcases CF s z with⟨n,v,es,ls,hp,hs,_⟩ | ⟨c,hc,hp⟩
 ·exact hs
 ·rw[hp]at h;exact absurd h hc
theorem IH(b:Nat)(z c:ByteArray)(v2 v3 v4:Value)(w:World)(E:Af b #[jc z,jc c,v2,v3,v4] 85 w)(hz:Tt.code z.data.toList=true)(T:Eu w):
  Calls Tryz.prog 46 #[jf (some ⟨b,0,none⟩)] w fun e w'=>e=jh (ja jb (Al c z).1.2.1)/\Below w.heap.size w w':=by
 have R:=Lh (N3 c z hz);have O:=Lh T;have HB:=Lh E;have c0:w.cell? ⟨b,0,none⟩=some (jc z):=E.cell 0;have c1:w.cell? ⟨b,1,none⟩=some (jc c):=E.cell 1;have A:Hid (∀W',Below w.heap.size w W'->W'.cell? ⟨b,0,none⟩=some (jc z)/\W'.cell? ⟨b,1,none⟩=some (jc c)):=Lh (fun W' h=>⟨(E.below h E.lt).cell 0,(E.below h E.lt).cell 1⟩);have V:=E.lt;clear hz T E;go_enter Tryz.func46,Tryz.ntmps46;go_upto_region 1 with(fail);go_region_held3 (fun W'=>W'.cell? ⟨b,0,none⟩=some (jc z)/\W'.cell? ⟨b,1,none⟩=some (jc c)) (first | exact A.o _ (Below.refl _ _) | exact A.o _ (Ac (Below.refl _ _)) | exact A.o _ (Aa _ _) | exact A.o _ (Ac (Aa _ _)) | exact A.o _ D | exact A.o _ D.1 | exact A.o _ (D.alloc D.size _) | exact A.o _ (((D.1.setCell (xa _) _).setCell (xa _) _).setCell (xa _) _)) (first | (go_at_call 43;(with_reducible refine(R.o _ (O.o.made (Ac (Below.refl _ _)))).mono ?_);rintro e G ⟨H,J,ts,rfl,M,U,F⟩;have D:Below w.heap.size w G:=(Ac (Below.refl _ w)).trans F) | (go_at_call 43;(with_reducible refine(R.o _ (O.o.made (Ac (Aa _ _)))).mono ?_);rintro e G ⟨H,J,ts,rfl,M,U,F⟩;have D:Below w.heap.size w G/\Af w.heap.size #[jc ⟨#[]⟩,ja jb 0,jd none 0 0] 41 G:=⟨(Ac (Aa w _)).trans (F.mono (by simp)),(Af.new w _ _).draw.below F (by simp)⟩;have q0:=D.2.c3;have Z:=D.2.frozen 0;have Y:=D.2.frozen 1;have p2:=D.2.frozen 2))
 ·have hb:=D.alloc D.size (ji #[Value.string (Al c z).1.1,ja jb (Al c z).1.2.1,Value.slice H ts.length J] 41);go_wp2_with fail;go_ret;exact⟨rfl,hb⟩
 ·have hb:=((D.1.setCell (p:=⟨w.heap.size,0,none⟩) (xa _) (Value.string (Al c z).1.1)).setCell (p:=⟨w.heap.size,1,none⟩) (xa _) (ja jb (Al c z).1.2.1)).setCell (p:=⟨w.heap.size,2,none⟩) (xa _) (Value.slice H ts.length J);have X:=(((D.2.set 0 (Value.string (Al c z).1.1)).set 1 (ja jb (Al c z).1.2.1)).set 2 (Value.slice H ts.length J)).cell 1;go_wp2_with fail;go_ret;exact⟨rfl,hb⟩
def AB(e:TypeId)(w w':World):Prop:=∀g cs ty,ty≠e->Af g cs ty w->Af g cs ty w'
theorem AB.trans{e:TypeId}{w w' A:World}(h:AB e w w')(k:AB e w' A):AB e w A:=fun g cs ty D E=>k g cs ty D (h g cs ty D E)
theorem AB.made{e:TypeId}{w w':World}(h:Below w.heap.size w w'):AB e w w':=fun _ _ _ _ A=>A.below h A.lt
theorem AB.grown{e:TypeId}{B k n:Nat}{w w':World}{v:Value}{xs:List Value}(h:w.ownsRow B e k v n xs)(hg:w.grownBy w' v.ownBlock):AB e w w':=fun _ _ _ A D=>D.grown h hg A
theorem AB.but{e:TypeId}{g:Nat}{cs:Array Value}{w w':World}(h:Af g cs e w)(hb:AO g w.heap.size w w'):AB e w w':=fun _ _ _ D A=>A.but hb (A.ne h D)
theorem AB.set{e:TypeId}{g i:Nat}{cs:Array Value}{w:World}{u:Value}(h:Af g cs e w):AB e w (w.setCell ⟨g,i,none⟩ u):=fun _ _ _ D A=>A.set_other (A.ne h D) i u
theorem AG{lo k n:Nat}{e A:TypeId}{w w':World}{v:Value}{xs:List Value}(h:w.ownsRow lo A k v n xs)(hk:AB e w w')(hne:A≠e):w'.ownsRow lo A k v n xs:=by
 refine⟨h.1,?_⟩;rcases h.2 with D | ⟨g',cap,cur,r1,r2,r3,r4⟩
 ·exact .inl D
 ·exact .inr ⟨g',cap,cur,r1,r2,hk g' cur A hne r3,r4⟩
theorem Av.keptT{lo:Nat}{e:TypeId}{w w':World}{v:Value}{ts:List (Ev × Value × Value)}(h:Av lo w v ts)(hk:AB e w w')(D:(61:TypeId)≠e)(A:(3:TypeId)≠e):Av lo w' v ts:=
 ⟨AG h.row hk D,fun t ht=>⟨(h.ref t ht).1,AG (h.ref t ht).2.1 hk A,AG (h.ref t ht).2.2 hk A⟩⟩
theorem Bi.ways{b lo:Nat}{w w':World}{W:A3}{F:List Bt}{vw D E A:Value}{xs:List BZ}{G:List Hl}(h:Bi b lo w W F vw D E xs)(hk:AB 107 w w')(hr:Rw BI 4 107 lo w' A G):Bi b lo (w'.setCell ⟨b,2,none⟩ A) { W with way:=G } F A D E xs:=by
 have hb:=hk b _ 85 (by decide) h.box;exact⟨hb.set 2 A,h.ge,hr.set hb (by decide) 2 A,(show Rw NB 3 47 lo w' D xs from AG h.rds hk (by decide)).set hb (by decide) 2 A,(show Rw BM 4 56 lo w' E F from AG h.nts hk (by decide)).set hb (by decide) 2 A,
  fun x hx=>((h.evs x hx).keptT hk (by decide) (by decide)).set hb (by decide) (by decide) 2 A,h.rmap⟩
theorem Bi.wayIn{b lo:Nat}{w w':World}{W:A3}{E:List Bt}{vw F D:Value}{xs:List BZ}{A:List Hl}(h:Bi b lo w W E vw F D xs)(hk:AB 107 w w')(hr:Rw BI 4 107 lo w' vw A):Bi b lo w' { W with way:=A } E vw F D xs:=
 ⟨hk b _ 85 (by decide) h.box,h.ge,hr,AG h.rds hk (by decide),AG h.nts hk (by decide),fun x hx=>(h.evs x hx).keptT hk (by decide) (by decide),h.rmap⟩
def Ff(b lo:Nat)(x:(A3 × List Bt) × Int)(w:World)(e:Ending)(w':World):Prop:=
 ∃vw vr vn xs,e=jh (ja jb x.2)/\Bi b lo w' x.1.1 x.1.2 vw vr vn xs/\Below lo w w'
def We(m:Hl):Value:=.agg #[ja jb m.rd,je m.ans,ja jb m.tag,jc m.body]
def C6(W:A3)(m:Hl):A3 × Int:=if W.way.length=64 then(W,67)else({ W with way:=W.way++[m] },0)
theorem PZ{b lo n:Nat}{cs:Array Value}{w E:World}{vw:Value}{ys:List Value}(D:Af b cs 85 w)(A:w.ownsRow lo 107 4 vw n ys)(hg:w.grownBy E vw.ownBlock):(∀i,E.cell? ⟨b,i,none⟩=cs[i]?)/\ ∀i,E.frozen? ⟨b,i,none⟩=false:=by
 have h:=D.grown A hg (by decide);exact⟨fun i=>h.cell i,fun i=>h.frozen i⟩
theorem OR(b lo:Nat)(W:A3)(ns:List Bt)(vw vr vn:Value)(xs:List BZ)(m:Hl)(w:World)(hM:Bi b lo w W ns vw vr vn xs)(hlo:lo<=w.heap.size)(hl:W.way.length<=64):
  Calls Tryz.prog 47 #[jf (some ⟨b,0,none⟩),We m] w (Ff b lo (((C6 W m).1,ns),(C6 W m).2) w):=by
 obtain⟨i0,hi,af,Z,ac⟩:=info_parts Lt;obtain⟨X,cw,rfl, -, -⟩:=hM.way.form;obtain⟨A,J⟩: ∃A,A=w.alloc (ji #[ja jb m.rd,je m.ans,ja jb m.tag,jc m.body] 107):=⟨_,rfl⟩
 have H:=Lh (show Below w.heap.size w A from by rw[J];exact Aa w _);have E:=Lh (hM.made H.o);have F:=Lh (show Af w.heap.size #[ja jb m.rd,je m.ans,ja jb m.tag,jc m.body] 107 A from by rw[J];exact Af.new w _ _);obtain⟨P,V⟩: ∃P,P=w.heap.size:=⟨_,rfl⟩
 have ah:=Lh V;rw[<-V]at F;have ak:P<A.heap.size:=F.o.lt;have ai:b<A.heap.size:=E.o.box.lt;have c2:A.cell? ⟨b,2,none⟩=some (jd X W.way.length cw):=E.o.box.cell 2;have f2:A.frozen? ⟨b,2,none⟩=false:=E.o.box.frozen 2;have m0:A.cell? ⟨P,0,none⟩=some (ja jb m.rd):=F.o.cell 0;have m1:A.cell? ⟨P,1,none⟩=some (je m.ans):=F.o.cell 1;have m2:A.cell? ⟨P,2,none⟩=some (ja jb m.tag):=F.o.cell 2;have m3:A.cell? ⟨P,3,none⟩=some (jc m.body):=F.o.cell 3;have O:Hid (lo<=A.heap.size):=Lh (xd hlo H.o.size);obtain⟨n,hn⟩: ∃n,n=W.way.length:=⟨_,rfl⟩
 have HN:=Lh hn;rw[<-hn]at c2 hl;have HS:=Lh (show C6 W m=if n=64 then(W,67)else({ W with way:=W.way++[m] },0)from by rw[hn];rfl);have T:=Lh hlo;unfold We;clear hM hlo hn;go_enter Tryz.func47,Tryz.ntmps47;go_upto_region 1 with(fail);rw[<-J,<-V];clear J V;by_cases R:n=64
 ·have U:((n:Int)==64)=true:=by rw[R];rfl
  have HR:=Lh (show C6 W m=(W,67)from by rw[HS.o,if_pos R]);go_wp2_with fail;go_ret;rw[HR.o];exact⟨_,_,_,_,rfl,E.o,H.o.mono T.o⟩
 ·have U:((n:Int)==64)=false:=by simp;omega
  have HR:=Lh (show C6 W m=({ W with way:=W.way++[m] },0)from by rw[HS.o,if_neg R]);go_upto_region 3 with(fail);have M:=Lh (show A.ownsRow lo 107 4 (jd X n cw) n (gC BI W.way)from by rw[HN.o];exact E.o.way);go_region_law (first | (refine step_append_lies _ (by rfl) _ _ _ (by rfl) lo 107 i0 _ 4 40 Tryz.underlying29 hi af Z ac rfl (by decide) (jd X n cw) n (gC BI W.way) (by rfl) (M.o.alloc _) ⟨A.heap.size,0,none⟩ 1 1 (BI m) (by rfl) (by rfl) (Bd (Af.new A _ _)) (I7 m) (by omega) (by unfold maxLen;omega) (by omega) (by have:=O.o;simp;omega) (A.heap.size+1) (by simp) ?_;intro gg cap w1 G D ag aj;obtain⟨cA,fA⟩:=PZ ((E.o.box.alloc _).draw) (M.o.alloc _) D;have ae:=cA 2;have Y:=fA 2))
  all_goals
   have HK:=Lh ((AB.made (e:=107) (Ac (Aa A (ji #[ja jb m.rd,je m.ans,ja jb m.tag,jc m.body] 107)))).trans (AB.grown (M.o.alloc _) D));have ab:=Lh (Ak ((H.o.mono T.o).trans ((Ac (Aa A (ji #[ja jb m.rd,je m.ans,ja jb m.tag,jc m.body] 107))).mono O.o)) (M.o.alloc _) (xa _) (by have:=O.o;simp;omega) D);have aa:=Lh (E.o.ways HK.o (Rw.snoc (show w1.ownsRow lo 107 4 (jd (some ⟨gg,0,none⟩) (n+1) cap) (W.way.length+1) (gC BI W.way++BI m)from by rw[<-HN.o];exact G)));clear D G ag cA fA ae Y HK;go_wp2_with fail;go_ret;rw[HR.o];exact⟨_,_,_,_,rfl,aa.o,ab.o.setCell (p:=⟨b,2,none⟩) E.o.ge _⟩
theorem Rw.rd{α:Type}{f:α->List Value}{k:Nat}{e:TypeId}{lo n c:Nat}{w:World}{ao:Option Addr}{xs:List α}(h:Rw f k e lo w (jd ao n c) xs):Rd f w.heap.size w ao xs:=by
 obtain⟨a,c',hv, -,hr⟩:=h.form;simp only[Value.slice.injEq]at hv;rw[hv.1];exact hr
theorem Fg{W:A3}{xs:List BZ}{j:Nat}{x:BZ}(h:xs.map BZ.r=W.rds)(hx:xs[j]?=some x):W.rds[j]?=some x.r:=by rw[<-h,List.getElem?_map,hx];rfl
def DN(s:D7)(af:Option Addr)(cf:Nat):Value:=.agg #[ja jb s.kind,ja jb s.pos,ja jb s.n,jc s.fn,ja jb s.fv,jd af s.es.length cf]
def GM(W:A3)(s:D7):A3 × Int:=if s.pos<0∨(W.rds.length:Int)<=s.pos then(W,3)else C6 W ⟨s.pos,false,(W.rds.getD s.pos.toNat ⟨0,0,[]⟩).tag,⟨#[]⟩⟩
def Gd(W:A3)(i:Int):Bool:=decide (0<=i/\i<(W.way.length:Int))
def DW(W:A3)(s:D7):A3 × Int:=if Gd W s.pos=false then(W,60)else({ W with way:=W.way.eraseIdx s.pos.toNat },0)
theorem Rw.own{α:Type}{f:α->List Value}{k:Nat}{e:TypeId}{lo n c:Nat}{w:World}{ao:Option Addr}{xs:List α}(h:Rw f k e lo w (jd ao n c) xs)(hx:0<xs.length): ∃g cs,ao=some ⟨g,0,none⟩/\n=xs.length/\lo<=g/\Af g cs e w:=by
 rcases(show w.ownsRow lo e k _ xs.length (gC f xs)from h).2 with⟨_,h0⟩ | ⟨g,cap,cur,hv,r2,r3,_⟩
 ·omega
 ·simp only[Value.slice.injEq]at hv;exact⟨g,cur,hv.1,hv.2.1,r2,r3⟩
theorem Pm{lo g:Nat}{w w':World}(h:AO g w.heap.size w w')(hg:lo<=g)(hl:lo<=w.heap.size):Below lo w w':=⟨h.os,h.tape,h.output,h.size,fun k hk=>h.block k (by omega) (by omega)⟩
theorem Fi{s:ByteArray}(h: ¬s=⟨#[]⟩):s.toList.isEmpty=false:=by
 have w:=D9 h;cases hs:s.toList with
 | nil=>rw[hs,show(⟨#[]⟩:ByteArray).toList=[]from by rw[Lib.toList_data]]at w;cases w
 | cons=>rfl
theorem Av.sgE{lo n c:Nat}{w:World}{ao:Option Addr}{ts:List (Ev × Value × Value)}(h:Av lo w (jd ao n c) ts):Fv w.heap.size w ao ts:=by
 obtain⟨a,c',hv, -,hs⟩:=h.seg;simp only[Value.slice.injEq]at hv;rw[hv.1];exact hs
theorem K1{e:Ev}{v:Int}(h:Ax e v=0):Tt.serV e.days=0:=by
 unfold Ax at h;split at h
 ·cases h
 ·split at h
  ·contradiction
  ·rename_i w
   simpa using w
theorem Ms{v:Int}{es:List Ev}(h:Cw v es=true): ∀e∈es,e.days.ex.length<=1000000/\e.days.xt.length<=1000000:=by
 intro e he;have hh:=((Tt.serV_zero _).1 (K1 (By v es none ((BT v es).1 h).2.2.2 e he).2)).1.n;omega
theorem Oh{n:ByteArray}{v:Int}{es:List Ev}(h:Aq n v es=0): ∀e∈es,e.days.ex.length<=1000000/\e.days.xt.length<=1000000:=by
 intro e he;have hh:=((Tt.serV_zero _).1 (K1 (By v es none (BC h).2.2.2 e he).2)).1.n;omega
theorem Mn{lo k n c g g':Nat}{e:TypeId}{w:World}{xs:List Value}(h:w.ownsRow lo e k (jd (some ⟨g,0,none⟩) n c) n xs)(hne:g'≠g)(i:Nat)(u:Value):(w.setCell ⟨g',i,none⟩ u).ownsRow lo e k (jd (some ⟨g,0,none⟩) n c) n xs:=by
 refine⟨h.1,?_⟩;rcases h.2 with A | ⟨g2,cap,cur,r1,r2,r3,r4⟩
 ·exact .inl A
 ·have:g2=g:=by simp only[Value.slice.injEq,Option.some.injEq,Addr.mk.injEq,and_true,true_and]at r1;exact r1.1.symm
  exact .inr ⟨g2,cap,cur,r1,r2,(Below.heap_setCell _ _ _ _ (by rw[this];exact Ne.symm hne)).trans r3,r4⟩
theorem Bi.boxN{b lo gr F N:Nat}{cs:Array Value}{w:World}{W:A3}{E:List Bt}{vw D:Value}{xs:List BZ}(h:Bi b lo w W E vw (jd (some ⟨gr,0,none⟩) xs.length F) D xs)(A:Af N cs 47 w)(hne:N≠gr)(i:Nat)(u:Value):Bi b lo (w.setCell ⟨N,i,none⟩ u) W E vw (jd (some ⟨gr,0,none⟩) xs.length F) D xs:=
 ⟨h.box.set_other (h.box.ne A (by decide)) i u,h.ge,h.way.set A (by decide) i u,Mn h.rds hne i u,h.nts.set A (by decide) i u,fun x hx=>(h.evs x hx).set A (by decide) (by decide) i u,h.rmap⟩
theorem Bi.rdPut{b lo gr E j:Nat}{w:World}{W:A3}{O:List Bt}{vw M:Value}{xs:List BZ}{o X:BZ}(h:Bi b lo w W O vw (jd (some ⟨gr,0,none⟩) xs.length E) M xs)(ho:xs[j]?=some o)(R:Av lo w (jd X.ao X.ts.length X.c) X.ts):
  Bi b lo (((w.setCell ⟨gr,j*3,none⟩ (ja jb X.v)).setCell ⟨gr,j*3+1,none⟩ (ja jb X.tag)).setCell ⟨gr,j*3+2,none⟩ (jd X.ao X.ts.length X.c)) { W with rds:=W.rds.set j X.r } O vw (jd (some ⟨gr,0,none⟩) xs.length E) M (xs.set j X)/\
  ∀q,lo<=q.heap.size->Below lo q w->Below lo q (((w.setCell ⟨gr,j*3,none⟩ (ja jb X.v)).setCell ⟨gr,j*3+1,none⟩ (ja jb X.tag)).setCell ⟨gr,j*3+2,none⟩ (jd X.ao X.ts.length X.c)):=by
 have hj:j<xs.length:=(xf.1 ho).1;have J:=Rw.put Cs h.rds (i:=j) (q:=0) (x:=o) (x':={ o with v:=X.v }) (u:=ja jb X.v) ho (by omega) rfl;have D:=Rw.put Cs (show Rw NB 3 47 lo _ (jd (some ⟨gr,0,none⟩) (xs.set j { o with v:=X.v }).length E) _ from by rw[List.length_set];exact J.1) (i:=j) (q:=1) (x:={ o with v:=X.v }) (x':={ o with v:=X.v,tag:=X.tag }) (u:=ja jb X.tag) (List.getElem?_set_self hj) (by omega) rfl;rw[List.set_set]at D;have F:=Rw.put Cs (show Rw NB 3 47 lo _ (jd (some ⟨gr,0,none⟩) (xs.set j { o with v:=X.v,tag:=X.tag }).length E) _ from by rw[List.length_set]at D ⊢;exact D.1) (i:=j) (q:=2) (x:={ o with v:=X.v,tag:=X.tag }) (x':=X) (u:=jd X.ao X.ts.length X.c) (List.getElem?_set_self hj) (by omega) rfl;rw[List.set_set]at F;simp only[List.length_set,xk]at J D F;have hk:AB 47 w (((w.setCell ⟨gr,j*3,none⟩ (ja jb X.v)).setCell ⟨gr,j*3+1,none⟩ (ja jb X.tag)).setCell ⟨gr,j*3+2,none⟩ (jd X.ao X.ts.length X.c)):=by
  obtain⟨g2,cs,H, -, -,A⟩:=Rw.own h.rds (by omega);cases H;exact((AB.set A).trans (AB.set (A.set _ _))).trans (AB.set ((A.set _ _).set _ _))
 refine⟨⟨hk b _ 85 (by decide) h.box,h.ge,AG h.way hk (by decide),(by have:=F.1;unfold Rw at this ⊢;rw[List.length_set];rw[List.length_set]at this;exact this),AG h.nts hk (by decide),fun x hx=>?_,?_⟩,fun q hq hb=>?_⟩
 ·rcases List.mem_or_eq_of_mem_set hx with hm | rfl
  ·exact(h.evs x hm).keptT hk (by decide) (by decide)
  ·exact R.keptT hk (by decide) (by decide)
 ·show(xs.set j X).map BZ.r=W.rds.set j X.r
  rw[List.map_set,h.rmap]
 ·obtain⟨g2,cs,H, -,G,A⟩:=Rw.own h.rds (by omega);cases H;exact((hb.setCell (p:=⟨gr,j*3,none⟩) G _).setCell (p:=⟨gr,j*3+1,none⟩) G _).setCell (p:=⟨gr,j*3+2,none⟩) G _
theorem Bi.noted{b lo:Nat}{w w':World}{W:A3}{G E:List Bt}{vw D F A:Value}{xs:List BZ}(h:Bi b lo w W G vw D F xs)(hk:AB 56 w w')(hr:Rw BM 4 56 lo w' A E):Bi b lo (w'.setCell ⟨b,4,none⟩ A) W E vw D A xs:=by
 have hb:=hk b _ 85 (by decide) h.box;exact⟨hb.set 4 A,h.ge,(show Rw BI 4 107 lo w' vw W.way from AG h.way hk (by decide)).set hb (by decide) 4 A,(show Rw NB 3 47 lo w' D xs from AG h.rds hk (by decide)).set hb (by decide) 4 A,hr.set hb (by decide) 4 A,
  fun x hx=>((h.evs x hx).keptT hk (by decide) (by decide)).set hb (by decide) (by decide) 4 A,h.rmap⟩
theorem MH{rv tag:Int}{es:List Ev}{n:ByteArray}{v:Int}{fs:List Ev}{v' D c:Int}{us:List Ev}{A:List Nt}(h:BK rv tag es n v fs=(v',D,us,A,c))(hf:Aq n v fs=0):A.length<=256:=by
 have w:=congrArg (fun q=>q.2.2.2.1.length) h;simp only at w;rw[<-w];have hl:=(BC hf).2.2.1;have hm:=(Fj es fs fs.length (xa _)).2;rw[Iz]at hm;unfold BK;split
 ·simp
 ·split
  ·simp
  ·split
   ·simp
   ·split
    ·simp
    ·simp only;omega
theorem Ql{b lo n:Nat}{cs:Array Value}{w E:World}{vw:Value}{ys:List Value}(D:Af b cs 85 w)(A:w.ownsRow lo 56 4 vw n ys)(hg:w.grownBy E vw.ownBlock):(∀i,E.cell? ⟨b,i,none⟩=cs[i]?)/\ ∀i,E.frozen? ⟨b,i,none⟩=false:=by
 have h:=D.grown A hg (by decide);exact⟨fun i=>h.cell i,fun i=>h.frozen i⟩
theorem O8(j:Nat)(h:j<=1000000):IntKind.i64.wrap ((j:Int)+1)=(j:Int)+1:=IntWalk.i64_in _ (by omega)
theorem Nv{b g:Nat}{cs A:Array Value}{w w':World}(hb:Af b cs 85 w)(hg:Af g A 107 w)(h:AO g w.heap.size w w'):w'.cell? ⟨b,2,none⟩=cs[2]?/\w'.frozen? ⟨b,2,none⟩=false:=by
 have:=hb.but h (hb.ne hg (by decide));exact⟨this.cell 2,this.frozen 2⟩
def Lm(W:A3)(s:D7):A3 × Int:=if Gd W s.pos=false then(W,60)else C6 W (W.way.getD s.pos.toNat ⟨0,false,0,⟨#[]⟩⟩)
def Ir(s:ByteArray)(n:Int):ByteArray:=s.extract 0 (min (max n 0) s.size).toNat
def Kf(W:A3)(s:D7):A3 × Int:=
 if Gd W s.pos=false then(W,60)
 else if(W.way.getD s.pos.toNat ⟨0,false,0,⟨#[]⟩⟩).ans=false then(W,60)
 else({ W with way:=W.way.set s.pos.toNat { W.way.getD s.pos.toNat ⟨0,false,0,⟨#[]⟩⟩with body:=Ir (W.way.getD s.pos.toNat ⟨0,false,0,⟨#[]⟩⟩).body s.n } },0)
def DM(W:A3):Int:=(Al W.cur W.zone).1.2.1
def J7(W:A3):Int:=if W.cur=⟨#[]⟩then 0 else BH W.cur (DM W)
def Cc(W:A3)(m:Hl):Hl:=⟨m.rd,true,J7 W,if m.tag=J7 W then m.body else W.cur⟩
def Cb(W:A3)(s:D7):A3 × Int:=
 if Gd W s.pos=false then(W,60)
 else if(W.way.getD s.pos.toNat ⟨0,false,0,⟨#[]⟩⟩).ans=true then(W,60)
 else({ W with way:=W.way.set s.pos.toNat (Cc W (W.way.getD s.pos.toNat ⟨0,false,0,⟨#[]⟩⟩)) },0)
def DP(W:A3)(s:D7):A3 × Int:=
 if(Bh s.fn s.fv s.es W.zone).2≠0 then(W,(Bh s.fn s.fv s.es W.zone).2)
 else if W.cur=⟨#[]⟩then({ W with cur:=str (Bh s.fn s.fv s.es W.zone).1 },0)
 else if s.fv<DM W∨(s.fv=DM W/\ ¬str (Bh s.fn s.fv s.es W.zone).1=W.cur)then(W,63)
 else({ W with cur:=str (Bh s.fn s.fv s.es W.zone).1 },0)
def CM(k:Nat)(m:Hl):Bool:=decide (0<=m.rd) && (decide (m.rd<(k:Int)) && (m.ans || decide (m.body=⟨#[]⟩)))
def FR(W:A3):Bool:=Tt.code W.zone.data.toList && (decide (W.way.length<=64) && (decide (1<=W.rds.length) && (decide (W.rds.length<=24) && ((decide (W.cur=⟨#[]⟩) || decide ((Al W.cur W.zone).2=0)) && (W.way.all (CM W.rds.length) && W.rds.all (fun r=>Cw r.v r.es))))))
structure BF (W:A3):Prop where
 zone:Tt.code W.zone.data.toList=true
 way:W.way.length<=64
 one:1<=W.rds.length
 few:W.rds.length<=24
 cur:W.cur=⟨#[]⟩∨(Al W.cur W.zone).2=0
 msg: ∀m∈W.way,CM W.rds.length m=true
 rds: ∀r∈W.rds,Cw r.v r.es=true
theorem CN(W:A3):FR W=true ↔ BF W:=by
 unfold FR;simp only[Bool.and_eq_true,Bool.or_eq_true,decide_eq_true_eq,List.all_eq_true];exact⟨fun⟨w,A,G,F,E,H,D⟩=>⟨w,A,G,F,E,H,D⟩,fun h=>⟨h.zone,h.way,h.one,h.few,h.cur,h.msg,h.rds⟩⟩
theorem BF.size{W:A3}(h:BF W):W.cur.size<=262144:=by
 rcases h.cur with h | h
 ·rw[h];decide
 ·exact Hx h
def Cz(W:A3)(m:Hl):A3 × List Bt:=
 if(Al m.body W.zone).2≠0∨ ¬BH m.body (Al m.body W.zone).1.2.1=m.tag then(W,[])
 else match W.rds[m.rd.toNat]? with
  | none=>(W,[])
  | some o=>
   if(BK o.v o.tag o.es (Al m.body W.zone).1.1 (Al m.body W.zone).1.2.1 (Al m.body W.zone).1.2.2).2.2.2.2≠0 then(W,[])
   else({ W with rds:=W.rds.set m.rd.toNat ⟨(BK o.v o.tag o.es (Al m.body W.zone).1.1 (Al m.body W.zone).1.2.1 (Al m.body W.zone).1.2.2).1,if o.v<=(Al m.body W.zone).1.2.1 then m.tag else(BK o.v o.tag o.es (Al m.body W.zone).1.1 (Al m.body W.zone).1.2.1 (Al m.body W.zone).1.2.2).2.1,(BK o.v o.tag o.es (Al m.body W.zone).1.1 (Al m.body W.zone).1.2.1 (Al m.body W.zone).1.2.2).2.2.1⟩ },(BK o.v o.tag o.es (Al m.body W.zone).1.1 (Al m.body W.zone).1.2.1 (Al m.body W.zone).1.2.2).2.2.2.1.map (Bt.mk m.rd))
theorem IF{W:A3}{m:Hl}(h:(Al m.body W.zone).2≠0∨ ¬BH m.body (Al m.body W.zone).1.2.1=m.tag):Cz W m=(W,[]):=if_pos h
theorem K0{W:A3}{m:Hl}{o:Ti}{f:ByteArray}{v:Int}{es:List Ev}{v' A c:Int}{us:List Ev}{w:List Nt}(h: ¬((Al m.body W.zone).2≠0∨ ¬BH m.body (Al m.body W.zone).1.2.1=m.tag))(ho:W.rds[m.rd.toNat]?=some o)(D:(Al m.body W.zone).1=(f,v,es))(hm:BK o.v o.tag o.es f v es=(v',A,us,w,c)):
  Cz W m=if c≠0 then(W,[])else({ W with rds:=W.rds.set m.rd.toNat ⟨v',if o.v<=v then m.tag else A,us⟩ },w.map (Bt.mk m.rd)):=by
 unfold Cz;rw[if_neg h,ho];simp only[D,hm]
def JF(W:A3)(ns:List Bt)(s:D7):(A3 × List Bt) × Int:=
 if Gd W s.pos=false then((W,ns),60)
 else if(W.way.getD s.pos.toNat ⟨0,false,0,⟨#[]⟩⟩).ans=false then((W,ns),60)
 else(((Cz { W with way:=W.way.eraseIdx s.pos.toNat } (W.way.getD s.pos.toNat ⟨0,false,0,⟨#[]⟩⟩)).1,ns++(Cz { W with way:=W.way.eraseIdx s.pos.toNat } (W.way.getD s.pos.toNat ⟨0,false,0,⟨#[]⟩⟩)).2),0)
def DD(W:A3)(aw:Option Addr)(cw:Nat)(ar:Option Addr)(cr:Nat):Array Value:=#[jc W.zone,jc W.cur,jd aw W.way.length cw,jd ar W.rds.length cr]
theorem Qo:Aq ⟨#[110,111,110,101]⟩ 0 []=0:=by unfold Aq;rw[if_neg (by decide),if_neg (by decide),if_neg (by decide)];rfl
def Wx(W:A3)(w:World)(e:Ending)(w':World):Prop:=∃b vw vr vn ys,e=jh (jf (some ⟨b,0,none⟩))/\Bi b w.heap.size w' W [] vw vr vn ys/\Below w.heap.size w w'
theorem Bi.rdSnoc{b lo:Nat}{w w':World}{W:A3}{r:List Ti}{E:List Bt}{vw G D A:Value}{xs:List BZ}{X:BZ}(h:Bi b lo w { W with rds:=r } E vw G D xs)(F:Av lo w (jd X.ao X.ts.length X.c) X.ts)(hk:AB 47 w w')(hr:w'.ownsRow lo 47 3 A (xs.length+1) (gC NB xs++NB X)):Bi b lo (w'.setCell ⟨b,3,none⟩ A) { W with rds:=r++[X.r] } E vw A D (xs++[X]):=by
 have hb:=hk b _ 85 (by decide) h.box;exact⟨hb.set 3 A,h.ge,(show Rw BI 4 107 lo w' vw W.way from AG h.way hk (by decide)).set hb (by decide) 3 A,(Rw.snoc hr).set hb (by decide) 3 A,(show Rw BM 4 56 lo w' D E from AG h.nts hk (by decide)).set hb (by decide) 3 A,
  fun x hx=>(by
   rcases List.mem_append.1 hx with hm | hm
   ·exact((h.evs x hm).keptT hk (by decide) (by decide)).set hb (by decide) (by decide) 3 A
   ·rw[List.mem_singleton.1 hm];exact(F.keptT hk (by decide) (by decide)).set hb (by decide) (by decide) 3 A),by rw[List.map_append,h.rmap];rfl⟩
theorem TC{b lo n:Nat}{cs:Array Value}{w E:World}{vw:Value}{ys:List Value}(D:Af b cs 85 w)(A:w.ownsRow lo 47 3 vw n ys)(hg:w.grownBy E vw.ownBlock):(∀i,E.cell? ⟨b,i,none⟩=cs[i]?)/\ ∀i,E.frozen? ⟨b,i,none⟩=false:=by
 have h:=D.grown A hg (by decide);exact⟨fun i=>h.cell i,fun i=>h.frozen i⟩
theorem Pp(W:A3)(aw ar:Option Addr)(cw cr:Nat)(xs:List BZ)(w:World)(hA:Pr w.heap.size w W aw cw ar cr xs)(hV:BF W):
  Calls Tryz.prog 29 #[.agg (DD W aw cw ar cr)] w (Wx W w):=by
 obtain⟨i0,a8,bt,bi,bl⟩:=info_parts O6;obtain⟨W0,R⟩: ∃W0,W0=(w.alloc (ji #[jc W.zone,jc W.cur,jd aw W.way.length cw,jd ar W.rds.length cr] 32)).alloc (ji #[jc W.zone,jc W.cur,jd aw W.way.length cw,jd ar W.rds.length cr,jd none 0 0] 85):=⟨_,rfl⟩
 have aA:=Lh (show Below w.heap.size w W0 from by rw[R];exact(Aa w _).alloc (by simp) _);have ap:=Lh (show Af w.heap.size (DD W aw cw ar cr) 32 W0 from by rw[R];exact(Af.new w _ _).alloc _);have ai:=Lh (show Af (w.heap.size+1) #[jc W.zone,jc W.cur,jd aw W.way.length cw,jd ar W.rds.length cr,jd none 0 0] 85 W0 from by rw[R];exact Af.new' (g:=w.heap.size+1) _ _ _ (by simp));have HA:=Lh (hA.below aA.o);have HV:=Lh hV;have bc:w.heap.size+2=W0.heap.size:=by rw[R];simp
 have bh:=Lh (show xs.length=W.rds.length from by rw[<-hA.rmap,xe]);have aX:=Lh (SO aw cw W.way W0 (HA.o.way.mono (by omega)) HA.o.wnil (by have:=hV.way;omega));unfold DD;clear hA hV;go_enter Tryz.func29,Tryz.ntmps29;go_wp2_with fail;rw[<-R];refine aX.o.mono ?_;rintro e Y ⟨ac,cc,rfl,aJ,hb1⟩;obtain⟨P,hP⟩: ∃P,P=w.heap.size:=⟨_,rfl⟩
 obtain⟨B,hB⟩: ∃B,B=w.heap.size+1:=⟨_,rfl⟩
 obtain⟨lo,hlo⟩: ∃lo,lo=w.heap.size:=⟨_,rfl⟩
 rw[<-hB]at ai;rw[<-hP]at ap;rw[<-hB,<-hP];have ay:=Lh hlo;have aL:=Lh (show Below lo w Y from by rw[hlo];exact aA.o.trans (hb1.mono (by omega)));have J:=Lh (ai.o.below hb1 ai.o.lt);have aE:=Lh (ap.o.below hb1 ap.o.lt);have aj:=Lh (HA.o.below (hb1.mono (show w.heap.size<=W0.heap.size by omega)));have aF:=Lh (show Rw BI 4 107 lo Y (jd ac W.way.length cc) W.way from aJ.mono (by rw[hlo];omega));have F:lo<=B:=by omega
 have bv:lo<=P:=by omega
 have aW:P≠B:=by omega
 have f2:Y.frozen? ⟨B,2,none⟩=false:=J.o.frozen 2;have f3:Y.frozen? ⟨B,3,none⟩=false:=J.o.frozen 3;have g2:Y.cell? ⟨B,2,none⟩=some (jd aw W.way.length cw):=J.o.cell 2;have g3:Y.cell? ⟨B,3,none⟩=some (jd ar W.rds.length cr):=J.o.cell 3;have p3:Y.cell? ⟨P,3,none⟩=some (jd ar W.rds.length cr):=aE.o.cell 3;have aQ:lo<=Y.heap.size:=by have:=hb1.size;omega
 have aj:Hid (Pr lo Y W aw cw ar cr xs):=Lh (by rw[hlo];exact aj.o);clear hb1 aJ aX R ai ap HA bc hP hB hlo aA
 -- the machine, without readers
 have aO:Bi B lo ((Y.setCell ⟨B,2,none⟩ (jd ac W.way.length cc)).setCell ⟨B,3,none⟩ (jd none 0 0)) { W with rds:=[] } [] (jd ac W.way.length cc) (jd none 0 0) (jd none 0 0) []:=
  ⟨(J.o.set 2 _).set 3 _,F,(aF.o.set J.o (by decide) 2 _).set (J.o.set 2 _) (by decide) 3 _,Rw.nil _ _ _ _ _,Rw.nil _ _ _ _ _,fun x hx=>(by cases hx),rfl⟩
 have az:=Lh ((aL.o.setCell (p:=⟨B,2,none⟩) F (jd ac W.way.length cc)).setCell (p:=⟨B,3,none⟩) F (jd none 0 0));have aU:=Lh ((aE.o.set_other aW 2 (jd ac W.way.length cc)).set_other aW 3 (jd none 0 0));have aC:=Lh aO;have aB:=Lh (show Pr lo ((Y.setCell ⟨B,2,none⟩ (jd ac W.way.length cc)).setCell ⟨B,3,none⟩ (jd none 0 0)) W aw cw ar cr xs from aj.o.below (((Below.refl lo Y).setCell (p:=⟨B,2,none⟩) F _).setCell (p:=⟨B,3,none⟩) F _));clear aO;obtain⟨n,hn⟩: ∃n,n=W.rds.length:=⟨_,rfl⟩
 have HN:=Lh hn;have bu:n<=24:=by rw[hn];exact HV.o.few
 rw[<-hn]at p3 g3 ⊢;clear hn;go_wp2_with fail;obtain⟨w2,aI⟩: ∃w2,w2=(Y.setCell ⟨B,2,none⟩ (jd ac W.way.length cc)).setCell ⟨B,3,none⟩ (jd none 0 0):=⟨_,rfl⟩
 rw[<-aI]at aC az aU aB ⊢;clear aI f2 f3 g2 g3 p3 aQ aL J aE aj aF;go_loopw [23] (fun iv wr=> ∃(k:Nat) (vr:Value) (ys:List BZ),iv=ja jb k/\k<=n/\Hid (Bi B lo wr { W with rds:=W.rds.take k } [] (jd ac W.way.length cc) vr (jd none 0 0) ys)/\Hid (Below lo w wr)/\Hid (Pr lo wr W aw cw ar cr xs)) (fun iv _=>n - (intOf iv).toNat)
 case atStart=>exact⟨0,_,[],rfl,xl _,Lh (by simpa using aC.o),az,aB⟩
 case round=>
  obtain⟨k,vr,ys,rfl,hk,Z,ah,ag⟩:=hrel;clear aC az aB aU;by_cases bn:k<n
  ·have aT:(k:Int)<n:=by omega
   obtain⟨x,hx⟩: ∃x,xs[k]?=some x:=⟨_,xb (by rw[bh.o,<-HN.o];exact bn)⟩
   have aN:=Lh (Fg ag.o.rmap hx);have ak:=Lh (show Cw x.v (x.ts.map (·.1))=true from HV.o.rds _ (xh aN.o));have bk:=Lh (show W.rds.take (k+1)=W.rds.take k++[x.r]from by
    obtain⟨h1,h2⟩:=xf.1 aN.o;rw[List.take_succ_eq_append_getElem h1,h2])
   obtain⟨gr,og,bq,bA,hcell⟩:=Rd.get Cs ag.o.rds.row hx;have aM:=Lh (ag.o.rds.seg x (xh hx));subst bq;have k0:wr.cell? ⟨gr,og+k*3,none⟩=some (ja jb x.v):=hcell 0 _ (by omega) rfl;have k1:wr.cell? ⟨gr,og+k*3+1,none⟩=some (ja jb x.tag):=hcell 1 _ (by omega) rfl;have k2:wr.cell? ⟨gr,og+k*3+2,none⟩=some (jd x.ao x.ts.length x.c):=hcell 2 _ (by omega) rfl;have H:lo<=wr.heap.size:=xd (by have:=ay.o;omega) ah.o.size;have am:ys.length=k:=by
    have h1:=congrArg List.length Z.o.rmap;rw[xe,xc,<-HN.o]at h1;omega
   obtain⟨av,cv,rfl, -, -⟩:=Z.o.rds.form;obtain⟨T,hT⟩: ∃T,T=wr.heap.size:=⟨_,rfl⟩
   obtain⟨X,hX⟩: ∃X,X=wr.alloc (ji #[ja jb x.v,ja jb x.tag,jd x.ao x.ts.length x.c] 47):=⟨_,rfl⟩
   have aq:Below wr.heap.size wr X:=by rw[hX];exact Aa wr _
   have V:=Lh (show Af T #[ja jb x.v,ja jb x.tag,jd x.ao x.ts.length x.c] 47 X from by rw[hX,hT];exact Af.new wr _ _);have al:=Lh aq;have aP:=Lh ((aM.o.below (aq.mono H)).mono (show lo<=X.heap.size from xd H aq.size));have aK:Hid (Calls Tryz.prog 51 #[.agg #[ja jb x.v,ja jb x.tag,jd x.ao x.ts.length x.c],.agg #[jc ⟨#[110,111,110,101]⟩,ja jb 0,jd none 0 0]] X (OM x.v x.tag (x.ts.map (·.1)) ⟨#[110,111,110,101]⟩ 0 [] X)):=Lh (O0 x.v x.tag x.ao x.c x.ts ⟨#[110,111,110,101]⟩ 0 none 0 [] X aP.o (Fv.nil _ _ _) (by have:=((BT _ _).1 ak.o).2.2.1;rw[xe]at this;omega) (by simp) (fun t ht=>Ms ak.o t.1 (List.mem_map_of_mem ht)) (fun t ht=>by cases ht));have bo:=Lh (Md (tag:=x.tag) ak.o Qo ((BT _ _).1 ak.o).1);have t0:X.cell? ⟨T,0,none⟩=some (ja jb x.v):=V.o.cell 0;have t1:X.cell? ⟨T,1,none⟩=some (ja jb x.tag):=V.o.cell 1;have t2:X.cell? ⟨T,2,none⟩=some (jd x.ao x.ts.length x.c):=V.o.cell 2;go_upto_region 7 with(fail);rw[<-hX,<-hT];have bx:lo<=T:=by rw[hT];exact H
   have bp:=Lh hT;clear hX hT aq hcell hx k0 k1 k2 aM;go_wp2_with fail;refine aK.o.mono ?_;rintro e w3 ⟨v7,g7,c7,D,A,us,pn,cn,nn,rfl,aD,au, -,ax⟩;rw[bo.o]at aD;simp only[Prod.mk.injEq]at aD;obtain⟨e1,e2,e3,e4,e5⟩:=aD;subst e1 e2 e4 e5;have aZ:=Lh e3;have E:=Lh (V.o.below ax V.o.lt);have z0:w3.frozen? ⟨T,0,none⟩=false:=E.o.frozen 0;have z1:w3.frozen? ⟨T,1,none⟩=false:=E.o.frozen 1;have z2:w3.frozen? ⟨T,2,none⟩=false:=E.o.frozen 2;have s0:w3.cell? ⟨T,0,none⟩=some (ja jb x.v):=E.o.cell 0;have s1:w3.cell? ⟨T,1,none⟩=some (ja jb x.tag):=E.o.cell 1;have s2:w3.cell? ⟨T,2,none⟩=some (jd x.ao x.ts.length x.c):=E.o.cell 2;have O:wr.heap.size<=T:=by rw[bp.o];exact xa _
   have ab:=Lh ((((al.o.trans (ax.mono al.o.size)).setCell (p:=⟨T,0,none⟩) O (ja jb x.v)).setCell (p:=⟨T,1,none⟩) O (ja jb x.tag)).setCell (p:=⟨T,2,none⟩) O (jd D us.length A));have aa:=Lh (((E.o.set 0 (ja jb x.v)).set 1 (ja jb x.tag)).set 2 (jd D us.length A));have aG:=Lh ((((au.mono (show lo<=X.heap.size from xd H al.o.size)).set E.o (by decide) (by decide) 0 (ja jb x.v)).set (E.o.set 0 (ja jb x.v)) (by decide) (by decide) 1 (ja jb x.tag)).set ((E.o.set 0 (ja jb x.v)).set 1 (ja jb x.tag)) (by decide) (by decide) 2 (jd D us.length A));go_upto_region 8 with(fail);obtain⟨M,aH⟩: ∃M,M=((w3.setCell ⟨T,0,none⟩ (ja jb x.v)).setCell ⟨T,1,none⟩ (ja jb x.tag)).setCell ⟨T,2,none⟩ (jd D us.length A):=⟨_,rfl⟩
   rw[<-aH]at ab aa aG ⊢;clear aH z0 z1 z2 s0 s1 s2 t0 t1 t2 au ax E V aK aP al O;have U:=Lh (Z.o.made ab.o);have br:=Lh (ah.o.trans (ab.o.mono H));have bj:=Lh (ag.o.below (ab.o.mono H));have aV:lo<=M.heap.size:=xd H ab.o.size;have aS:BZ.r ⟨x.v,x.tag,D,A,us⟩=x.r:=by unfold BZ.r;simp only[aZ.o]
   have bs:=Lh aS;have u0:M.cell? ⟨T,0,none⟩=some (ja jb x.v):=aa.o.cell 0;have u1:M.cell? ⟨T,1,none⟩=some (ja jb x.tag):=aa.o.cell 1;have u2:M.cell? ⟨T,2,none⟩=some (jd D us.length A):=aa.o.cell 2;have b3:M.cell? ⟨B,3,none⟩=some (jd av k cv):=by rw[<-am];exact U.o.box.cell 3
   have f3:M.frozen? ⟨B,3,none⟩=false:=U.o.box.frozen 3;have bz:B<M.heap.size:=U.o.box.lt;have bB:T<M.heap.size:=aa.o.lt;have af:=Lh (show M.ownsRow lo 47 3 (jd av k cv) k (gC NB ys)from by rw[<-am];exact U.o.rds);have a7:=Lh am;clear am aS Z ah ag H;go_region_law (first | (refine step_append_lies _ (by rfl) _ _ _ (by rfl) lo 47 i0 _ 3 40 Tryz.underlying30 a8 bt bi bl rfl (by decide) (jd av k cv) k (gC NB ys) (by rfl) (af.o.alloc _) ⟨M.heap.size,0,none⟩ 1 1 (NB ⟨x.v,x.tag,D,A,us⟩) (by rfl) (by rfl) (Bd (Af.new M _ _)) (TD ⟨x.v,x.tag,D,A,us⟩) (by omega) (by unfold maxLen;omega) (by omega) (by simp;omega) (M.heap.size+1) (by simp) ?_;intro gg cap wz ae G bf bw;obtain⟨cA,fA⟩:=TC ((U.o.box.alloc _).draw) (af.o.alloc _) G;have be:=cA 3;have ba:=fA 3))
   all_goals
    have hk:=(AB.made (e:=47) (Ac (Aa M (ji #[ja jb x.v,ja jb x.tag,jd D us.length A] 47)))).trans (AB.grown (af.o.alloc _) G);have hb:=Ak ((br.o).trans ((Ac (Aa M (ji #[ja jb x.v,ja jb x.tag,jd D us.length A] 47))).mono aV)) (af.o.alloc _) (xa _) (by simp;omega) G;have hm:=U.o.rdSnoc (X:=⟨x.v,x.tag,D,A,us⟩) aG.o hk (by rw[a7.o];exact ae);rw[bs.o,<-bk.o]at hm;have aR:=bj.o.below (Ak (Ac ((Aa M (ji #[ja jb x.v,ja jb x.tag,jd D us.length A] 47)).mono aV)) (af.o.alloc _) (xa _) (by simp;omega) G);have aY:=Lh hm;have a6:=Lh (hb.setCell (p:=⟨B,3,none⟩) F (jd (some ⟨gg,0,none⟩) (k+1) cap));have bg:=Lh (aR.below ((Below.refl lo wz).setCell (p:=⟨B,3,none⟩) F (jd (some ⟨gg,0,none⟩) (k+1) cap)));clear hk hb hm aR G ae bf cA fA be ba;go_wp2_with fail;go_roundw
    case rel=>exact⟨k+1,_,_,by go_num,by omega,aY,a6,bg⟩
    case measure=>simp[intOf];omega
  ·have aT: ¬(k:Int)<n:=by omega
   have bm:W.rds.take k=W.rds:=List.take_of_length_le (by rw[<-HN.o];omega);rw[bm]at Z;go_wp2_with fail;go_ret;exact⟨B,_,_,_,ys,rfl,by rw[<-ay.o];exact Z.o,by rw[<-ay.o];exact ah.o⟩
