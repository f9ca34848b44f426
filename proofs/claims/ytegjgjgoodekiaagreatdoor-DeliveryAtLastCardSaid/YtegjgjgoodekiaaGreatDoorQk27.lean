/- Sessions in rows of one's own. timetablemore.put: a session laid into a list: its contract. The drawn versions of a timetable, plain: sessions in ascending order of their classes. No program in sight. Condition: none. timetablemore.States: its contract: rows of sessions in new memory. -/
import Derived.Test.YtegjgjgoodekiaaGreatDoorQk26
import Derived.Test.YtegjgjgoodekiaaGreatDoorQk19
import Derived.BigQuiet
import Derived.Test.YtegjgjgoodekiaaGreatDoorQk10
import Derived.Test.YtegjgjgoodekiaaGreatDoorQk13
open Go.Value renaming int->ja,string->jc,slice->jd,bool->je,pointer->jf
open Go.IntKind renaming i64->jb
open Go.Ending renaming returned->jh
open Go.Obj renaming cells->ji
open Go.World.ownsRow renaming alloc->xa,cells->xh
open List renaming length_append->xb,mem_singleton->xd,mem_append->xe,nil_append->xg
open Nat renaming le_refl->xc,le_trans->xi,zero_le->xj
open Go.World renaming ownsRow_nil->xf
set_option maxRecDepth 100000
set_option maxHeartbeats 40000000
namespace Go.Proofs.YtegjgjgoodekiaaGreatDoor
open Go.RowKit
def sL(xs:List Az):List Value:=xs.flatMap fun s=>(AE s).toList
theorem OS(s:Az)(r:List Az):sL (s::r)=(AE s).toList++sL r:=rfl
theorem U1(a b:List Az):sL (a++b)=sL a++sL b:=by unfold sL;simp
theorem U0(s:Az):sL [s]=(AE s).toList:=by unfold sL;simp
theorem Rt: ∀(xs:List Az) (j i:Nat) (s:Az),xs[j]?=some s->i<6->(sL xs)[j*6+i]?=(AE s).toList[i]?
 | [],_,_,_,h,_=>by simp at h
 | t::r,0,i,s,h,hi=>by
  simp at h;subst h;rw[OS,show 0*6+i=i by omega,List.getElem?_append_left (show i<6 from hi)]
 | t::r,j+1,i,s,h,hi=>by
  rw[OS,List.getElem?_append_right (show 6<=(j+1)*6+i by omega)];have:(j+1)*6+i - (AE t).toList.length=j*6+i:=by show _ - 6=_;omega
  rw[this];exact Rt r j i s (by simpa using h) hi
theorem DO(s:Az): ∀u∈(AE s).toList,u.oneCell'=true:=by
 intro u hu;simp[AE]at hu;rcases hu with rfl | rfl | rfl | rfl | rfl | rfl<;>rfl
theorem Qd(xs:List Az): ∀u∈sL xs,u.oneCell'=true:=by
 intro u hu;obtain⟨s, -,w⟩:=List.mem_flatMap.1 hu;exact DO s u w
def Bb(lo:Nat)(w:World)(v:Value)(xs:List Az):Prop:=w.ownsRow lo 93 6 v xs.length (sL xs)
theorem Bb.nil(lo:Nat)(w:World):Bb lo w (jd none 0 0) []:=xf _ _ _ _
theorem Bb.slice{lo:Nat}{w:World}{v:Value}{xs:List Az}(h:Bb lo w v xs): ∃ao c,v=jd ao xs.length c:=AM h
theorem Bb.form{lo:Nat}{w:World}{v:Value}{xs:List Az}(h:Bb lo w v xs)(hp:0<xs.length): ∃g c,v=jd (some ⟨g,0,none⟩) xs.length c/\lo<=g:=by
 rcases h.2 with⟨_,h0⟩ | ⟨g,cap,cur,hv,hlo,_⟩
 ·omega
 ·exact⟨g,cap,hv,hlo⟩
theorem Bb.snoc{lo:Nat}{w:World}{v:Value}{xs:List Az}{s:Az}(h:w.ownsRow lo 93 6 v (xs.length+1) (sL xs++(AE s).toList)):Bb lo w v (xs++[s]):=by
 unfold Bb;rw[xb,U1,U0];exact h
theorem Bb.cell{w:World}{lo n c g:Nat}{xs:List Az}(h:Bb lo w (jd (some ⟨g,0,none⟩) n c) xs)(k o:Nat)(s:Az)(u:Value)(hs:xs[k]?=some s)(ho:o<6)(hu:(AE s).toList[o]?=some u):w.cell? ⟨g,k*6+o,none⟩=some u:=by
 obtain⟨ao,c',hv⟩:=h.slice;have hn:n=xs.length:=by injection hv
 subst hn;have:=xh h (g:=g) rfl (k*6+o) u (by rw[Rt xs k o s hs ho];exact hu);rw[Addr.add_lit]at this;simpa using this
theorem Bb.mono{lo lo':Nat}{w:World}{v:Value}{xs:List Az}(h:Bb lo w v xs)(hl:lo'<=lo):Bb lo' w v xs:=Ab h hl
theorem O5:(Tryz.prog.info? 93).map (fun i=>(i.zero,i.size,i.bytes))=some (some (.agg #[jc ⟨#[]⟩,ja jb 0,ja jb 0,ja jb 0,ja jb 0,jc ⟨#[]⟩]),6,64):=by kernel_rfl
theorem Vg:(Tryz.prog.info? 87).map (fun i=>(i.zero,i.size,i.bytes))=some (some (jd none 0 0),1,24):=by kernel_rfl
def Br(s:Az):Bool->List Az->List Az
 | dn,[]=>if dn=true then[]else[s]
 | dn,x::r=>(if(dn || Op.bytesLess x.cls.toList s.cls.toList)=true then[]else[s])++((if(x.cls.toList==s.cls.toList)=true then[]else[x])++Br s (dn || !Op.bytesLess x.cls.toList s.cls.toList) r)
theorem G1{s t:Az}{xs:List Az}{k:Nat}{w lb A:Bool}(h:xs[k]?=some t)(hl:Op.bytesLess t.cls.toList s.cls.toList=lb)(he:(t.cls.toList==s.cls.toList)=A):Br s w (xs.drop k)=(if(w || lb)=true then[]else[s])++((if A=true then[]else[t])++Br s (w || !lb) (xs.drop (k+1))):=by
 obtain⟨D,E⟩:=List.getElem?_eq_some_iff.1 h;rw[List.drop_eq_getElem_cons D,E,Br,hl,he]
theorem Mt(s:Az)(w:Bool)(xs:List Az):Br s w (xs.drop xs.length)=if w=true then[]else[s]:=by rw[List.drop_length,Br]
theorem TH(lo:Nat)(xs:List Az)(ao:Option Addr)(c:Nat)(s:Az)(aw:Bool)(w:World)(hX:Bb lo w (jd ao xs.length c) xs)(hl:xs.length<=100000):Calls Tryz.prog 32 #[jd ao xs.length c,Cv s,je aw] w fun e w'=> ∃u:Value,e=jh u/\Bb w.heap.size w' u (Br s aw xs)/\(Br s aw xs).length<=xs.length+1/\Below w.heap.size w w':=by
 obtain⟨i0,aq,au,ak,ap⟩:=info_parts O5;obtain⟨P,hP⟩: ∃g,g=w.heap.size:=⟨_,rfl⟩
 obtain⟨w0,av⟩: ∃X,X=w.alloc (ji #[jc s.cls,ja jb s.tim.weeks,ja jb s.tim.day,ja jb s.tim.start,ja jb s.tim.len,jc s.room] 93):=⟨_,rfl⟩
 have H:=Lh (show Below w.heap.size w w0 from by rw[av];exact Aa w _);have G:=Lh (show Af P #[jc s.cls,ja jb s.tim.weeks,ja jb s.tim.day,ja jb s.tim.start,ja jb s.tim.len,jc s.room] 93 w0 from by rw[av,hP];exact Af.new w _ _);have aH:=Lh (show w.heap.size<=P by omega);have E:P<w0.heap.size:=G.o.lt;have F:=H.o.size;have Y:=Lh hX;obtain⟨n,hn⟩: ∃n,n=xs.length:=⟨_,rfl⟩
 rw[<-hn]at Y hl ⊢;have HN:=Lh hn;clear hX hn;unfold Cv AE;go_enter Tryz.func32,Tryz.ntmps32;go_upto_region 1 with(fail);rw[<-av,<-hP];clear av hP;go_wp2_with fail;go_loopw [7,8,9] (fun uv dv iv wr=> ∃(k:Nat) (dn:Bool) (ys:List Az),dv=je dn/\iv=ja jb k/\k<=n/\ys.length<=k+(if dn=true then 1 else 0)/\Hid (ys++Br s dn (xs.drop k)=Br s aw xs)/\Hid (Bb w0.heap.size wr uv ys)/\Hid (Below w0.heap.size w0 wr)) (fun _ _ iv _=>n - (intOf iv).toNat)
 case atStart=>exact⟨0,aw,[],rfl,rfl,xj _,xj _,Lh rfl,Lh (Bb.nil _ _),Lh (Below.refl _ _)⟩
 case round=>
  obtain⟨k,dn,ys,rfl,rfl,hk,ah,HG,HY,HB⟩:=hrel;have p0:wr.cell? ⟨P,0,none⟩=some (jc s.cls):=(G.o.below HB.o E).cell 0;have p1:wr.cell? ⟨P,1,none⟩=some (ja jb s.tim.weeks):=(G.o.below HB.o E).cell 1;have p2:wr.cell? ⟨P,2,none⟩=some (ja jb s.tim.day):=(G.o.below HB.o E).cell 2;have p3:wr.cell? ⟨P,3,none⟩=some (ja jb s.tim.start):=(G.o.below HB.o E).cell 3;have p4:wr.cell? ⟨P,4,none⟩=some (ja jb s.tim.len):=(G.o.below HB.o E).cell 4;have p5:wr.cell? ⟨P,5,none⟩=some (jc s.room):=(G.o.below HB.o E).cell 5;by_cases aF:k<n
  rotate_left
  ·have aB: ¬(k:Int)<(n:Int):=by omega
   cases dn with
   | true=>
    have ah:ys.length<=n+1:=by have:ys.length<=k+1:=ah;omega
    have HE:=Lh (show ys=Br s aw xs from by have h:=HG.o;rw[show k=xs.length by have:=HN.o;omega,Mt]at h;simpa using h);have al:=Lh (show Bb w0.heap.size _ _ (Br s aw xs)from by rw[<-HE.o];exact HY.o);have am:=Lh (show(Br s aw xs).length<=n+1 from by rw[<-HE.o];first | omega | (rw[xb];simp;omega));go_wp2_with fail;go_ret;first | exact⟨_,rfl,Bb.mono al.o F,am.o,H.o.trans (HB.o.mono F)⟩ | exact⟨Bb.mono al.o F,am.o,H.o.trans (HB.o.mono F)⟩
   | false=>
    have ah:ys.length<=n:=by have:ys.length<=k:=ah;omega
    have ac:=Lh ah;obtain⟨pu,cu,hu⟩:=HY.o.slice;subst hu;go_wp2_with (at_builtin;refine wpList_append_own_at _ rfl (.tmp 50) (.tmp 52) 87 rfl w0.heap.size 93 i0 _ 6 64 Tryz.underlying87 aq au ak ap rfl (by decide) _ _ _ rfl (xa HY.o _) ⟨wr.heap.size,0,none⟩ 1 1 (AE s).toList rfl rfl (Bd (Af.new wr (AE s) 93)) (DO s) (by unfold maxLen;omega) (by omega) (by have:=HB.o.size;simp;omega) ?_);intro v8 x8 O M _ ai;have U:=Lh (Ak (HB.o.trans ((Aa wr _).mono HB.o.size)) (xa HY.o _) (xc _) (by have:=HB.o.size;simp;omega) M);have af:=Lh (show Bb w0.heap.size x8 v8 (ys++[s])from Bb.snoc O);clear O M ai;clear p0 p1 p2 p3 p4 p5;have HE:=Lh (show ys++[s]=Br s aw xs from by have h:=HG.o;rw[show k=xs.length by have:=HN.o;omega,Mt]at h;simpa using h);have al:=Lh (show Bb w0.heap.size _ _ (Br s aw xs)from by rw[<-HE.o];exact af.o);have am:=Lh (show(Br s aw xs).length<=n+1 from by rw[<-HE.o];first | omega | (rw[xb];simp;omega));go_wp2_with fail;go_ret;first | exact⟨_,rfl,Bb.mono al.o F,am.o,H.o.trans (U.o.mono F)⟩ | exact⟨Bb.mono al.o F,am.o,H.o.trans (U.o.mono F)⟩
  have aB:(k:Int)<(n:Int):=by omega
  have aG:(0:Int)<=(k:Int):=by omega
  obtain⟨t,ht⟩: ∃t,xs[k]?=some t:=⟨_,List.getElem?_eq_getElem (by have:=HN.o;omega)⟩
  have aA:=Lh (show Bb lo w (jd ao xs.length c) xs from by have h:=Y.o;rw[HN.o]at h;exact h);obtain⟨g,cg,hg, -⟩:=aA.o.form (by have:=HN.o;omega);have aC:ao=some ⟨g,0,none⟩:=by injection hg
  subst aC;have J:g<w.heap.size:=(World.ownsRow.lt Y.o g rfl).2;have q0:wr.cell? ⟨g,k*6+0,none⟩=some (jc t.cls):=((H.o.trans (HB.o.mono F)).cell (p:=⟨g,k*6+0,none⟩) J).trans (Y.o.cell k 0 t _ ht (by decide) rfl);have q1:wr.cell? ⟨g,k*6+1,none⟩=some (ja jb t.tim.weeks):=((H.o.trans (HB.o.mono F)).cell (p:=⟨g,k*6+1,none⟩) J).trans (Y.o.cell k 1 t _ ht (by decide) rfl);have q2:wr.cell? ⟨g,k*6+2,none⟩=some (ja jb t.tim.day):=((H.o.trans (HB.o.mono F)).cell (p:=⟨g,k*6+2,none⟩) J).trans (Y.o.cell k 2 t _ ht (by decide) rfl);have q3:wr.cell? ⟨g,k*6+3,none⟩=some (ja jb t.tim.start):=((H.o.trans (HB.o.mono F)).cell (p:=⟨g,k*6+3,none⟩) J).trans (Y.o.cell k 3 t _ ht (by decide) rfl);have q4:wr.cell? ⟨g,k*6+4,none⟩=some (ja jb t.tim.len):=((H.o.trans (HB.o.mono F)).cell (p:=⟨g,k*6+4,none⟩) J).trans (Y.o.cell k 4 t _ ht (by decide) rfl);have q5:wr.cell? ⟨g,k*6+5,none⟩=some (jc t.room):=((H.o.trans (HB.o.mono F)).cell (p:=⟨g,k*6+5,none⟩) J).trans (Y.o.cell k 5 t _ ht (by decide) rfl);have q0:wr.cell? ⟨g,k*6,none⟩=some (jc t.cls):=q0;obtain⟨lb,aD⟩: ∃b,Op.bytesLess t.cls.toList s.cls.toList=b:=⟨_,rfl⟩
  obtain⟨eb,aE⟩: ∃b,(t.cls.toList==s.cls.toList)=b:=⟨_,rfl⟩
  have Z:=Lh ht;clear ht aA hg;have aj:=Lh aF;have ay:=Lh aD;have ax:=Lh aE;cases dn with
  | true=>
   have ab:ys.length<=k+1:=ah;clear ah;have ag:=Lh (show ys++((if eb=true then[]else[t])++Br s true (xs.drop (k+1)))=Br s aw xs from by have h:=HG.o;rw[G1 Z.o ay.o ax.o]at h;simpa using h);go_wp2_with fail;go_quiet (fail)
   obtain⟨V,hq⟩: ∃X,X=wr.drewN nq:=⟨_,rfl⟩
   have aa:=Lh (show Bb w0.heap.size V _ (ys)from by rw[hq];exact HY.o);have D:=Lh (show Below w0.heap.size w0 V from by rw[hq];exact HB.o.trans ⟨rfl,rfl,rfl,xc _,fun k hk=>rfl⟩);rw[<-hq];clear hq nq;clear p0 p1 p2 p3 p4 p5;clear q0 q1 q2 q3 q4 q5;have p0:V.cell? ⟨P,0,none⟩=some (jc s.cls):=(G.o.below D.o E).cell 0;have p1:V.cell? ⟨P,1,none⟩=some (ja jb s.tim.weeks):=(G.o.below D.o E).cell 1;have p2:V.cell? ⟨P,2,none⟩=some (ja jb s.tim.day):=(G.o.below D.o E).cell 2;have p3:V.cell? ⟨P,3,none⟩=some (ja jb s.tim.start):=(G.o.below D.o E).cell 3;have p4:V.cell? ⟨P,4,none⟩=some (ja jb s.tim.len):=(G.o.below D.o E).cell 4;have p5:V.cell? ⟨P,5,none⟩=some (jc s.room):=(G.o.below D.o E).cell 5;have q0:V.cell? ⟨g,k*6+0,none⟩=some (jc t.cls):=((H.o.trans (D.o.mono F)).cell (p:=⟨g,k*6+0,none⟩) J).trans (Y.o.cell k 0 t _ Z.o (by decide) rfl);have q1:V.cell? ⟨g,k*6+1,none⟩=some (ja jb t.tim.weeks):=((H.o.trans (D.o.mono F)).cell (p:=⟨g,k*6+1,none⟩) J).trans (Y.o.cell k 1 t _ Z.o (by decide) rfl);have q2:V.cell? ⟨g,k*6+2,none⟩=some (ja jb t.tim.day):=((H.o.trans (D.o.mono F)).cell (p:=⟨g,k*6+2,none⟩) J).trans (Y.o.cell k 2 t _ Z.o (by decide) rfl);have q3:V.cell? ⟨g,k*6+3,none⟩=some (ja jb t.tim.start):=((H.o.trans (D.o.mono F)).cell (p:=⟨g,k*6+3,none⟩) J).trans (Y.o.cell k 3 t _ Z.o (by decide) rfl);have q4:V.cell? ⟨g,k*6+4,none⟩=some (ja jb t.tim.len):=((H.o.trans (D.o.mono F)).cell (p:=⟨g,k*6+4,none⟩) J).trans (Y.o.cell k 4 t _ Z.o (by decide) rfl);have q5:V.cell? ⟨g,k*6+5,none⟩=some (jc t.room):=((H.o.trans (D.o.mono F)).cell (p:=⟨g,k*6+5,none⟩) J).trans (Y.o.cell k 5 t _ Z.o (by decide) rfl);have q0:V.cell? ⟨g,k*6,none⟩=some (jc t.cls):=q0;go_wp2_with fail;go_quiet (fail)
   obtain⟨T,hq⟩: ∃X,X=V.drewN nq:=⟨_,rfl⟩
   have R:=Lh (show Bb w0.heap.size T _ (ys)from by rw[hq];exact aa.o);have A:=Lh (show Below w0.heap.size w0 T from by rw[hq];exact D.o.trans ⟨rfl,rfl,rfl,xc _,fun k hk=>rfl⟩);rw[<-hq];clear hq nq;clear p0 p1 p2 p3 p4 p5;clear q0 q1 q2 q3 q4 q5;have p0:T.cell? ⟨P,0,none⟩=some (jc s.cls):=(G.o.below A.o E).cell 0;have p1:T.cell? ⟨P,1,none⟩=some (ja jb s.tim.weeks):=(G.o.below A.o E).cell 1;have p2:T.cell? ⟨P,2,none⟩=some (ja jb s.tim.day):=(G.o.below A.o E).cell 2;have p3:T.cell? ⟨P,3,none⟩=some (ja jb s.tim.start):=(G.o.below A.o E).cell 3;have p4:T.cell? ⟨P,4,none⟩=some (ja jb s.tim.len):=(G.o.below A.o E).cell 4;have p5:T.cell? ⟨P,5,none⟩=some (jc s.room):=(G.o.below A.o E).cell 5;have q0:T.cell? ⟨g,k*6+0,none⟩=some (jc t.cls):=((H.o.trans (A.o.mono F)).cell (p:=⟨g,k*6+0,none⟩) J).trans (Y.o.cell k 0 t _ Z.o (by decide) rfl);have q1:T.cell? ⟨g,k*6+1,none⟩=some (ja jb t.tim.weeks):=((H.o.trans (A.o.mono F)).cell (p:=⟨g,k*6+1,none⟩) J).trans (Y.o.cell k 1 t _ Z.o (by decide) rfl);have q2:T.cell? ⟨g,k*6+2,none⟩=some (ja jb t.tim.day):=((H.o.trans (A.o.mono F)).cell (p:=⟨g,k*6+2,none⟩) J).trans (Y.o.cell k 2 t _ Z.o (by decide) rfl);have q3:T.cell? ⟨g,k*6+3,none⟩=some (ja jb t.tim.start):=((H.o.trans (A.o.mono F)).cell (p:=⟨g,k*6+3,none⟩) J).trans (Y.o.cell k 3 t _ Z.o (by decide) rfl);have q4:T.cell? ⟨g,k*6+4,none⟩=some (ja jb t.tim.len):=((H.o.trans (A.o.mono F)).cell (p:=⟨g,k*6+4,none⟩) J).trans (Y.o.cell k 4 t _ Z.o (by decide) rfl);have q5:T.cell? ⟨g,k*6+5,none⟩=some (jc t.room):=((H.o.trans (A.o.mono F)).cell (p:=⟨g,k*6+5,none⟩) J).trans (Y.o.cell k 5 t _ Z.o (by decide) rfl);have q0:T.cell? ⟨g,k*6,none⟩=some (jc t.cls):=q0;cases eb
   ·have ac:=Lh ab;have ae:=Lh (show(ys++[t])++Br s true (xs.drop (k+1))=Br s aw xs from by simpa using ag.o);obtain⟨pu,cu,hu⟩:=R.o.slice;subst hu;go_wp2_with (at_builtin;refine wpList_append_own_at _ rfl (.tmp 41) (.tmp 46) 87 rfl w0.heap.size 93 i0 _ 6 64 Tryz.underlying87 aq au ak ap rfl (by decide) _ _ _ rfl (xa R.o _) ⟨T.heap.size,0,none⟩ 1 1 (AE t).toList rfl rfl (Bd (Af.new T (AE t) 93)) (DO t) (by unfold maxLen;omega) (by omega) (by have:=A.o.size;simp;omega) ?_);intro v8 x8 O M _ ai;have U:=Lh (Ak (A.o.trans ((Aa T _).mono A.o.size)) (xa R.o _) (xc _) (by have:=A.o.size;simp;omega) M);have af:=Lh (show Bb w0.heap.size x8 v8 (ys++[t])from Bb.snoc O);clear O M ai;clear p0 p1 p2 p3 p4 p5;clear q0 q1 q2 q3 q4 q5;go_wp2_with fail;go_roundw
    case rel=>exact⟨k+1,true,ys++[t],rfl,by go_num,by have:=aj.o;omega,by rw[xb];simp;have:=ac.o;first | omega | (simp at this;omega),ae,af,U⟩
    case measure=>simp[intOf];omega
   ·have ac:=Lh ab;have ae:=Lh (show ys++Br s true (xs.drop (k+1))=Br s aw xs from by simpa using ag.o);go_wp2_with fail;go_roundw
    case rel=>exact⟨k+1,true,ys,rfl,by go_num,by have:=aj.o;omega,by have:=ac.o;first | omega | (simp at this ⊢;omega),ae,R,A⟩
    case measure=>simp[intOf];omega
  | false=>
   have ab:ys.length<=k:=ah;clear ah;cases lb;rotate_left
   ·have ag:=Lh (show ys++((if eb=true then[]else[t])++Br s false (xs.drop (k+1)))=Br s aw xs from by have h:=HG.o;rw[G1 Z.o ay.o ax.o]at h;simpa using h);go_wp2_with fail;go_quiet (fail);obtain⟨V,hq⟩: ∃X,X=wr.drewN nq:=⟨_,rfl⟩
    have aa:=Lh (show Bb w0.heap.size V _ (ys)from by rw[hq];exact HY.o);have D:=Lh (show Below w0.heap.size w0 V from by rw[hq];exact HB.o.trans ⟨rfl,rfl,rfl,xc _,fun k hk=>rfl⟩);rw[<-hq];clear hq nq;clear p0 p1 p2 p3 p4 p5;clear q0 q1 q2 q3 q4 q5;have p0:V.cell? ⟨P,0,none⟩=some (jc s.cls):=(G.o.below D.o E).cell 0;have p1:V.cell? ⟨P,1,none⟩=some (ja jb s.tim.weeks):=(G.o.below D.o E).cell 1;have p2:V.cell? ⟨P,2,none⟩=some (ja jb s.tim.day):=(G.o.below D.o E).cell 2;have p3:V.cell? ⟨P,3,none⟩=some (ja jb s.tim.start):=(G.o.below D.o E).cell 3;have p4:V.cell? ⟨P,4,none⟩=some (ja jb s.tim.len):=(G.o.below D.o E).cell 4;have p5:V.cell? ⟨P,5,none⟩=some (jc s.room):=(G.o.below D.o E).cell 5;have q0:V.cell? ⟨g,k*6+0,none⟩=some (jc t.cls):=((H.o.trans (D.o.mono F)).cell (p:=⟨g,k*6+0,none⟩) J).trans (Y.o.cell k 0 t _ Z.o (by decide) rfl);have q1:V.cell? ⟨g,k*6+1,none⟩=some (ja jb t.tim.weeks):=((H.o.trans (D.o.mono F)).cell (p:=⟨g,k*6+1,none⟩) J).trans (Y.o.cell k 1 t _ Z.o (by decide) rfl);have q2:V.cell? ⟨g,k*6+2,none⟩=some (ja jb t.tim.day):=((H.o.trans (D.o.mono F)).cell (p:=⟨g,k*6+2,none⟩) J).trans (Y.o.cell k 2 t _ Z.o (by decide) rfl);have q3:V.cell? ⟨g,k*6+3,none⟩=some (ja jb t.tim.start):=((H.o.trans (D.o.mono F)).cell (p:=⟨g,k*6+3,none⟩) J).trans (Y.o.cell k 3 t _ Z.o (by decide) rfl);have q4:V.cell? ⟨g,k*6+4,none⟩=some (ja jb t.tim.len):=((H.o.trans (D.o.mono F)).cell (p:=⟨g,k*6+4,none⟩) J).trans (Y.o.cell k 4 t _ Z.o (by decide) rfl);have q5:V.cell? ⟨g,k*6+5,none⟩=some (jc t.room):=((H.o.trans (D.o.mono F)).cell (p:=⟨g,k*6+5,none⟩) J).trans (Y.o.cell k 5 t _ Z.o (by decide) rfl);have q0:V.cell? ⟨g,k*6,none⟩=some (jc t.cls):=q0;go_wp2_with fail;go_quiet (fail)
    obtain⟨T,hq⟩: ∃X,X=V.drewN nq:=⟨_,rfl⟩
    have R:=Lh (show Bb w0.heap.size T _ (ys)from by rw[hq];exact aa.o);have A:=Lh (show Below w0.heap.size w0 T from by rw[hq];exact D.o.trans ⟨rfl,rfl,rfl,xc _,fun k hk=>rfl⟩);rw[<-hq];clear hq nq;clear p0 p1 p2 p3 p4 p5;clear q0 q1 q2 q3 q4 q5;have p0:T.cell? ⟨P,0,none⟩=some (jc s.cls):=(G.o.below A.o E).cell 0;have p1:T.cell? ⟨P,1,none⟩=some (ja jb s.tim.weeks):=(G.o.below A.o E).cell 1;have p2:T.cell? ⟨P,2,none⟩=some (ja jb s.tim.day):=(G.o.below A.o E).cell 2;have p3:T.cell? ⟨P,3,none⟩=some (ja jb s.tim.start):=(G.o.below A.o E).cell 3;have p4:T.cell? ⟨P,4,none⟩=some (ja jb s.tim.len):=(G.o.below A.o E).cell 4;have p5:T.cell? ⟨P,5,none⟩=some (jc s.room):=(G.o.below A.o E).cell 5;have q0:T.cell? ⟨g,k*6+0,none⟩=some (jc t.cls):=((H.o.trans (A.o.mono F)).cell (p:=⟨g,k*6+0,none⟩) J).trans (Y.o.cell k 0 t _ Z.o (by decide) rfl);have q1:T.cell? ⟨g,k*6+1,none⟩=some (ja jb t.tim.weeks):=((H.o.trans (A.o.mono F)).cell (p:=⟨g,k*6+1,none⟩) J).trans (Y.o.cell k 1 t _ Z.o (by decide) rfl);have q2:T.cell? ⟨g,k*6+2,none⟩=some (ja jb t.tim.day):=((H.o.trans (A.o.mono F)).cell (p:=⟨g,k*6+2,none⟩) J).trans (Y.o.cell k 2 t _ Z.o (by decide) rfl);have q3:T.cell? ⟨g,k*6+3,none⟩=some (ja jb t.tim.start):=((H.o.trans (A.o.mono F)).cell (p:=⟨g,k*6+3,none⟩) J).trans (Y.o.cell k 3 t _ Z.o (by decide) rfl);have q4:T.cell? ⟨g,k*6+4,none⟩=some (ja jb t.tim.len):=((H.o.trans (A.o.mono F)).cell (p:=⟨g,k*6+4,none⟩) J).trans (Y.o.cell k 4 t _ Z.o (by decide) rfl);have q5:T.cell? ⟨g,k*6+5,none⟩=some (jc t.room):=((H.o.trans (A.o.mono F)).cell (p:=⟨g,k*6+5,none⟩) J).trans (Y.o.cell k 5 t _ Z.o (by decide) rfl);have q0:T.cell? ⟨g,k*6,none⟩=some (jc t.cls):=q0;cases eb
    ·have ac:=Lh ab;have ae:=Lh (show(ys++[t])++Br s false (xs.drop (k+1))=Br s aw xs from by simpa using ag.o);obtain⟨pu,cu,hu⟩:=R.o.slice;subst hu;go_wp2_with (at_builtin;refine wpList_append_own_at _ rfl (.tmp 41) (.tmp 46) 87 rfl w0.heap.size 93 i0 _ 6 64 Tryz.underlying87 aq au ak ap rfl (by decide) _ _ _ rfl (xa R.o _) ⟨T.heap.size,0,none⟩ 1 1 (AE t).toList rfl rfl (Bd (Af.new T (AE t) 93)) (DO t) (by unfold maxLen;omega) (by omega) (by have:=A.o.size;simp;omega) ?_);intro v8 x8 O M _ ai;have U:=Lh (Ak (A.o.trans ((Aa T _).mono A.o.size)) (xa R.o _) (xc _) (by have:=A.o.size;simp;omega) M);have af:=Lh (show Bb w0.heap.size x8 v8 (ys++[t])from Bb.snoc O);clear O M ai;clear p0 p1 p2 p3 p4 p5;clear q0 q1 q2 q3 q4 q5;go_wp2_with fail;go_roundw
     case rel=>exact⟨k+1,false,ys++[t],rfl,by go_num,by have:=aj.o;omega,by rw[xb];simp;have:=ac.o;first | omega | (simp at this;omega),ae,af,U⟩
     case measure=>simp[intOf];omega
    ·have ac:=Lh ab;have ae:=Lh (show ys++Br s false (xs.drop (k+1))=Br s aw xs from by simpa using ag.o);go_wp2_with fail;go_roundw
     case rel=>exact⟨k+1,false,ys,rfl,by go_num,by have:=aj.o;omega,by have:=ac.o;first | omega | (simp at this ⊢;omega),ae,R,A⟩
     case measure=>simp[intOf];omega
   ·have ag:=Lh (show(ys++[s])++((if eb=true then[]else[t])++Br s true (xs.drop (k+1)))=Br s aw xs from by have h:=HG.o;rw[G1 Z.o ay.o ax.o]at h;simpa using h);go_wp2_with fail;go_quiet (fail);obtain⟨V,hq⟩: ∃X,X=wr.drewN nq:=⟨_,rfl⟩
    have aa:=Lh (show Bb w0.heap.size V _ (ys)from by rw[hq];exact HY.o);have D:=Lh (show Below w0.heap.size w0 V from by rw[hq];exact HB.o.trans ⟨rfl,rfl,rfl,xc _,fun k hk=>rfl⟩);rw[<-hq];clear hq nq;clear p0 p1 p2 p3 p4 p5;clear q0 q1 q2 q3 q4 q5;have p0:V.cell? ⟨P,0,none⟩=some (jc s.cls):=(G.o.below D.o E).cell 0;have p1:V.cell? ⟨P,1,none⟩=some (ja jb s.tim.weeks):=(G.o.below D.o E).cell 1;have p2:V.cell? ⟨P,2,none⟩=some (ja jb s.tim.day):=(G.o.below D.o E).cell 2;have p3:V.cell? ⟨P,3,none⟩=some (ja jb s.tim.start):=(G.o.below D.o E).cell 3;have p4:V.cell? ⟨P,4,none⟩=some (ja jb s.tim.len):=(G.o.below D.o E).cell 4;have p5:V.cell? ⟨P,5,none⟩=some (jc s.room):=(G.o.below D.o E).cell 5;obtain⟨pu,cu,hu⟩:=aa.o.slice;subst hu;go_wp2_with (at_builtin;refine wpList_append_own_at _ rfl (.tmp 29) (.tmp 31) 87 rfl w0.heap.size 93 i0 _ 6 64 Tryz.underlying87 aq au ak ap rfl (by decide) _ _ _ rfl (xa aa.o _) ⟨V.heap.size,0,none⟩ 1 1 (AE s).toList rfl rfl (Bd (Af.new V (AE s) 93)) (DO s) (by unfold maxLen;omega) (by omega) (by have:=D.o.size;simp;omega) ?_);intro v8 x8 O M _ ai;have U:=Lh (Ak (D.o.trans ((Aa V _).mono D.o.size)) (xa aa.o _) (xc _) (by have:=D.o.size;simp;omega) M);have af:=Lh (show Bb w0.heap.size x8 v8 (ys++[s])from Bb.snoc O);clear O M ai;clear p0 p1 p2 p3 p4 p5;have ar:(ys++[s]).length<=k+1:=by rw[xb];simp;omega
    clear ab;obtain⟨zs,az⟩: ∃z,z=ys++[s]:=⟨_,rfl⟩
    rw[<-az]at af ar ag;clear az;have ab:=ar;clear ar;have p0:x8.cell? ⟨P,0,none⟩=some (jc s.cls):=(G.o.below U.o E).cell 0;have p1:x8.cell? ⟨P,1,none⟩=some (ja jb s.tim.weeks):=(G.o.below U.o E).cell 1;have p2:x8.cell? ⟨P,2,none⟩=some (ja jb s.tim.day):=(G.o.below U.o E).cell 2;have p3:x8.cell? ⟨P,3,none⟩=some (ja jb s.tim.start):=(G.o.below U.o E).cell 3;have p4:x8.cell? ⟨P,4,none⟩=some (ja jb s.tim.len):=(G.o.below U.o E).cell 4;have p5:x8.cell? ⟨P,5,none⟩=some (jc s.room):=(G.o.below U.o E).cell 5;have q0:x8.cell? ⟨g,k*6+0,none⟩=some (jc t.cls):=((H.o.trans (U.o.mono F)).cell (p:=⟨g,k*6+0,none⟩) J).trans (Y.o.cell k 0 t _ Z.o (by decide) rfl);have q1:x8.cell? ⟨g,k*6+1,none⟩=some (ja jb t.tim.weeks):=((H.o.trans (U.o.mono F)).cell (p:=⟨g,k*6+1,none⟩) J).trans (Y.o.cell k 1 t _ Z.o (by decide) rfl);have q2:x8.cell? ⟨g,k*6+2,none⟩=some (ja jb t.tim.day):=((H.o.trans (U.o.mono F)).cell (p:=⟨g,k*6+2,none⟩) J).trans (Y.o.cell k 2 t _ Z.o (by decide) rfl);have q3:x8.cell? ⟨g,k*6+3,none⟩=some (ja jb t.tim.start):=((H.o.trans (U.o.mono F)).cell (p:=⟨g,k*6+3,none⟩) J).trans (Y.o.cell k 3 t _ Z.o (by decide) rfl);have q4:x8.cell? ⟨g,k*6+4,none⟩=some (ja jb t.tim.len):=((H.o.trans (U.o.mono F)).cell (p:=⟨g,k*6+4,none⟩) J).trans (Y.o.cell k 4 t _ Z.o (by decide) rfl);have q5:x8.cell? ⟨g,k*6+5,none⟩=some (jc t.room):=((H.o.trans (U.o.mono F)).cell (p:=⟨g,k*6+5,none⟩) J).trans (Y.o.cell k 5 t _ Z.o (by decide) rfl);have q0:x8.cell? ⟨g,k*6,none⟩=some (jc t.cls):=q0;go_wp2_with fail;go_quiet (fail)
    obtain⟨T,hq⟩: ∃X,X=x8.drewN nq:=⟨_,rfl⟩
    have R:=Lh (show Bb w0.heap.size T _ (zs)from by rw[hq];exact af.o);have A:=Lh (show Below w0.heap.size w0 T from by rw[hq];exact U.o.trans ⟨rfl,rfl,rfl,xc _,fun k hk=>rfl⟩);rw[<-hq];clear hq nq;clear p0 p1 p2 p3 p4 p5;clear q0 q1 q2 q3 q4 q5;have p0:T.cell? ⟨P,0,none⟩=some (jc s.cls):=(G.o.below A.o E).cell 0;have p1:T.cell? ⟨P,1,none⟩=some (ja jb s.tim.weeks):=(G.o.below A.o E).cell 1;have p2:T.cell? ⟨P,2,none⟩=some (ja jb s.tim.day):=(G.o.below A.o E).cell 2;have p3:T.cell? ⟨P,3,none⟩=some (ja jb s.tim.start):=(G.o.below A.o E).cell 3;have p4:T.cell? ⟨P,4,none⟩=some (ja jb s.tim.len):=(G.o.below A.o E).cell 4;have p5:T.cell? ⟨P,5,none⟩=some (jc s.room):=(G.o.below A.o E).cell 5;have q0:T.cell? ⟨g,k*6+0,none⟩=some (jc t.cls):=((H.o.trans (A.o.mono F)).cell (p:=⟨g,k*6+0,none⟩) J).trans (Y.o.cell k 0 t _ Z.o (by decide) rfl);have q1:T.cell? ⟨g,k*6+1,none⟩=some (ja jb t.tim.weeks):=((H.o.trans (A.o.mono F)).cell (p:=⟨g,k*6+1,none⟩) J).trans (Y.o.cell k 1 t _ Z.o (by decide) rfl);have q2:T.cell? ⟨g,k*6+2,none⟩=some (ja jb t.tim.day):=((H.o.trans (A.o.mono F)).cell (p:=⟨g,k*6+2,none⟩) J).trans (Y.o.cell k 2 t _ Z.o (by decide) rfl);have q3:T.cell? ⟨g,k*6+3,none⟩=some (ja jb t.tim.start):=((H.o.trans (A.o.mono F)).cell (p:=⟨g,k*6+3,none⟩) J).trans (Y.o.cell k 3 t _ Z.o (by decide) rfl);have q4:T.cell? ⟨g,k*6+4,none⟩=some (ja jb t.tim.len):=((H.o.trans (A.o.mono F)).cell (p:=⟨g,k*6+4,none⟩) J).trans (Y.o.cell k 4 t _ Z.o (by decide) rfl);have q5:T.cell? ⟨g,k*6+5,none⟩=some (jc t.room):=((H.o.trans (A.o.mono F)).cell (p:=⟨g,k*6+5,none⟩) J).trans (Y.o.cell k 5 t _ Z.o (by decide) rfl);have q0:T.cell? ⟨g,k*6,none⟩=some (jc t.cls):=q0;cases eb
    ·have ac:=Lh ab;have ae:=Lh (show(zs++[t])++Br s true (xs.drop (k+1))=Br s aw xs from by simpa using ag.o);obtain⟨pu,cu,hu⟩:=R.o.slice;subst hu;go_wp2_with (at_builtin;refine wpList_append_own_at _ rfl (.tmp 41) (.tmp 46) 87 rfl w0.heap.size 93 i0 _ 6 64 Tryz.underlying87 aq au ak ap rfl (by decide) _ _ _ rfl (xa R.o _) ⟨T.heap.size,0,none⟩ 1 1 (AE t).toList rfl rfl (Bd (Af.new T (AE t) 93)) (DO t) (by unfold maxLen;omega) (by omega) (by have:=A.o.size;simp;omega) ?_);intro v8 x8 O M _ ai;have U:=Lh (Ak (A.o.trans ((Aa T _).mono A.o.size)) (xa R.o _) (xc _) (by have:=A.o.size;simp;omega) M);have af:=Lh (show Bb w0.heap.size x8 v8 (zs++[t])from Bb.snoc O);clear O M ai;clear p0 p1 p2 p3 p4 p5;clear q0 q1 q2 q3 q4 q5;go_wp2_with fail;go_roundw
     case rel=>exact⟨k+1,true,zs++[t],rfl,by go_num,by have:=aj.o;omega,by rw[xb];simp;have:=ac.o;first | omega | (simp at this;omega),ae,af,U⟩
     case measure=>simp[intOf];omega
    ·have ac:=Lh ab;have ae:=Lh (show zs++Br s true (xs.drop (k+1))=Br s aw xs from by simpa using ag.o);go_wp2_with fail;go_roundw
     case rel=>exact⟨k+1,true,zs,rfl,by go_num,by have:=aj.o;omega,by have:=ac.o;first | omega | (simp at this ⊢;omega),ae,R,A⟩
     case measure=>simp[intOf];omega
def Wr(r:ByteArray):Prop:=r=⟨#[]⟩∨r=⟨#[82,49]⟩∨r=⟨#[82,50]⟩
def UM(s:ByteArray):Prop:=∃c:UInt8,s=⟨#[99,c]⟩/\49<=c.toNat/\c.toNat<=52
theorem two_bytes(a b:UInt8):(⟨#[a]⟩++⟨#[b]⟩:ByteArray)=⟨#[a,b]⟩:=by
 apply ByteArray.ext
 simp[ByteArray.data_append]
theorem Pk{n:Int}(A:49<=n)(w:n<=52):49<=(UInt8.ofNat n.toNat).toNat/\(UInt8.ofNat n.toNat).toNat<=52:=by
 rw[UInt8.toNat_ofNat_of_lt' (show n.toNat<UInt8.size by show n.toNat<256;omega)];omega
structure Th (g:Tt.Grd) (n:Int) (s:Az):Prop where
 cls:UM s.cls
 tim:Tt.TimOk g n s.tim
 room:Wr s.room
structure DB (g:Tt.Grd) (n:Int) (l:List Az):Prop where
 asc:l.Pairwise (fun a b=>A4 a.cls b.cls=true)
 each: ∀s∈l,Th g n s
theorem DB.nil(g:Tt.Grd)(n:Int):DB g n []:=⟨List.Pairwise.nil,fun s h=>by cases h⟩
theorem I0{s x:Az}: ∀{l:List Az} {w:Bool},x∈Br s w l->x=s/\w=false∨x∈l/\x.cls≠s.cls
 | [],w,h=>by
  unfold Br at h;cases w with
  | true=>simp at h
  | false=>simp at h;exact .inl ⟨h,rfl⟩
 | y::r,w,h=>by
  rw[Br]at h;rcases xe.1 h with h | h
  ·split at h
   ·cases h
   ·rename_i g
    refine .inl ⟨xd.1 h,?_⟩;cases w with
    | true=>simp at g
    | false=>rfl
  ·rcases xe.1 h with h | h
   ·split at h
    ·cases h
    ·rename_i g
     rw[xd.1 h];exact .inr ⟨List.mem_cons_self ..,fun q=>g (by rw[q];simp)⟩
   ·rcases I0 h with⟨a,b⟩ | ⟨a,b⟩
    ·refine .inl ⟨a,?_⟩;cases w with
     | true=>simp at b
     | false=>rfl
    ·exact .inr ⟨List.mem_cons_of_mem _ a,b⟩
theorem G2(s:Az): ∀l:List Az,Br s true l=l.filter (fun x=>!(x.cls.toList==s.cls.toList))
 | []=>rfl
 | x::r=>by
  rw[Br,Bool.true_or,if_pos rfl,Bool.true_or,G2 s r,xg,List.filter_cons];by_cases h:(x.cls.toList==s.cls.toList)=true
  ·rw[if_pos h,if_neg (by rw[h];decide),xg]
  ·rw[if_neg h,if_pos (by simpa using h)];rfl
theorem Np{a b:ByteArray}(h: ¬A4 a b=true)(hne: ¬(a.toList==b.toList)=true):A4 b a=true:=
 G8 (DH (by simpa using h) (fun q=>hne (by rw[q];simp)))
theorem Mu{s:Az}: ∀{l:List Az} {F:Bool},l.Pairwise (fun a b=>A4 a.cls b.cls=true)->(Br s F l).Pairwise (fun a b=>A4 a.cls b.cls=true)
 | l,true,h=>by rw[G2];exact h.filter _
 | [],false,_=>by unfold Br;exact List.pairwise_singleton _ _
 | x::r,false,h=>by
  obtain⟨w,D⟩:=List.pairwise_cons.1 h;rw[Br,Bool.false_or,Bool.false_or];by_cases hl:Op.bytesLess x.cls.toList s.cls.toList=true
  ·have A:A4 x.cls s.cls=true:=hl;have hne: ¬(x.cls.toList==s.cls.toList)=true:=fun q=>by
    have e:x.cls.toList=s.cls.toList:=by simpa using q
    rw[e,bytesLess_eq]at hl;simp at hl;exact List.lt_irrefl _ hl
   rw[if_pos hl,if_neg hne,hl,xg];refine List.pairwise_cons.2 ⟨fun y hy=>?_,Mu D⟩;rcases I0 hy with⟨a, -⟩ | ⟨a, -⟩
   ·rw[a];exact A
   ·exact w y a
  ·have E:Op.bytesLess x.cls.toList s.cls.toList=false:=by simpa using hl
   rw[if_neg hl,E,Bool.not_false,G2,List.singleton_append];refine List.pairwise_cons.2 ⟨fun y hy=>?_,?_⟩
   ·rcases xe.1 hy with hy | hy
    ·split at hy
     ·cases hy
     ·rename_i g
      rw[xd.1 hy];exact Np hl g
    ·have hm:=(List.mem_filter.1 hy).1;by_cases hq:(x.cls.toList==s.cls.toList)=true
     ·have e:x.cls.toList=s.cls.toList:=by simpa using hq
      have:=w y hm;unfold A4 at this ⊢;rwa [<-e]
     ·exact CX (Np hl hq) (w y hm)
   ·split
    ·exact D.filter _
    ·exact List.pairwise_cons.2 ⟨fun y hy=>w y (List.mem_filter.1 hy).1,D.filter _⟩
theorem DB.put{g:Tt.Grd}{n:Int}{l:List Az}{s:Az}(h:DB g n l)(w:Bool)(hs:Th g n s):DB g n (Br s w l):=
 ⟨Mu h.asc,fun x hx=>by
  rcases I0 hx with⟨a, -⟩ | ⟨a, -⟩
  ·rw[a];exact hs
  ·exact h.each x a⟩
structure CL (lo:Nat) (w:World) (u:Value) (ls:List (Value × List Az)):Prop where
 row:w.ownsRow lo 87 1 u ls.length (ls.map (·.1))
 each: ∀q∈ls,Bb lo w q.1 q.2
theorem CL.nil(lo:Nat)(w:World):CL lo w (jd none 0 0) []:=⟨xf _ _ _ _,fun q h=>by cases h⟩
theorem CL.but{b lo:Nat}{w w':World}{u:Value}{ls:List (Value × List Az)}(h:CL lo w u ls)(hb:b<lo)(ho:AO b w.heap.size w w'):CL lo w' u ls:=⟨Am h.row hb ho,fun q hq=>Am (h.each q hq) hb ho⟩
theorem CL.alloc{lo:Nat}{w:World}{u:Value}{ls:List (Value × List Az)}(h:CL lo w u ls)(o:Obj):CL lo (w.alloc o) u ls:=⟨h.row.alloc o,fun q hq=>xa (h.each q hq) o⟩
theorem CL.snoc{lo:Nat}{w w':World}{u E:Value}{ls:List (Value × List Az)}{q:Value × List Az}(h:CL lo w u ls)(hq:Bb lo w q.1 q.2)(hg:w.grownBy w' u.ownBlock)(A:w'.ownsRow lo 87 1 E (ls.length+1) (ls.map (·.1)++[q.1])):CL lo w' E (ls++[q]):=by
 have hk: ∀r:Value × List Az,Bb lo w r.1 r.2->Bb lo w' r.1 r.2:=fun r hr=>World.ownsRow.kept hr hg (AU hr h.row (by decide))
 refine⟨by rw[xb,List.map_append];exact A,fun r hr=>?_⟩;rcases xe.1 hr with D | D
 ·exact hk r (h.each r D)
 ·rw[xd.1 D];exact hk q hq
theorem PR(b:Nat)(g:Tt.Grd)(t:Tt.Trm)(p:Option Addr)(c:Nat)(w:World)(hd:BJ b w)(g0:1<=g.days)(g1:g.days<=5)(g2:2<=g.slots)(g3:g.slots<=8)(k0:1<=t.weeks)(k1:t.weeks<=8):Calls Tryz.prog 16 #[jf (some ⟨b,0,none⟩),Cj g,Cu t (jd p t.hols.length c)] w fun e w'=> ∃(u:Value) (ls:List (Value × List Az)),e=jh u/\CL w.heap.size w' u ls/\ls.length<=4/\(∀q∈ls,q.2.length<=12/\DB g t.weeks q.2)/\Ai b w w':=by
 obtain⟨i0,bU,bL,bB,b2⟩:=info_parts O5;obtain⟨i1,bt,bD,bZ,bI⟩:=info_parts Vg;unfold Cj Cu;have aP:=hd.lt;obtain⟨P,hP⟩: ∃g,g=w.heap.size:=⟨_,rfl⟩
 obtain⟨Q,hQ⟩: ∃g,g=w.heap.size+1:=⟨_,rfl⟩
 obtain⟨w0,ap⟩: ∃X,X=((w.alloc (ji #[ja jb g.days,ja jb g.slots,ja jb g.begin_,ja jb g.mins] 65)).alloc (ji #[ja jb t.first,ja jb t.weeks,jd p t.hols.length c] 68)):=⟨_,rfl⟩
 have aa:=Lh (show Ai b w w0 from by rw[ap];exact(((Ai.refl hd).alloc _).alloc _));have ar:=Lh (show Af P #[ja jb g.days,ja jb g.slots,ja jb g.begin_,ja jb g.mins] 65 w0 from by rw[ap,hP];exact(Af.new' _ _ _ (by simp)).alloc _);have lP:w.heap.size<=P:=by omega
 have aj:=Lh (show Af Q #[ja jb t.first,ja jb t.weeks,jd p t.hols.length c] 68 w0 from by rw[ap,hQ];exact Af.new' _ _ _ (by simp));have lQ:w.heap.size<=Q:=by omega
 have cH:Q≠P:=by omega
 have bP:b<P:=by omega
 have bQ:b<Q:=by omega
 go_enter Tryz.func16,Tryz.ntmps16;go_upto_region 1 with(fail);rw[<-ap,<-hQ,<-hP];clear ap hP hQ;have aL:P≠b:=by omega
 have aC:Q≠b:=by omega
 have ab:=Lh aP;go_wp2_with fail;refine(As b 5 _ aa.o.dice (by omega) (by omega)).mono ?_;rintro e w1 ⟨a1,rfl,l1,u1, -,hd,ho⟩;have u1:=u1 (by omega);have af:=Lh (aa.o.only hd ho);have au:=Lh (ar.o.only ho (by omega));have am:=Lh (aj.o.only ho (by omega));clear hd ho aa ar aj;go_wp2_with fail;go_loopw [7,8,9] (fun ov nv iv wr=> ∃(ls:List (Value × List Az)) (ns:List Az) (n:Int),iv=ja jb n/\0<=n/\n<=4/\ls.length+n<=4/\ns.length+3*n<=12/\Hid (CL w.heap.size wr ov ls)/\Hid (∀q∈ls,q.2.length<=12/\DB g t.weeks q.2)/\Hid (DB g t.weeks ns)/\Hid (Bb w.heap.size wr nv ns)/\Hid (Af P #[ja jb g.days,ja jb g.slots,ja jb g.begin_,ja jb g.mins] 65 wr)/\Hid (Af Q #[ja jb t.first,ja jb t.weeks,jd p t.hols.length c] 68 wr)/\Hid (Ai b w wr)) (fun _ _ iv _=>(intOf iv).toNat)
 case atStart=>exact⟨[],[],a1,rfl,by omega,by omega,by simp;omega,by simp;omega,Lh (CL.nil _ _),Lh (fun q h=>by cases h),Lh (DB.nil _ _),Lh (Bb.nil _ _),au,am,af⟩
 case round=>
  clear au am af;obtain⟨ls,ns,n,rfl,cw,cA,cn,cI,HO,bp,bC,HN,Y,V,M⟩:=hrel;obtain⟨un,b6⟩: ∃X,X=u8:=⟨_,rfl⟩
  subst b6;by_cases cb:0<n;rotate_left
  ·go_wp2_with fail;go_ret;exact⟨_,rfl,ls,HO.o,by omega,fun a b h=>bp.o (a,b) h,M.o⟩
  have aq:w.heap.size<=wr.heap.size:=M.o.but.size;go_wp2_with (at_builtin;refine Du rfl (.const (jd none 0 0)) (.tmp 18) 87 rfl w.heap.size 93 i0 _ 6 64 Tryz.underlying87 bU bL bB b2 rfl (by decide) _ _ _ rfl (xf wr _ _ _) w.heap.size _ _ _ rfl HN.o (Qd _) (by unfold maxLen;omega) (by omega) aq ?_);intro v1 x1 aA A aE;have A:wr.grownBy x1 none:=A;have a8:=Lh (show Bb w.heap.size x1 v1 ns from by simpa[Bb]using aA);have ay:Below wr.heap.size wr x1:=⟨A.os,A.tape,A.output,A.size,fun k hk=>A.block k hk (by simp)⟩
  have O:=Lh (M.o.grown0 A);have bf:=Lh (Y.o.below ay Y.o.lt);have a6:=Lh (V.o.below ay V.o.lt);have aQ:=Lh (HO.o.but ab.o (AO.of_below ay));clear aA A aE ay aq HO HN Y V M;go_wp2_with fail;refine(As b 3 _ O.o.dice (by omega) (by omega)).mono ?_;rintro e x2 ⟨m,rfl,m0,m1, -,hd,ho⟩;have m1:=m1 (by omega);have ax:=Lh (O.o.only hd ho);have ba:=Lh (bf.o.only ho aL);have aZ:=Lh (a6.o.only ho aC);have aV:=Lh (aQ.o.but ab.o ho.but);have bm:=Lh (show Bb w.heap.size x2 v1 ns from Am a8.o ab.o ho.but);clear hd ho O bf a6 aQ a8;go_wp2_with fail;go_loopw [8,10] (fun nv iv wr=> ∃(zs:List Az) (k:Int),iv=ja jb k/\0<=k/\k<=3/\zs.length+k<=ns.length+3/\Hid (CL w.heap.size wr u7 ls)/\Hid (DB g t.weeks zs)/\Hid (Bb w.heap.size wr nv zs)/\Hid (Af P #[ja jb g.days,ja jb g.slots,ja jb g.begin_,ja jb g.mins] 65 wr)/\Hid (Af Q #[ja jb t.first,ja jb t.weeks,jd p t.hols.length c] 68 wr)/\Hid (Ai b w wr)) (fun _ iv _=>(intOf iv).toNat)
  case atStart=>exact⟨ns,1+m,by go_num,by omega,by omega,by omega,aV,bC,bm,ba,aZ,ax⟩
  case round=>
   clear aV bm ba aZ ax;obtain⟨zs,k,rfl,cF,cu,cy,HO,aK,HN,HP,HQ,F⟩:=hrel;by_cases cp:0<k;rotate_left
   ·have aq:w.heap.size<=wr.heap.size:=F.o.but.size;obtain⟨po,co,hu⟩:=AM HO.o.row;subst hu;obtain⟨T,R,hz⟩:=HN.o.slice;subst hz;go_wp2_with (at_builtin;refine wpList_append_own_at _ rfl (.tmp 55) (.tmp 57) 70 rfl w.heap.size 87 i1 _ 1 24 Tryz.underlying70 bt bD bZ bI rfl (by decide) _ _ _ rfl (xa HO.o.row _) ⟨wr.heap.size,0,none⟩ 1 1 [jd T zs.length R] rfl rfl (Bq _ _ _) (by intro u hu;simp at hu;subst hu;rfl) (by unfold maxLen;omega) (by omega) (by simp;omega) ?_);intro v8 x8 ag A _ aE;have bV:=Lh (CL.snoc (q:=(jd T zs.length R,zs)) (HO.o.alloc (ji #[jd T zs.length R] 87)) (xa HN.o _) A ag);have bN:=Lh ((F.o.alloc (ji #[jd T zs.length R] 87)).grow (xa HO.o.row _) (xc _) ab.o (by simp;omega) A);have bT:=Lh (show Bb w.heap.size x8 (jd T zs.length R) zs from World.ownsRow.kept (xa HN.o _) A (AU (xa HN.o _) (xa HO.o.row (ji #[jd T zs.length R] 87)) (by decide)));have bJ:=Lh ((HP.o.alloc (ji #[jd T zs.length R] 87)).grown (xa HO.o.row _) A (by decide));have b3:=Lh ((HQ.o.alloc (ji #[jd T zs.length R] 87)).grown (xa HO.o.row _) A (by decide));have bE:=Lh (show ∀q∈ls++[(jd T zs.length R,zs)],q.2.length<=12/\DB g t.weeks q.2 from fun q hq=>by
     rcases xe.1 hq with h | h
     ·exact bp.o q h
     ·rw[xd.1 h];exact⟨by show zs.length<=12;omega,aK.o⟩)
    clear ag A aE HO F HN HP HQ;go_wp2_with fail;go_roundw
    case rel=>exact⟨ls++[(jd T zs.length R,zs)],zs,n - 1,by go_num,by omega,by omega,by rw[xb];simp;omega,by omega,bV,bE,aK,bT,bJ,b3,bN⟩
    case measure=>simp[intOf];omega
   obtain⟨wa,bc⟩: ∃X,X=wr:=⟨_,rfl⟩
   rw[<-bc]at HO HN HP HQ F ⊢;clear bc;have cB:b<wa.heap.size:=F.o.dice.lt;have b1:w.heap.size<=wa.heap.size:=F.o.but.size;obtain⟨T,R,hz⟩:=HN.o.slice;subst hz;go_upto_region 9 with(fail)
   have br:=HP;have bj:=HQ;have aU:=F;clear HP HQ F;have G:=Lh (aU.o.dice);have bG:=fun x (E:gS b wa x)=>((Ai.mk E.1 (E.2 G.o)).blk br.o aL).c4
   have cD: ∀x,gS b wa x->x.cell? ⟨Q,1,none⟩=some (ja jb t.weeks):=fun x E=>((Ai.mk E.1 (E.2 G.o)).blk bj.o aC).cell 1
   refine AH (GR.sofar b) 14 [gE _,fun _ u x=> ∃(n:Int),u=ja jb n/\0<=n/\n<=3,fun _ u x=> ∃(n:Int),u=ja jb n/\49<=n/\n<=52,fun _ u x=> ∃(J:UInt8),u=.int .u8 J.toNat/\49<=J.toNat/\J.toNat<=52,fun _ u x=> ∃(J:UInt8) (g:Nat),u=jd (some ⟨g,0,none⟩) 1 1/\wa.heap.size<=g/\Af g #[.int .u8 J.toNat] 5 x/\49<=J.toNat/\J.toNat<=52,fun _ u x=> ∃(J:UInt8),u=jc ⟨#[J]⟩/\49<=J.toNat/\J.toNat<=52,fun _ u x=> ∃(J:UInt8),u=jc (⟨#[99]⟩++⟨#[J]⟩)/\49<=J.toNat/\J.toNat<=52,gE _,gE _,gE _,gE _,fun _ u x=> ∃(y:Tt.Tim),u=.agg #[ja jb y.weeks,ja jb y.day,ja jb y.start,ja jb y.len]/\Tt.TimOk g t.weeks y,fun _ u x=> ∃(J:UInt8) (y:Tt.Tim),u=.agg #[jc (⟨#[99]⟩++⟨#[J]⟩),ja jb y.weeks,ja jb y.day,ja jb y.start,ja jb y.len,jc ⟨#[]⟩]/\49<=J.toNat/\J.toNat<=52/\Tt.TimOk g t.weeks y,fun _ u x=> ∃(S:Nat),u=jf (some ⟨S,0,none⟩)/\wa.heap.size<=S/\Af S #[jc ⟨#[]⟩,ja jb 0,ja jb 0,ja jb 0,ja jb 0,jc ⟨#[]⟩] 93 x] rfl EA ⟨qE,by
    intro v x E h QQ K;have F:=Lh (Ai.mk E.1 (E.2 G.o));simp only[A2,A1]at h;obtain⟨⟨_,e0,_⟩, -⟩:=h;simp only[e0]at K ⊢;go_wp2_with fail;refine(As b 4 _ F.o.dice (by omega) (by omega)).mono ?_;rintro e x1 ⟨v,rfl,h0,h1, -,ah,ak⟩;have h1:=h1 (by omega);have O:=gS.of ((Ai.refl F.o.dice).only ah ak);clear ak ah;go_wp2_with fail;exact K _ _ ⟨_,rfl,by omega,by omega⟩ (.inr O),
    by
    intro v x E h QQ K;have F:=Lh (Ai.mk E.1 (E.2 G.o));simp only[A2,A1]at h;obtain⟨⟨cm,⟨n1,e1,cc,b9⟩,z1⟩, -⟩:=h;simp only[e1]at K ⊢;go_wp2_with fail;exact K _ _ ⟨_,rfl,by omega,by omega⟩ (.inl rfl),
    by
    intro v x E h QQ K;have F:=Lh (Ai.mk E.1 (E.2 G.o));simp only[A2,A1]at h;obtain⟨⟨cv,⟨n2,e2,ca,cd⟩,z2⟩, -⟩:=h;simp only[e2]at K ⊢;go_wp2_with fail;exact K _ _ ⟨_,congrArg (Value.int .u8) (Ux _ (by omega) (by omega)),(Pk (by omega) (by omega)).1,(Pk (by omega) (by omega)).2⟩ (.inl rfl),
    by
    intro v x E h QQ K;have F:=Lh (Ai.mk E.1 (E.2 G.o));simp only[A2,A1]at h;obtain⟨⟨bY,⟨ci,e3,a7,bh⟩,z3⟩, -⟩:=h;simp only[e3]at K ⊢;go_wp2_with fail;exact K _ _ ⟨_,_,rfl,F.o.but.size,Af.new x _ _,a7,bh⟩ (.inr (gS.of ((Ai.refl F.o.dice).alloc _))),
    by
    intro v x E h QQ K;have F:=Lh (Ai.mk E.1 (E.2 G.o));simp only[A2,A1]at h;obtain⟨⟨ct,⟨cE,g4,e4,cf,al,be,aW⟩,z4⟩, -⟩:=h;have al:=al.but z4.1 (by omega);simp only[e4]at K ⊢;have aY:=Eh al;go_wp2_with fail;exact K _ _ ⟨_,rfl,be,aW⟩ (.inl rfl),
    by
    intro v x E h QQ K;have F:=Lh (Ai.mk E.1 (E.2 G.o));simp only[A2,A1]at h;obtain⟨⟨ck,⟨cq,e5,aS,bo⟩,z5⟩, -⟩:=h;simp only[e5]at K ⊢;go_wp2_with fail;exact K _ _ ⟨_,rfl,aS,bo⟩ (.inl rfl),
    qE,qE,qE,qE,by
    intro v x E h QQ K;have F:=Lh (Ai.mk E.1 (E.2 G.o));simp only[A2,A1]at h;obtain⟨⟨_,e7,_⟩,⟨_,e8,_⟩,⟨_,bF,_⟩, -⟩:=h;simp only[e7,e8,bF]at K ⊢;go_wp2_with fail;refine(Tq b g t.weeks _ F.o.dice k0 k1 g0 g1 g2 g3).mono ?_;rintro e x1 ⟨y,rfl,hy,bi⟩;have O:=gS.of bi;clear bi;unfold D8;go_wp2_with fail;exact K _ _ ⟨_,rfl,hy⟩ (.inr O),
    by
    intro v x E h QQ K;have F:=Lh (Ai.mk E.1 (E.2 G.o));simp only[A2,A1]at h;obtain⟨⟨cx,⟨cj,e6,bl,bg⟩,z6⟩,⟨b7,⟨cl,bz,aG⟩,cG⟩, -⟩:=h;simp only[e6,bz]at K ⊢;go_wp2_with fail;exact K _ _ ⟨_,_,rfl,bl,bg,aG⟩ (.inl rfl),
    by
    intro v x E h QQ K;have F:=Lh (Ai.mk E.1 (E.2 G.o));go_wp2_with fail;exact K _ _ ⟨_,rfl,F.o.but.size,Af.new x _ _⟩ (.inr (gS.of ((Ai.refl F.o.dice).alloc _))),
    trivial⟩ ?_
   intro v x E h;have F:=Lh (Ai.mk E.1 (E.2 G.o));simp only[Dt,Nat.reduceAdd]at h;obtain⟨-, -, -, -, -, -, -, -, -, -, -, -,⟨b8,⟨cg,cr,bX,aM,aB,aF⟩,cC⟩,⟨ce,⟨U,bW,H,D⟩,bO⟩, -⟩:=h;have D:=D.but bO.1 (by omega);have f0:x.cell? ⟨U,0,none⟩=some (jc ⟨#[]⟩):=D.cell 0;have f1:x.cell? ⟨U,1,none⟩=some (ja jb 0):=D.cell 1;have f2:x.cell? ⟨U,2,none⟩=some (ja jb 0):=D.cell 2;have f3:x.cell? ⟨U,3,none⟩=some (ja jb 0):=D.cell 3;have f4:x.cell? ⟨U,4,none⟩=some (ja jb 0):=D.cell 4;have f5:x.cell? ⟨U,5,none⟩=some (jc ⟨#[]⟩):=D.cell 5;have z0:=D.frozen 0;have z1:=D.frozen 1;have z2:=D.frozen 2;have z3:=D.frozen 3;have z4:=D.frozen 4;have z5:=D.frozen 5;refine DE fun QQ ai=>?_
   have HQ:=Lh ai;clear ai;simp only[bX,bW,Ci];go_wp2_with fail;rw[HQ.o];refine Cm (fun x=> ∃(S:Nat) (J:UInt8) (y:Tt.Tim),(_:Value)=jf (some ⟨S,0,none⟩)/\wa.heap.size<=S/\Af S #[jc (⟨#[99]⟩++⟨#[J]⟩),ja jb y.weeks,ja jb y.day,ja jb y.start,ja jb y.len,jc ⟨#[]⟩] 93 x/\49<=J.toNat/\J.toNat<=52/\Tt.TimOk g t.weeks y/\Ai b wa x) (by exact⟨_,_,_,rfl,H,(((((D.set 0 _).set 1 _).set 2 _).set 3 _).set 4 _).set 5 _,aM,aB,aF,(((((F.o.set H (by omega) 0 _).set H (by omega) 1 _).set H (by omega) 2 _).set H (by omega) 3 _).set H (by omega) 4 _).set H (by omega) 5 _⟩) ?_;clear HQ;intro x Z;obtain⟨S,J,y,⟨⟩,lS,aN,aR,aT,hy,hs⟩:=Z;obtain⟨S,rfl⟩: ∃S,S=U:=⟨_,rfl⟩
   obtain⟨s,aD⟩: ∃s,s=(⟨#[99]⟩++⟨#[J]⟩:ByteArray):=⟨_,rfl⟩
   rw[<-aD]at aN;have bu:=Lh (show UM s from⟨J,aD.trans (two_bytes _ _),aR,aT⟩);have bs:=Lh hy;clear aD aR aT hy;have aO:=Lh hs;have HB:=Lh aN;clear hs aN;have aH:S≠b:=by omega
   have bS:b<S:=by omega
   go_wp2_with fail;refine(Lo b 2 _ aO.o.dice (by omega) (by omega)).mono ?_;rintro e x4 ⟨bb,rfl,hd,ho⟩;have az:=Lh (aO.o.only hd ho);have aI:=Lh (HB.o.only ho aH);clear hd ho aO HB;go_upto_if 41 with(fail)
   go_cut []from 42 to 49 (fun wx=> ∃rm:ByteArray,Hid (Wr rm)/\Hid (Af S #[jc s,ja jb y.weeks,ja jb y.day,ja jb y.start,ja jb y.len,jc rm] 93 wx)/\Hid (Ai b wa wx))
   case first=>
    cases bb
    ·go_wp2_with fail;go_meet;exact⟨⟨#[]⟩,Lh (.inl rfl),aI,az⟩
    ·go_wp2_with fail;refine(As b 2 _ az.o.dice (by omega) (by omega)).mono ?_;rintro e x5 ⟨v,rfl,v0,v1, -,hd,ho⟩;have v1:=v1 (by omega);have bn:=Lh (az.o.only hd ho);have ac:=Lh (aI.o.only ho aH);clear hd ho;rcases(show v=0∨v=1 by omega)with rfl | rfl
     ·have aY:=Eh (c:=49) (Af.new x5 #[.int .u8 49] 5);have fz:(x5.alloc (ji #[.int .u8 49] 5)).frozen? ⟨S,5,none⟩=false:=(ac.o.alloc _).frozen 5;have R:(x5.alloc (ji #[.int .u8 49] 5)).cell? ⟨S,5,none⟩=some (jc ⟨#[]⟩):=(ac.o.alloc _).cell 5;go_wp2_with fail;go_meet;exact⟨_,Lh (.inr<| .inl ((two_bytes _ _).trans rfl)),Lh ((ac.o.alloc _).set 5 _),Lh ((bn.o.alloc _).set lS bS 5 _)⟩
     ·have aY:=Eh (c:=50) (Af.new x5 #[.int .u8 50] 5);have fz:(x5.alloc (ji #[.int .u8 50] 5)).frozen? ⟨S,5,none⟩=false:=(ac.o.alloc _).frozen 5;have R:(x5.alloc (ji #[.int .u8 50] 5)).cell? ⟨S,5,none⟩=some (jc ⟨#[]⟩):=(ac.o.alloc _).cell 5;go_wp2_with fail;go_meet;exact⟨_,Lh (.inr<| .inr ((two_bytes _ _).trans rfl)),Lh ((ac.o.alloc _).set 5 _),Lh ((bn.o.alloc _).set lS bS 5 _)⟩
   case rest=>
   obtain⟨rm,b4,aX,ae⟩:=hcut;obtain⟨wb,bk⟩: ∃X,X=wc:=⟨_,rfl⟩
   rw[<-bk]at aX ae ⊢;clear bk wc aI az;have bA:=Lh (show Bb w.heap.size wb (jd T zs.length R) zs from Am HN.o ab.o ae.o.but);have hbb:b<wb.heap.size:=ae.o.dice.lt;have bq:w.heap.size<=wb.heap.size:=xi b1 ae.o.but.size;go_upto_region 12 with(fail);have G:=Lh (ae.o.dice);have bG:=fun x (E:gS b wb x)=>((Ai.mk E.1 (E.2 G.o)).blk aX.o aH).c6
   refine AH (GR.sofar b) 4 [gE _,gE _,gE _,fun _ u x=> ∃(v:Bool),u=je v] rfl EA ⟨qE,qE,qE,by
    intro v x E h QQ K;have F:=Lh (Ai.mk E.1 (E.2 G.o));simp only[A2,A1]at h;obtain⟨⟨_,e2,_⟩, -⟩:=h;simp only[e2]at K ⊢;go_wp2_with fail;refine(Lo b 4 _ F.o.dice (by omega) (by omega)).mono ?_;rintro e x1 ⟨v,rfl,ah,ak⟩;have O:=gS.of ((Ai.refl F.o.dice).only ah ak);clear ak ah;go_wp2_with fail;exact K _ _ ⟨_,rfl⟩ (.inr O),
    trivial⟩ ?_
   intro v x E h;have F:=Lh (Ai.mk E.1 (E.2 G.o));simp only[Dt,Nat.reduceAdd]at h;obtain⟨⟨_,e0,_⟩,⟨_,e1,_⟩, -,⟨bY,⟨v3,e3⟩,z3⟩, -⟩:=h;have bH:=Lh (show Bb w.heap.size x (jd T zs.length R) zs from Am bA.o ab.o F.o.but);refine DE fun QQ ai=>?_
   have HQ:=Lh ai;clear ai;simp only[e0,e1,e3,Ci];go_wp2_with fail;refine(show Calls Tryz.prog 32 #[jd T zs.length R,.agg #[jc s,ja jb y.weeks,ja jb y.day,ja jb y.start,ja jb y.len,jc rm],je v3] x _ from TH w.heap.size zs T R ⟨s,y,rm⟩ v3 x bH.o (by omega)).mono ?_;rintro e x1 ⟨u9,rfl,hy,av,hb⟩;have b0:=Lh (Bb.mono hy (xi bq F.o.but.size));have bv:=Lh av;have ax:=Lh (F.o.then (F.o.dice.kept F.o.dice.lt hb) (AO.of_below hb));clear hy av hb;go_wp2_with fail;rw[HQ.o];refine Cm (fun x=> ∃vv:Bool,Bb w.heap.size x (_:Value) (Br ⟨s,y,rm⟩ vv zs)/\(Br ⟨s,y,rm⟩ vv zs).length<=zs.length+1/\Ai b wb x) (by exact⟨_,b0.o,bv.o,ax.o⟩) ?_;clear HQ;intro x Z;obtain⟨vv,hy,av,hs⟩:=Z;obtain⟨ys,aJ⟩: ∃ys,ys=Br ⟨s,y,rm⟩ vv zs:=⟨_,rfl⟩
   rw[<-aJ]at hy av;have bw:=Lh (show DB g t.weeks ys from by rw[aJ];exact aK.o.put _ ⟨bu.o,bs.o,b4.o⟩);clear aJ;have aw:=Lh (ae.o.trans hs);have bK:=Lh (aU.o.trans aw.o);have bR:=Lh (HO.o.but ab.o aw.o.but);have b5:=Lh (aw.o.blk br.o aL);have bM:=Lh (aw.o.blk bj.o aC);have bx:=Lh hy;clear hs hy;go_wp2_with fail;go_roundw
   case rel=>exact⟨ys,k - 1,by go_num,by omega,by omega,by omega,bR,bw,bx,b5,bM,bK⟩
   case measure=>simp[intOf];omega
