/- A text of a feed that is cut anywhere is not the text of a feed. No function of the program in sight. Condition: none. Deliveries: plain laws. No function of the program in sight. Condition: none. Deliveries: the sanity check, and a drawn feed. Condition: none. The feeds of a drawn timetable after each of its versions (law.feeds): its contract. -/
import Derived.Test.YtegjgjgoodekiaaGreatDoorQk28
import Derived.Test.YtegjgjgoodekiaaGreatDoorQk32
import Derived.Deep.CutBlock
open Go.Value renaming int->ja,string->jc,slice->jd,bool->je,pointer->jf,tuple->jg
open Go.IntKind renaming i64->jb
open Go.Ending renaming returned->jh
open Go.Obj renaming cells->ji
open List renaming mem_singleton->xa,length_append->xb,not_mem_nil->xc,mem_cons->xd,length_cons->xf,length_nil->xg,mem_append->xi,length_map->xj,mem_map_of_mem->xl,length_take->xn,nil_append->xo,append_nil->xp
open Nat renaming le_refl->xe,le_trans->xk,lt_of_lt_of_le->xm,zero_mul->xq,zero_add->xr,add_zero->xt,zero_le->xu
open Go.World.ownsRow renaming alloc->xh
set_option maxRecDepth 100000
set_option maxHeartbeats 40000000
namespace Tt
theorem RW{x:List UInt8}{w:List (List UInt8)}(hne: ¬w=[])(hx:x∈w):x∈w.dropLast∨x=w.getLastD []:=by
 have h:w=w.dropLast++[w.getLast hne]:=(List.dropLast_concat_getLast hne).symm;rw[h]at hx;rcases xi.1 hx with k | k
 ·exact .inl k
 ·right
  rw[xa.1 k,List.getLastD_eq_getLast?,List.getLast?_eq_some_getLast hne];rfl
theorem Ek: ∀(r w A:List (List UInt8)),joinL w r=some A-> ∀x∈w,∃y∈A,x<+:y
 | [],w,A,h,x,hx=>by
  unfold joinL at h;cases h;exact⟨x,hx,List.prefix_rfl⟩
 | l::r,w,A,h,x,hx=>by
  unfold joinL at h;split at h
  ·split at h
   ·cases h
   ·rename_i hne
    rcases RW hne hx with k | k
    ·exact Ek r _ A h x (List.mem_append_left _ k)
    ·obtain⟨y,hy,hp⟩:=Ek r _ A h (w.getLastD []++l.tail) (by simp);refine⟨y,hy,List.IsPrefix.trans ?_ hp⟩;rw[k];exact List.prefix_append _ _
  ·exact Ek r _ A h x (List.mem_append_left _ hx)
theorem Hb: ∀(a b w:List (List UInt8)),joinL w (a++b)=(joinL w a).bind (fun o=>joinL o b)
  | [],b,w=>by
    rw[xo];(conv=>rhs;rw[joinL.eq_def]);rfl
  | l::a,b,w=>by
    rw[List.cons_append,joinL,joinL];split
    · split
      · rfl
      · exact Hb a b _
    · exact Hb a b _
theorem chop_form{p:List UInt8}{q:List (List UInt8)}(h:A9 [] p=some q):(∀l∈q,Clean l)/\p=q.flatMap crlf:=by
 rcases DA p.length p [] q (xe _) h (fun c hc=>by cases hc)with⟨h1,h2,_⟩ | ⟨l,rest,h1,h2,h3,h4⟩
 ·subst h1 h2;exact⟨fun l hl=>(by cases hl),rfl⟩
 ·rw[h1];simp only[xo]at h2 ⊢;refine⟨fun x hx=>?_,by rw[h4];rfl⟩;rcases xd.1 hx with rfl | k
  ·exact h2
  ·exact h3 x k
theorem unf_part{L:List (List UInt8)}(hne:L≠[])(hc: ∀l∈L,Clean l)(hb: ∀l∈L,begins l=false){p r:List UInt8}(h:L.flatMap fold=p++r){ls:List (List UInt8)}(hu:unf p=some ls): ∀x∈ls,∃y∈L,x<+:y:=by
 have w:=unf_folds L hne hc hb;unfold unf at w hu;split at hu
 ·cases hu
 ·split at w
  ·cases w
  ·obtain⟨q,hq,hj⟩:=Option.bind_eq_some_iff.1 hu;obtain⟨A,hq2⟩:=chop_form hq;rw[h,hq2,chopGo_lines q A]at w;obtain⟨P,E,D⟩:=Option.bind_eq_some_iff.1 w;obtain⟨R,_,rfl⟩:=Option.map_eq_some_iff.1 E;rw[Hb,hj]at D;exact Ek R ls L D
def endL:List UInt8:=[69,78,68,58,86,67,65,76,69,78,68,65,82]
theorem end_cut: ∀k:Nat,k<15->k≠0->A9 [] ((crlf endL).take k)=none:=by decide
end Tt
namespace Go.Proofs.YtegjgjgoodekiaaGreatDoor
open Go.RowKit
open _root_.Tt (endL)
theorem Dm{l:List UInt8}{c:UInt8}{r:List UInt8}(hl:l=c::r)(hc:c≠69): ¬endL<+:l:=by
 subst hl;unfold endL;rw[List.cons_prefix_cons];exact fun h=>hc h.1.symm
theorem Qp(e:Ev)(z:List UInt8): ∀l∈Ao e z,¬endL<+:l:=by
 intro l hl;unfold Ao at hl;simp only[xi]at hl;rcases hl with((((hl | hl) | hl) | hl) | hl) | hl
 ·unfold Ke at hl;simp only[xd,xc,or_false]at hl;rcases hl with rfl | rfl | rfl | rfl | rfl | rfl
  all_goals exact Dm (c:=_) (r:=_) rfl (by decide)
 ·unfold JX at hl;split at hl
  ·cases hl
  ·rw[xa.1 hl];unfold endL;simp[List.cons_prefix_cons]
 ·unfold JY at hl;split at hl
  ·cases hl
  ·rw[xa.1 hl];exact Dm (c:=_) (r:=_) rfl (by decide)
 ·unfold Oi at hl;rw[xa.1 hl];exact Dm (c:=_) (r:=_) rfl (by decide)
 ·unfold Ly at hl;split at hl
  ·cases hl
  ·rw[xa.1 hl];exact Dm (c:=_) (r:=_) rfl (by decide)
 ·unfold LN at hl;simp only[xd,xc,or_false]at hl;rcases hl with rfl | rfl
  ·split
   ·exact Dm (c:=_) (r:=_) rfl (by decide)
   ·exact Dm (c:=_) (r:=_) rfl (by decide)
  ·decide
theorem MC(n:List UInt8)(v:Int): ∀l∈CI n v,¬endL<+:l:=by
 intro l hl;unfold CI at hl;simp only[xd,xc,or_false]at hl;rcases hl with rfl | rfl | rfl | rfl | rfl
 all_goals exact Dm (c:=_) (r:=_) rfl (by decide)
theorem N0{n z y:ByteArray}{v:Int}{es:List Ev}(hv:Aq n v es=0)(hz:Tt.code z.data.toList=true)(k:Nat)(hk:k<(BU n.data.toList v es z.data.toList).length): ∃c,c≠0/\Al (str ((BU n.data.toList v es z.data.toList).take k)) y=((⟨#[]⟩,0,[]),c):=by
 rcases CF (str ((BU n.data.toList v es z.data.toList).take k)) y with⟨n',v',es',ls,hp,_,hu,hv',hx⟩ | h
 ·exfalso;obtain⟨T,U⟩: ∃T,T=BU n.data.toList v es z.data.toList:=⟨_,rfl⟩
  rw[<-U]at hk hu;have hu:Tt.unf (T.take k)=some ls:=hu;obtain⟨L,R⟩: ∃L,L=CI n.data.toList v++es.flatMap (fun e=>Ao e z.data.toList):=⟨_,rfl⟩
  have E:AI n.data.toList v es z.data.toList=L++[Tt.endL]:=by rw[R];rfl
  have w:T=L.flatMap Tt.fold++Tt.crlf Tt.endL:=by
   rw[U];unfold BU;rw[E,List.flatMap_append];rfl
  have hcl:=Ge hv hz;rw[E]at hcl;have hne:L≠[]:=by rw[R];unfold CI;simp
  have J: ∀l∈L,¬Tt.endL<+:l:=by
   intro l hl;rw[R]at hl;rcases xi.1 hl with h | h
   ·exact MC _ _ l h
   ·obtain⟨e,_,he⟩:=List.mem_flatMap.1 h;exact Qp e _ l he
  have A:Tt.endL∈ls:=by
   have Z:str Tt.endL∈AA (ls.map str):=by
    rw[<-hx];exact xl (by unfold AI;simp[Tt.endL])
   obtain⟨l,hl,he⟩:=List.mem_map.1 (List.mem_filter.1 Z).1;have:l=Tt.endL:=by
    have:=congrArg (fun s:ByteArray=>s.data.toList) he;simpa[str]using this
   rw[<-this];exact hl
  by_cases F:k<=(L.flatMap Tt.fold).length
  ·have H:L.flatMap Tt.fold=T.take k++(L.flatMap Tt.fold).drop k:=by
    rw[w,List.take_append_of_le_length F,List.take_append_drop]
   obtain⟨X,hy,D⟩:=Tt.unf_part hne (fun l hl=>(hcl l (List.mem_append_left _ hl)).1.clean) (fun l hl=>(hcl l (List.mem_append_left _ hl)).2) H hu endL A;exact J X hy D
  ·obtain⟨j,hj⟩: ∃j,k=(L.flatMap Tt.fold).length+j:=⟨k - (L.flatMap Tt.fold).length,by omega⟩
   have O:(Tt.crlf Tt.endL).length=15:=rfl;have aa:T.length=(L.flatMap Tt.fold).length+15:=by rw[w,xb,O]
   have M:T.take k=L.flatMap Tt.fold++(Tt.crlf Tt.endL).take j:=by
    rw[w,hj,List.take_length_add_append]
   have V:=Tt.end_cut j (by omega) (by omega);unfold Tt.unf at hu;split at hu
   ·cases hu
   ·obtain⟨q,hq,_⟩:=Option.bind_eq_some_iff.1 hu;rw[M]at hq;have G:=Tt.unf_folds L hne (fun l hl=>(hcl l (List.mem_append_left _ hl)).1.clean) (fun l hl=>(hcl l (List.mem_append_left _ hl)).2);unfold Tt.unf at G;split at G
    ·cases G
    ·obtain⟨Y,hq2,_⟩:=Option.bind_eq_some_iff.1 G;obtain⟨c1,c2⟩:=Tt.chop_form hq2;rw[c2,Tt.chopGo_lines Y c1,V]at hq;cases hq
 ·exact h
theorem Js: ∀(f n:Nat) (l:List UInt8),74<=n->l.length<=f->74*(Tt.foldGo f n l).length<=77*l.length+148
 | 0,_,l,_,hf=>by rw[Tt.foldGo,xb];simp only[xf,xg];omega
 | f+1,n,l,hn,hf=>by
  rw[Tt.foldGo];split
  ·have h:=Js f 74 (l.drop n) (xe _) (by simp;omega);simp only[xb,xf,xg,xn,List.length_drop]at h ⊢;omega
  ·simp only[xb,xf,xg];omega
theorem MY(l:List UInt8):74*(Tt.fold l).length<=77*l.length+148:=Js _ _ l (by omega) (xe _)
theorem Jt: ∀ls:List (List UInt8),(∀x∈ls,x.length<=3000)->(ls.flatMap Tt.fold).length<=ls.length*3124
 | [],_=>xu _
 | a::r,h=>by
  rw[List.flatMap_cons,xb,xf,Nat.succ_mul];have w:=MY a;have A:=Jt r (fun x hx=>h x (List.mem_cons_of_mem _ hx));have D:=h a (List.mem_cons_self ..);omega
theorem Ih{n z:ByteArray}{v:Int}{es:List Ev}(hv:Aq n v es=0)(hz:Tt.code z.data.toList=true)(hl:es.length<=4):(BU n.data.toList v es z.data.toList).length<=262144:=by
 obtain⟨w, -⟩:=Dz hv hz;have A:=Jt (AI n.data.toList v es z.data.toList) (fun x hx=>by
  have:=w (str x) (xl hx);rwa [show(str x).size=x.length from size_mk x]at this)
 have D:(AI n.data.toList v es z.data.toList).length<=58:=by
  unfold AI CI;simp only[xb,xf,xg];have:=GF z.data.toList es;omega
 unfold BU;omega
def SV(n:ByteArray)(v:Int)(es:List Ev)(z:ByteArray):ByteArray:=str (BU n.data.toList v es z.data.toList)
def st(k:Int):D7:=⟨k,0,0,⟨#[]⟩,0,[]⟩
def DF(n:ByteArray)(v:Int)(es:List Ev):D7:=⟨1,0,0,n,v,es⟩
theorem Gv(z:ByteArray):(Al ⟨#[]⟩ z).2≠0:=by
 rw[Hy (by decide) (by rfl)];show(4:Int)≠0
 decide
theorem El{W:A3}{s:D7}{X:(A3 × List Bt) × Int}(D:BF W)(E:1<=s.kind)(F:s.kind<=7)(w:Cn W s=X)(A:X.2=0):Ds W s=X:=by
 unfold Ds;rw[if_neg (by rw[(CN W).2 D];decide),if_neg (by omega),w,if_neg (by rw[A];decide)]
theorem Ck{W:A3}{w:List Bt}{cs:List Int}{s:D7}{X:(A3 × List Bt) × Int}(h:Ds W s=X)(A:X.2=0):EK ((W,w),cs) s=((X.1.1,w++X.1.2),cs++[0]):=by
 unfold EK;show(if(Ds W s).2=0 then _ else _)=_
 rw[if_pos (by rw[h];exact A),h]
theorem UJ{W:A3}{s:D7}(h:s.kind=1):Cn W s=(((DP W s).1,[]),(DP W s).2):=by unfold Cn;rw[if_pos h]
theorem UI{W:A3}{s:D7}(h:s.kind=4):Cn W s=JF W [] s:=by unfold Cn;rw[if_neg (by omega),if_neg (by omega),if_neg (by omega),if_pos h]
theorem UQ{s:ByteArray}{v:Int}(hv:0<=v):BH s v≠0:=by
 have:=EI s.data.toList;unfold BH;omega
section
variable {n z:ByteArray} {v:Int} {es:List Ev}
theorem Gr(hv:Aq n v es=0)(hz:Tt.code z.data.toList=true)(hl:es.length<=4):Al (SV n v es z) z=((n,v,es),0):=Hv hv hz (Ih hv hz hl)
theorem V6(hv:Aq n v es=0)(hz:Tt.code z.data.toList=true)(hl:es.length<=4):SV n v es z≠⟨#[]⟩:=fun h=>by
 have w:=Gr hv hz hl;rw[h]at w;exact Gv z (by rw[w])
theorem Tu(hv:Aq n v es=0)(hz:Tt.code z.data.toList=true)(hl:es.length<=4):Bh n v es z=(BU n.data.toList v es z.data.toList,0):=by
 have h:=Ih hv hz hl;unfold Bh;rw[if_neg (by simp[hv]),if_neg (by simp[hz]),if_neg (by omega)]
theorem vw(hv:Aq n v es=0)(hz:Tt.code z.data.toList=true)(hl:es.length<=4)(way:List Hl)(r:Ti)(w:way.length<=64)(hm: ∀m∈way,CM 1 m=true)(hr:Cw r.v r.es=true):BF ⟨z,SV n v es z,way,[r]⟩:=
 ⟨hz,w,xe _,by show 1<=24;decide,.inr (by rw[show(⟨z,SV n v es z,way,[r]⟩:A3).cur=SV n v es z from rfl,show(⟨z,SV n v es z,way,[r]⟩:A3).zone=z from rfl,Gr hv hz hl]),hm,fun x hx=>by rw[xa.1 hx];exact hr⟩
theorem U3:Cw 0 []=true:=(BT 0 []).2 ⟨by omega,by omega,by simp,by unfold Bn;rfl⟩
theorem WW(hz:Tt.code z.data.toList=true):BF (Da z):=
 ⟨hz,by show 0<=64;decide,xe _,by show 1<=24;decide,.inl rfl,fun m hm=>(by cases hm),fun x hx=>by rw[xa.1 hx];exact U3⟩
theorem WY(hv:Aq n v es=0)(hl:es.length<=4):Cw v (DV [] es).1=true:=by
 obtain⟨v0,E, -,w⟩:=BC hv;have A:=Fj [] es es.length (xe _);have D:=RU (rv:=0) (es:=[]) v0 (by unfold Bn;rfl) w es.length;rw[Iz]at A D;exact(BT _ _).2 ⟨v0,E,by have:=A.1;simp only[xg]at this;omega,D⟩
theorem U8(hv:Aq n v es=0)(hz:Tt.code z.data.toList=true)(hl:es.length<=4)(way:List Hl)(rs:List Ti):J7 ⟨z,SV n v es z,way,rs⟩=BH (SV n v es z) v:=by
 unfold J7 DM;rw[if_neg (V6 hv hz hl)];show BH (SV n v es z) (Al (SV n v es z) z).1.2.1=_
 rw[Gr hv hz hl]
theorem VE(hv:Aq n v es=0)(hz:Tt.code z.data.toList=true)(hl:es.length<=4):Ds (Da z) (DF n v es)=((⟨z,SV n v es z,[],[⟨0,0,[]⟩]⟩,[]),0):=by
 refine El (WW hz) (by show(1:Int)<=1;decide) (by show(1:Int)<=7;decide) ?_ rfl;have h:DP (Da z) (DF n v es)=(⟨z,SV n v es z,[],[⟨0,0,[]⟩]⟩,0):=by
  unfold DP;rw[show Bh (DF n v es).fn (DF n v es).fv (DF n v es).es (Da z).zone=_ from Tu hv hz hl,if_neg (fun h=>h rfl),if_pos (show(Da z).cur=⟨#[]⟩from rfl)];rfl
 rw[UJ rfl,h]
theorem SG(hv:Aq n v es=0)(hz:Tt.code z.data.toList=true)(hl:es.length<=4)(r:Ti)(hr:Cw r.v r.es=true):Ds ⟨z,SV n v es z,[],[r]⟩ (st 2)=((⟨z,SV n v es z,[⟨0,false,r.tag,⟨#[]⟩⟩],[r]⟩,[]),0):=by
 refine El (vw hv hz hl [] r (by simp) (by simp) hr) (by show(1:Int)<=2;decide) (by show(2:Int)<=7;decide) ?_ rfl;rfl
theorem Nf(hv:Aq n v es=0)(hz:Tt.code z.data.toList=true)(hl:es.length<=4)(r:Ti)(hr:Cw r.v r.es=true)(t:Int):Ds ⟨z,SV n v es z,[⟨0,false,t,⟨#[]⟩⟩],[r]⟩ (st 3)=((⟨z,SV n v es z,[⟨0,true,BH (SV n v es z) v,if t=BH (SV n v es z) v then⟨#[]⟩else SV n v es z⟩],[r]⟩,[]),0):=by
 refine El (vw hv hz hl _ r (by simp) (by simp[CM]) hr) (by show(1:Int)<=3;decide) (by show(3:Int)<=7;decide) ?_ rfl;show(((Cb _ _).1,[]),(Cb _ _).2)=_
 have h:Cb ⟨z,SV n v es z,[⟨0,false,t,⟨#[]⟩⟩],[r]⟩ (st 3)=(⟨z,SV n v es z,[Cc ⟨z,SV n v es z,[⟨0,false,t,⟨#[]⟩⟩],[r]⟩ ⟨0,false,t,⟨#[]⟩⟩],[r]⟩,0):=rfl;rw[h];unfold Cc;rw[U8 hv hz hl]
theorem VF(hv:Aq n v es=0)(w:1<=v)(hz:Tt.code z.data.toList=true)(hl:es.length<=4):Ds ⟨z,SV n v es z,[⟨0,true,BH (SV n v es z) v,SV n v es z⟩],[⟨0,0,[]⟩]⟩ (st 4)=((⟨z,SV n v es z,[],[⟨v,BH (SV n v es z) v,(DV [] es).1⟩]⟩,(DV [] es).2.map (Bt.mk 0)),0):=by
 refine El (vw hv hz hl _ _ (by simp) (by simp[CM]) U3) (by show(1:Int)<=4;decide) (by show(4:Int)<=7;decide) ?_ rfl;rw[UI rfl];have h:JF ⟨z,SV n v es z,[⟨0,true,BH (SV n v es z) v,SV n v es z⟩],[⟨0,0,[]⟩]⟩ [] (st 4)=(((Cz ⟨z,SV n v es z,[],[⟨0,0,[]⟩]⟩ ⟨0,true,BH (SV n v es z) v,SV n v es z⟩).1,[]++(Cz ⟨z,SV n v es z,[],[⟨0,0,[]⟩]⟩ ⟨0,true,BH (SV n v es z) v,SV n v es z⟩).2),0):=rfl;rw[h];have hm:=M0 (t:=0) hv w hl;have hd:Cz ⟨z,SV n v es z,[],[⟨0,0,[]⟩]⟩ ⟨0,true,BH (SV n v es z) v,SV n v es z⟩=(⟨z,SV n v es z,[],[⟨v,BH (SV n v es z) v,(DV [] es).1⟩]⟩,(DV [] es).2.map (Bt.mk 0)):=by
  unfold Cz;dsimp only
  rw[Gr hv hz hl];dsimp only
  rw[if_neg (by simp)];show(if _ then _ else _)=_
  rw[hm];dsimp only
  rw[if_neg (by decide),if_pos (by omega)];rfl
 rw[hd];rfl
theorem KJ(hv:Aq n v es=0)(E:1<=v)(hz:Tt.code z.data.toList=true)(hl:es.length<=4):
  A6 (Da z) [DF n v es]=((⟨z,SV n v es z,[],[⟨0,0,[]⟩]⟩,[]),[0])/\
  A6 (Da z) [DF n v es,st 2]=((⟨z,SV n v es z,[⟨0,false,0,⟨#[]⟩⟩],[⟨0,0,[]⟩]⟩,[]),[0,0])/\
  A6 (Da z) [DF n v es,st 2,st 3]=((⟨z,SV n v es z,[⟨0,true,BH (SV n v es z) v,SV n v es z⟩],[⟨0,0,[]⟩]⟩,[]),[0,0,0])/\
  A6 (Da z) [DF n v es,st 2,st 3,st 4]=((⟨z,SV n v es z,[],[⟨v,BH (SV n v es z) v,(DV [] es).1⟩]⟩,(DV [] es).2.map (Bt.mk 0)),[0,0,0,0])/\
  A6 (Da z) [DF n v es,st 2,st 3,st 4,st 2]=((⟨z,SV n v es z,[⟨0,false,BH (SV n v es z) v,⟨#[]⟩⟩],[⟨v,BH (SV n v es z) v,(DV [] es).1⟩]⟩,(DV [] es).2.map (Bt.mk 0)),[0,0,0,0,0])/\
  A6 (Da z) [DF n v es,st 2,st 3,st 4,st 2,st 3]=((⟨z,SV n v es z,[⟨0,true,BH (SV n v es z) v,⟨#[]⟩⟩],[⟨v,BH (SV n v es z) v,(DV [] es).1⟩]⟩,(DV [] es).2.map (Bt.mk 0)),[0,0,0,0,0,0]):=by
 have hr:=WY hv hl;have e1:A6 (Da z) [DF n v es]=((⟨z,SV n v es z,[],[⟨0,0,[]⟩]⟩,[]),[0]):=by
  rw[show[DF n v es]=[]++[DF n v es]from rfl,Bw,Gt,Ck (VE hv hz hl) rfl];rfl
 have e2:A6 (Da z) [DF n v es,st 2]=((⟨z,SV n v es z,[⟨0,false,0,⟨#[]⟩⟩],[⟨0,0,[]⟩]⟩,[]),[0,0]):=by
  rw[show[DF n v es,st 2]=[DF n v es]++[st 2]from rfl,Bw,e1,Ck (SG hv hz hl _ U3) rfl];rfl
 have A:A6 (Da z) [DF n v es,st 2,st 3]=((⟨z,SV n v es z,[⟨0,true,BH (SV n v es z) v,SV n v es z⟩],[⟨0,0,[]⟩]⟩,[]),[0,0,0]):=by
  rw[show[DF n v es,st 2,st 3]=[DF n v es,st 2]++[st 3]from rfl,Bw,e2,Ck (Nf hv hz hl _ U3 _) rfl,if_neg (fun h=>UQ (by omega) h.symm)];rfl
 have D:A6 (Da z) [DF n v es,st 2,st 3,st 4]=((⟨z,SV n v es z,[],[⟨v,BH (SV n v es z) v,(DV [] es).1⟩]⟩,(DV [] es).2.map (Bt.mk 0)),[0,0,0,0]):=by
  rw[show[DF n v es,st 2,st 3,st 4]=[DF n v es,st 2,st 3]++[st 4]from rfl,Bw,A,Ck (VF hv E hz hl) rfl];rfl
 have w:A6 (Da z) [DF n v es,st 2,st 3,st 4,st 2]=((⟨z,SV n v es z,[⟨0,false,BH (SV n v es z) v,⟨#[]⟩⟩],[⟨v,BH (SV n v es z) v,(DV [] es).1⟩]⟩,(DV [] es).2.map (Bt.mk 0)),[0,0,0,0,0]):=by
  rw[show[DF n v es,st 2,st 3,st 4,st 2]=[DF n v es,st 2,st 3,st 4]++[st 2]from rfl,Bw,D,Ck (SG hv hz hl _ hr) rfl,xp];rfl
 refine⟨e1,e2,A,D,w,?_⟩;rw[show[DF n v es,st 2,st 3,st 4,st 2,st 3]=[DF n v es,st 2,st 3,st 4,st 2]++[st 3]from rfl,Bw,w,Ck (Nf hv hz hl _ hr _) rfl,if_pos rfl,xp];rfl
end
theorem Pb:Aq ⟨#[120]⟩ 1 [e0]=0:=by kernel_rfl
theorem WB:DV [] [e0]=([e0],[⟨1,e0.uid,1⟩]):=by kernel_rfl
theorem WQ:ND e0:=⟨by decide,by decide,by decide,by decide,by decide⟩
def sx(k:Int):Fu:=⟨st k,none,0⟩
def sp(n:ByteArray)(v:Int)(es:List Ev)(a:Option Addr)(c:Nat):Fu:=⟨DF n v es,a,c⟩
theorem JJ:Tt.code (⟨#[122]⟩:ByteArray).data.toList=true:=by decide
theorem Rd.blk{α:Type}{f:α->List Value}{g:Nat}{ty:TypeId}{w:World}{xs:List α}(h:Af g (gC f xs).toArray ty w):Rd f w.heap.size w (some ⟨g,0,none⟩) xs:=
 .inr ⟨g,0,rfl,h.lt,fun j u hj=>by rw[xr,h.cell];simpa using hj⟩
theorem Um{W:A3}{s:D7}(h:(Ds W s).2≠0):(Ds W s).1.2=[]:=by
 unfold Ds at h ⊢;split
 ·rfl
 ·split
  ·rfl
  ·split
   ·rfl
   ·rename_i A D w
    rw[if_neg A,if_neg D,if_neg w]at h;exact absurd h w
theorem RR{W:A3}{zs:List Fu}{k:Nat}(w: ∀i,i<=zs.length->(A6 W ((zs.take i).map Fu.s)).1.2.length<=k): ∀i x,zs[i]?=some x->(Ds (A6 W ((zs.take i).map Fu.s)).1.1 x.s).1.2.length<=k:=fun i x hx=>by
 obtain⟨A,D⟩:=List.getElem?_eq_some_iff.1 hx;have h:=w (i+1) A;rw[List.take_succ_eq_append_getElem A,D,List.map_append,List.map_cons,List.map_nil,Bw]at h;unfold EK at h;split at h
 ·simp only[xb]at h;omega
 ·rename_i hb
  rw[Um hb];exact xu _
section
variable {n z:ByteArray} {v:Int} {es:List Ev}
def kl(n:ByteArray)(v:Int)(es:List Ev):List D7:=[DF n v es,st 2,st 3,st 4,st 2,st 3]
theorem Jf(hv:Aq n v es=0)(D:1<=v)(hz:Tt.code z.data.toList=true)(hl:es.length<=4)(i:Nat)(hi:i<=6):BF (A6 (Da z) ((kl n v es).take i)).1.1/\(A6 (Da z) ((kl n v es).take i)).1.2.length<=1000000:=by
 obtain⟨e1,e2,E,G,A,F⟩:=KJ hv D hz hl;have hr:=WY hv hl;have hm:=(Fj [] es es.length (xe _)).2;rw[Iz]at hm;have hn:((DV [] es).2.map (Bt.mk 0)).length<=1000000:=by rw[xj];omega
 have w:i=0∨i=1∨i=2∨i=3∨i=4∨i=5∨i=6:=by omega
 rcases w with rfl | rfl | rfl | rfl | rfl | rfl | rfl
 ·exact⟨WW hz,by show 0<=1000000;decide⟩
 ·rw[show(kl n v es).take 1=[DF n v es]from rfl,e1];exact⟨vw hv hz hl _ _ (by simp) (by simp) U3,by simp⟩
 ·rw[show(kl n v es).take 2=[DF n v es,st 2]from rfl,e2];exact⟨vw hv hz hl _ _ (by simp) (by simp[CM]) U3,by simp⟩
 ·rw[show(kl n v es).take 3=[DF n v es,st 2,st 3]from rfl,E];exact⟨vw hv hz hl _ _ (by simp) (by simp[CM]) U3,by simp⟩
 ·rw[show(kl n v es).take 4=[DF n v es,st 2,st 3,st 4]from rfl,G];exact⟨vw hv hz hl _ _ (by simp) (by simp) hr,hn⟩
 ·rw[show(kl n v es).take 5=[DF n v es,st 2,st 3,st 4,st 2]from rfl,A];exact⟨vw hv hz hl _ _ (by simp) (by simp[CM]) hr,hn⟩
 ·rw[show(kl n v es).take 6=[DF n v es,st 2,st 3,st 4,st 2,st 3]from rfl,F];exact⟨vw hv hz hl _ _ (by simp) (by simp[CM]) hr,hn⟩
end
theorem Uz(w:World)(hG:Eu w):Calls Tryz.prog 5 #[] w fun e w'=>e=jh (je true)/\Below w.heap.size w w':=by
 have HG:=Lh hG;have aS:=Lh (Wd ⟨#[122]⟩ JJ w);clear hG;go_enter Tryz.func5,Tryz.ntmps5;go_wp2_with fail;refine aS.o.mono ?_;rintro e H ⟨vr,rfl,aK,hb1⟩;obtain⟨a6,bc,ac,ab, -, -,e1,rfl, -,ai, -, -⟩:=aK.wat;simp only[Value.slice.injEq]at e1;obtain⟨rfl, -,rfl⟩:=e1;obtain⟨P,hP⟩: ∃P,P=H.heap.size:=⟨_,rfl⟩
 obtain⟨A,hA⟩: ∃A,A=H.heap.size+1:=⟨_,rfl⟩
 obtain⟨D,F⟩: ∃D,D=((H.alloc (ji #[jc ⟨#[122]⟩,jc ⟨#[]⟩,jd none 0 0,jd ac 1 ab] 32)).alloc (ji #[jc ⟨#[99,64,49]⟩,ja jb 1,je false,ja jb 2,ja jb 2,ja jb 1,ja jb 1,jd none 0 0,jd none 0 0,ja jb 0,ja jb 45,jc ⟨#[99]⟩,jc ⟨#[]⟩] 61)).alloc (ji #[jc ⟨#[120]⟩,ja jb 1,jd (some ⟨H.heap.size+1,0,none⟩) 1 1] 41):=⟨_,rfl⟩
 obtain⟨X,hX⟩: ∃X,X=D.alloc (ji (gC JW [sp ⟨#[120]⟩ 1 [e0] (some ⟨A,0,none⟩) 1,sx 2,sx 3,sx 4]).toArray 43):=⟨_,rfl⟩
 have aM:D.heap.size=H.heap.size+3:=by rw[F];simp
 have aq:Below H.heap.size H D:=by rw[F];exact((Aa H _).alloc (by simp) _).alloc (by simp;omega) _
 have Y:Below H.heap.size H X:=by rw[hX];exact aq.alloc aq.size _
 have M:=Lh (hb1.trans (Y.mono hb1.size));have T:=Lh (show Af P #[jc ⟨#[122]⟩,jc ⟨#[]⟩,jd none 0 0,jd ac 1 ab] 32 D from by rw[F,hP];exact((Af.new H _ _).alloc _).alloc _);have ak:=Lh (show Af A (Ae e0 (jd none 0 0) (jd none 0 0)) 61 X from by rw[hX,F,hA];exact((Af.new' (g:=H.heap.size+1) _ _ _ (by simp)).alloc _).alloc _);have aa:=Lh (show Af (A+1) #[jc ⟨#[120]⟩,ja jb 1,jd (some ⟨A,0,none⟩) 1 1] 41 D from by rw[F,hA];exact Af.new' (g:=H.heap.size+1+1) _ _ _ (by simp));have ax:=Lh (Rd.blk (f:=JW) (xs:=[sp ⟨#[120]⟩ 1 [e0] (some ⟨A,0,none⟩) 1,sx 2,sx 3,sx 4]) (show Af D.heap.size _ 43 X from by rw[hX];exact Af.new D _ _));have aJ:=Lh (show Fv X.heap.size X (some ⟨A,0,none⟩) [(e0,jd none 0 0,jd none 0 0)]from⟨.inr ⟨A,0,rfl,ak.o.lt,fun j u hj=>by
  rw[BA]at hj;rw[xr,ak.o.cell];simpa using hj⟩,fun t ht=>by
  rw[xa.1 ht];exact⟨WQ,⟨none,0,rfl,fun j x h=>by simp[e0]at h⟩,⟨none,0,rfl,fun j x h=>by simp[e0]at h⟩⟩⟩)
 have aF:=Lh (UF (Da ⟨#[122]⟩) [sp ⟨#[120]⟩ 1 [e0] (some ⟨A,0,none⟩) 1,sx 2,sx 3,sx 4] none ac (some ⟨D.heap.size,0,none⟩) 0 ab 4 _ X ((ai.below Y).mono Y.size) (HG.o.made M.o) ax.o (fun x hx=>by
   simp only[xd,xc,or_false]at hx;rcases hx with rfl | rfl | rfl | rfl
   ·exact aJ.o.evs
   ·exact .inl rfl
   ·exact .inl rfl
   ·exact .inl rfl) (by show 4<=1000;decide)
  (fun i hi=>by
   have ay:i<=4:=hi;have h:=(Jf (z:=⟨#[122]⟩) Pb (by decide) JJ (by decide) i (by omega)).1;have e:([sp ⟨#[120]⟩ 1 [e0] (some ⟨A,0,none⟩) 1,sx 2,sx 3,sx 4].take i).map Fu.s=(kl ⟨#[120]⟩ 1 [e0]).take i:=by
    have O:i=0∨i=1∨i=2∨i=3∨i=4:=by omega
    rcases O with rfl | rfl | rfl | rfl | rfl<;>rfl
   rw[e];exact h)
  (fun i hi=>by
   have ay:i<=4:=hi;have h:=(Jf (z:=⟨#[122]⟩) Pb (by decide) JJ (by decide) i (by omega)).2;have e:([sp ⟨#[120]⟩ 1 [e0] (some ⟨A,0,none⟩) 1,sx 2,sx 3,sx 4].take i).map Fu.s=(kl ⟨#[120]⟩ 1 [e0]).take i:=by
    have O:i=0∨i=1∨i=2∨i=3∨i=4:=by omega
    rcases O with rfl | rfl | rfl | rfl | rfl<;>rfl
   rw[e];exact h)
  (RR (fun i hi=>by
   have ay:i<=4:=hi;have h:=(Jf (z:=⟨#[122]⟩) Pb (by decide) JJ (by decide) i (by omega)).2;have e:([sp ⟨#[120]⟩ 1 [e0] (some ⟨A,0,none⟩) 1,sx 2,sx 3,sx 4].take i).map Fu.s=(kl ⟨#[120]⟩ 1 [e0]).take i:=by
    have O:i=0∨i=1∨i=2∨i=3∨i=4:=by omega
    rcases O with rfl | rfl | rfl | rfl | rfl<;>rfl
   rw[e];exact h))
  (fun x hx=>by
   simp only[xd,xc,or_false]at hx;rcases hx with rfl | rfl | rfl | rfl<;>simp[sp,sx,st,DF])
  (fun x hx=>by
   simp only[xd,xc,or_false]at hx;rcases hx with rfl | rfl | rfl | rfl<;>(simp[sp,sx,st,DF])))
 rw[show([sp ⟨#[120]⟩ 1 [e0] (some ⟨A,0,none⟩) 1,sx 2,sx 3,sx 4].map Fu.s)=[DF ⟨#[120]⟩ 1 [e0],st 2,st 3,st 4]from rfl,(KJ (z:=⟨#[122]⟩) Pb (by decide) JJ (by decide)).2.2.2.1,WB]at aF;have p0:D.cell? ⟨P,0,none⟩=some (jc ⟨#[122]⟩):=T.o.cell 0;have p1:D.cell? ⟨P,1,none⟩=some (jc ⟨#[]⟩):=T.o.cell 1;have p2:D.cell? ⟨P,2,none⟩=some (jd none 0 0):=T.o.cell 2;have p3:D.cell? ⟨P,3,none⟩=some (jd ac 1 ab):=T.o.cell 3;have f0:D.cell? ⟨A+1,0,none⟩=some (jc ⟨#[120]⟩):=aa.o.cell 0;have f1:D.cell? ⟨A+1,1,none⟩=some (ja jb 1):=aa.o.cell 1;have f2:D.cell? ⟨A+1,2,none⟩=some (jd (some ⟨A,0,none⟩) 1 1):=aa.o.cell 2;unfold Fw;rw[show(Da ⟨#[122]⟩).zone=⟨#[122]⟩from rfl,show(Da ⟨#[122]⟩).cur=⟨#[]⟩from rfl,show(Da ⟨#[122]⟩).rds.length=1 from rfl];go_upto_region 3 with(fail);rw[<-F];rw[<-hA,<-hP];clear F aq Y aM hP hA ai;go_wp2_with fail;show Calls Tryz.prog 11 _ (D.alloc (ji (gC JW [sp ⟨#[120]⟩ 1 [e0] (some ⟨A,0,none⟩) 1,sx 2,sx 3,sx 4]).toArray 43)) _
 rw[<-hX];refine aF.o.mono ?_;rintro e w5 ⟨be,aX,aY,az,ge,a7,rfl,ar,al,hle,hcs,U⟩;obtain⟨aj,av,aZ,au,ba,a8,rfl,rfl,rfl,ag,ah, -⟩:=ar.wat;have aL: ∃x,az=[x]/\x.ts.length=1:=by
  have h:=ar.rmap;match az,h with
  | [x],h=>exact⟨x,rfl,by simpa[BZ.r]using congrArg (fun l=>(l.map (fun r=>r.es.length))) h⟩
 obtain⟨x,rfl,aw⟩:=aL;obtain⟨gr,og,aQ,am,aE⟩:=Rd.get Cs ag.rds.row (show[x][0]?=some x from rfl);obtain⟨gn,on,aU,ap,hcn⟩:=Rd.get DQ ah (show([Bt.mk 0 ⟨1,e0.uid,1⟩]:List Bt)[0]?=some (Bt.mk 0 ⟨1,e0.uid,1⟩)from rfl);subst aQ aU;obtain⟨Q,hQ⟩: ∃Q,Q=w5.heap.size:=⟨_,rfl⟩
 obtain⟨Z,hZ⟩: ∃Z,Z=w5.alloc (ji #[jc ⟨#[122]⟩,jc (SV ⟨#[120]⟩ 1 [e0] ⟨#[122]⟩),jd aj 0 av,jd (some ⟨gr,og,none⟩) 1 au] 32):=⟨_,rfl⟩
 have G:Below w5.heap.size w5 Z:=by rw[hZ];exact Aa w5 _
 have aH:=Lh (show Af Q #[jc ⟨#[122]⟩,jc (SV ⟨#[120]⟩ 1 [e0] ⟨#[122]⟩),jd aj 0 av,jd (some ⟨gr,og,none⟩) 1 au] 32 Z from by rw[hZ,hQ];exact Af.new w5 _ _);have aA:=Lh (al.below G al.lt);have aW: ∀w:World,(Instr.makeSlice 48 (ja jb 4) (ja jb 4)).run Tryz.prog w=.ok (jd (some ⟨w.heap.size,0,none⟩) 4 4) (w.alloc (ji #[ja jb 0,ja jb 0,ja jb 0,ja jb 0] 33)):=fun _=>by kernel_rfl
 obtain⟨V,hV⟩: ∃V,V=Z.alloc (ji #[ja jb 0,ja jb 0,ja jb 0,ja jb 0] 33):=⟨_,rfl⟩
 have R:Below Z.heap.size Z V:=by rw[hV];exact Aa Z _
 have aB:=Lh (M.o.trans ((U.mono M.o.size).trans ((G.mono (xk M.o.size U.size)).trans (R.mono (xk M.o.size (xk U.size G.size))))));have aG:=Lh (aH.o.below R aH.o.lt);have aI:=Lh (aA.o.below R aA.o.lt);have aC:=Lh (Kw [0,0,0,0] [0,0,0,0] ge Z.heap.size 4 4 V (fun j c h=>(aI.o.cell j).trans (hcs j c h)) (fun j c h=>by
  rw[(show Af Z.heap.size #[ja jb 0,ja jb 0,ja jb 0,ja jb 0] 33 V from by rw[hV];exact Af.new Z _ _).cell];match j,h with
  | 0,h=>cases h;rfl
  | 1,h=>cases h;rfl
  | 2,h=>cases h;rfl
  | 3,h=>cases h;rfl
  | j+4,h=>simp at h) ⟨aI.o.lt,by rw[hV];simp⟩ rfl (by decide) (fun c h=>by simp at h;omega))
 have E:Below w5.heap.size w5 V:=G.trans (R.mono G.size);have n1:V.cell? ⟨gn,on+1,none⟩=some (ja jb 1):=(E.cell (p:=⟨gn,on+1,none⟩) ap).trans (by have h:=hcn 1 _ (by omega) rfl;rwa [xq,xt]at h);have r2:V.cell? ⟨gr,og+2,none⟩=some (jd x.ao 1 x.c):=(E.cell (p:=⟨gr,og+2,none⟩) am).trans (by have h:=aE 2 _ (by omega) rfl;rw[xq,xt]at h;rw[h,aw]);have af:gn<V.heap.size:=xm ap E.size;have ae:gr<V.heap.size:=xm am E.size;have aP:=Lh n1;have aN:=Lh r2;have aV:=Lh af;have aO:=Lh ae;clear n1 r2 af ae ap am hcn aE ag ah ar al hcs U E R G aw hle p0 p1 p2 p3 f0 f1 f2 T aa hX ak aJ ax;rw[show decide (([0,0,0,0]:List Int)=[0,0,0,0])=true from rfl]at aC;unfold Fw;go_upto_region 4 with(fail);rw[<-hZ,<-hQ];have aT:V.heap.size=Z.heap.size+1:=by rw[hV];simp
 clear hZ hQ;go_wp2_with fail;rw[<-hV];clear hV aT;refine aC.o.mono ?_;rintro e w6 ⟨rfl,J⟩;have aD:=Lh (aG.o.below J aG.o.lt);have n1:w6.cell? ⟨gn,on+1,none⟩=some (ja jb 1):=(J.cell (p:=⟨gn,on+1,none⟩) aV.o).trans aP.o;have r2:w6.cell? ⟨gr,og+2,none⟩=some (jd x.ao 1 x.c):=(J.cell (p:=⟨gr,og+2,none⟩) aO.o).trans aN.o;have q2:w6.cell? ⟨Q,2,none⟩=some (jd aj 0 av):=aD.o.cell 2;have q3:w6.cell? ⟨Q,3,none⟩=some (jd (some ⟨gr,og,none⟩) 1 au):=aD.o.cell 3;have aR:=Lh (aB.o.trans (J.mono aB.o.size));clear J;go_wp2_with fail;go_ret;exact⟨rfl,aR.o⟩
section
variable {α:Type} {N sz:Nat} {ty:TypeId} {Ψ:α->World->Prop} {Φ:Nat->World->Prop} {x y:World}
def Wg(N:Nat)(ty:TypeId)(sz:Nat)(Ψ:α->World->Prop)(Φ:Nat->World->Prop)(x y:World):Prop:=Below N x y/\(∀p,Ψ p x->Ψ p y)/\(∀g cs,Af g cs ty x->cs.size=sz-> ∃cs',Af g cs' ty y/\cs'.size=sz)/\ ∀g,Φ g x->Φ g y
theorem Wg.of(w: ∀p x y,Ψ p x->Below x.heap.size x y->Ψ p y)(A: ∀g x y,Φ g x->Below x.heap.size x y->Φ g y)(D:N<=x.heap.size)(h:Below x.heap.size x y):Wg N ty sz Ψ Φ x y:=⟨h.mono D,fun _ hp=>w _ _ _ hp h,fun _ cs hb hc=>⟨cs,hb.below h hb.lt,hc⟩,fun _ hg=>A _ _ _ hg h⟩
theorem GR.f3(E: ∀p x y,Ψ p x->Below x.heap.size x y->Ψ p y)(F: ∀g x y,Φ g x->Below x.heap.size x y->Φ g y):GR (Wg N ty sz Ψ Φ):=
 ⟨fun w=>⟨Ac (Below.refl _ w),fun _ hp=>E _ _ _ hp (Ac (Below.refl _ w)),fun _ cs hb hc=>⟨cs,hb.draw,hc⟩,fun _ hg=>F _ _ _ hg (Ac (Below.refl _ w))⟩,fun w=>⟨Below.refl _ w,fun _ h=>h,fun _ cs hb hc=>⟨cs,hb,hc⟩,fun _ h=>h⟩,fun h k=>⟨h.1.trans k.1,fun p hp=>k.2.1 p (h.2.1 p hp),fun g cs hb hc=>by obtain⟨c1,A,D⟩:=h.2.2.1 g cs hb hc;exact k.2.2.1 g c1 A D,fun g he=>k.2.2.2 g (h.2.2.2 g he)⟩⟩
end
def VY(N:Nat)(k:Int)(es:List Ev)(S:Nat)(x:World):Prop:=∃(p:Option Addr) (q:Nat) (ts:List Hk),Af S #[jc ⟨#[120]⟩,ja jb k,jd p ts.length q] 41 x/\Av N x (jd p ts.length q) ts/\ts.map (·.1)=es
def VX(N:Nat)(k:Int)(es:List Ev)(u:Value)(x:World):Prop:=∃(p:Option Addr) (q:Nat) (ts:List Hk),u=.agg #[jc ⟨#[120]⟩,ja jb k,jd p ts.length q]/\Av N x (jd p ts.length q) ts/\ts.map (·.1)=es
theorem VY.made{N:Nat}{k:Int}{es:List Ev}{S:Nat}{x y:World}(h:VY N k es S x)(hb:Below x.heap.size x y):VY N k es S y:=by
 obtain⟨p,q,ts,w,A,D⟩:=h;exact⟨p,q,ts,w.below hb w.lt,A.made hb,D⟩
theorem VX.made{N:Nat}{k:Int}{es:List Ev}{u:Value}{x y:World}(h:VX N k es u x)(hb:Below x.heap.size x y):VX N k es u y:=by
 obtain⟨p,q,ts,A,w,D⟩:=h;exact⟨p,q,ts,A,w.made hb,D⟩
def UL(N:Nat)(k:Int)(es:List Ev)(x y:World):Prop:=Wg N 41 3 (VX N k es) (VY N k es) x y
theorem UL.gr(N:Nat)(k:Int)(es:List Ev):GR (UL N k es):=GR.f3 (fun _ _ _ h hb=>h.made hb) (fun _ _ _ h hb=>h.made hb)
theorem UL.of{N:Nat}{k:Int}{es:List Ev}{x y:World}(w:N<=x.heap.size)(h:Below x.heap.size x y):UL N k es x y:=Wg.of (fun _ _ _ h hb=>h.made hb) (fun _ _ _ h hb=>h.made hb) w h
theorem Wh{N S:Nat}{k:Int}{es:List Ev}{p:Option Addr}{q:Nat}{ts:List Hk}{Y X V:Value}{x:World}(M:Af S #[Y,X,V] 41 x)(F:N<=S)(hr:Av N x (jd p ts.length q) ts)(he:ts.map (·.1)=es):VY N k es S (((x.setCell ⟨S,0,none⟩ (jc ⟨#[120]⟩)).setCell ⟨S,1,none⟩ (ja jb k)).setCell ⟨S,2,none⟩ (jd p ts.length q))/\UL N k es x (((x.setCell ⟨S,0,none⟩ (jc ⟨#[120]⟩)).setCell ⟨S,1,none⟩ (ja jb k)).setCell ⟨S,2,none⟩ (jd p ts.length q)):=by
 have O:=M.set 0 (jc ⟨#[120]⟩);have J:=O.set 1 (ja jb k);have T:=J.set 2 (jd p ts.length q);have D: ∀{v:Value} {us:List Hk},Av N x v us->Av N (((x.setCell ⟨S,0,none⟩ (jc ⟨#[120]⟩)).setCell ⟨S,1,none⟩ (ja jb k)).setCell ⟨S,2,none⟩ (jd p ts.length q)) v us:=fun h=>((h.set M (by decide) (by decide) 0 _).set O (by decide) (by decide) 1 _).set J (by decide) (by decide) 2 _
 have U: ∀{g':Nat} {cs:Array Value},g'≠S->Af g' cs 41 x->Af g' cs 41 (((x.setCell ⟨S,0,none⟩ (jc ⟨#[120]⟩)).setCell ⟨S,1,none⟩ (ja jb k)).setCell ⟨S,2,none⟩ (jd p ts.length q)):=fun hne h=>((h.set_other hne 0 _).set_other hne 1 _).set_other hne 2 _
 have R:VY N k es S (((x.setCell ⟨S,0,none⟩ (jc ⟨#[120]⟩)).setCell ⟨S,1,none⟩ (ja jb k)).setCell ⟨S,2,none⟩ (jd p ts.length q)):=⟨p,q,ts,T,D hr,he⟩
 refine⟨R,(((Below.refl N x).setCell F _).setCell F _).setCell F _,?_,?_,?_⟩
 ·rintro u ⟨A,H,us,G,w,E⟩;exact⟨A,H,us,G,D w,E⟩
 ·intro g' cs h hc;by_cases hne:g'=S
  ·subst hne;exact⟨_,T,rfl⟩
  ·exact⟨cs,U hne h,hc⟩
 ·rintro g' ⟨A,H,us,G,w,E⟩;by_cases hne:g'=S
  ·subst hne;exact R
  ·exact⟨A,H,us,U hne G,D w,E⟩
theorem Vi:(Tryz.prog.info? 41).map (fun i=>(i.zero,i.size,i.bytes))=some (some (.agg #[jc ⟨#[]⟩,ja jb 0,jd none 0 0]),3,48):=by kernel_rfl
theorem WS{cs:Array Value}(h:cs.size=3): ∃a b c,cs=#[a,b,c]:=by
 rcases cs with⟨l⟩
 match l,h with
 | [_,_,_],_=>exact⟨_,_,_,rfl⟩
theorem VB(b:Nat)(w:World)(hd:BJ b w):Calls Tryz.prog 7 #[jf (some ⟨b,0,none⟩)] w fun e w'=> ∃(g:Tt.Grd) (t:Tt.Trm) (ls:List (List Az)) (u:Value) (fs:List Fd),e=jh u/\Bk g t ls/\fs.length=ls.length+1/\Dr w.heap.size w' u ⟨#[120]⟩ g t ls fs/\Ai b w w':=by
 have hb:=hd.lt;have HD:=Lh hd;go_enter Tryz.func7,Tryz.ntmps7;go_wp2_with fail;refine(T5 b w hd).mono ?_;rintro e w1 ⟨g,rfl,aj,g1,g2,g3,g4,s1⟩;have aP:=Lh aj;clear aj hd;unfold Cj;go_wp2_with fail;refine(Tr b w1 s1.dice).mono ?_;rintro e w2 ⟨t,v,rfl,hv,aQ,t1,t2,t3,t4,ah,s2⟩;obtain⟨Y,ct,rfl⟩:=Ah.slice hv;have aM:=Lh ah;have HV:=Lh hv;have aF:=Lh (show b<w1.heap.size from s1.dice.lt);have S2:=Lh (s1.trans s2);clear ah hv s1 s2;unfold Cu;obtain⟨G,hG⟩: ∃x,x=w2.heap.size:=⟨_,rfl⟩
 obtain⟨T,hT⟩: ∃x,x=w2.heap.size+1:=⟨_,rfl⟩
 obtain⟨w4,D⟩: ∃X,X=(w2.alloc (ji #[ja jb g.days,ja jb g.slots,ja jb g.begin_,ja jb g.mins] 65)).alloc (ji #[ja jb t.first,ja jb t.weeks,jd Y t.hols.length ct] 68):=⟨_,rfl⟩
 have S4:=Lh (show Ai b w w4 from by rw[D];exact(S2.o.alloc _).alloc _);have hk:Below w2.heap.size w2 w4:=by rw[D];exact(Aa w2 _).trans ((Aa _ _).mono (by simp))
 have HG:=Lh (show Af G #[ja jb g.days,ja jb g.slots,ja jb g.begin_,ja jb g.mins] 65 w4 from by rw[D,hG];exact(Af.new w2 _ _).alloc _);have HT:=Lh (show Af T #[ja jb t.first,ja jb t.weeks,jd Y t.hols.length ct] 68 w4 from by rw[D,hT];exact Af.new' _ _ _ (by simp));have HV:=Lh (show Ah w1.heap.size w4 (jd Y t.hols.length ct) t.hols from AD HV.o hk);have au:G≠b:=by have:=S2.o.dice.lt;omega
 have aq:T≠b:=by have:=S2.o.dice.lt;omega
 go_upto_region 2 with(fail);rw[<-D,<-hT,<-hG];clear D hT hG hk;have y:=HG.o.c4;have y':=HT.o.c3;have av:=Lh (PR b g t Y ct w4 S4.o.dice g1 g2 g3 g4 t3 t4);unfold Cj Cu at av;go_wp2_with fail;clear y y';refine av.o.mono ?_;rintro e O ⟨u,l2,rfl,ho,aw,hle,hs⟩;obtain⟨pu,cu,hu⟩:=AM ho.row;subst hu;have S5:=Lh (S4.o.trans hs);have HG:=Lh (HG.o.but hs.but au);have HT:=Lh (HT.o.but hs.but aq);have HV:=Lh (show Ah w1.heap.size O (jd Y t.hols.length ct) t.hols from Am HV.o aF.o hs.but);have HO:=Lh ho;obtain⟨ls,J⟩: ∃ls,ls=l2.map (·.2):=⟨_,rfl⟩
 have aN:=Lh (show DC O.heap.size O pu ls from by rw[J];exact CL.lst ho (fun q hq=>by have:=(hle q hq).1;omega));have ag:=Lh (show Bk g t ls from⟨aP.o,aM.o,by rw[J,xj];exact aw,fun l hl=>by rw[J]at hl;obtain⟨q,hq,rfl⟩:=List.mem_map.1 hl;exact hle q hq⟩);obtain⟨N,hN⟩: ∃N,N=ls.length:=⟨_,rfl⟩
 have hl2:l2.length=N:=by rw[hN,J,xj]
 rw[hl2]at aw ⊢;have ac:=Lh hN;have aL:Hid (pu=none/\N=0/\cu=0∨ ∃gp,pu=some ⟨gp,0,none⟩/\N<=cu/\cu<=maxLen):=Lh (by
  have hr:=HO.o.row;rw[hl2]at hr;rcases hr.2 with⟨h1,h2⟩ | ⟨gp,cap,cur,h1,_,_,h3,h4,_⟩
  ·simp only[Value.slice.injEq]at h1;exact .inl ⟨h1.1,by omega,h1.2.2⟩
  ·simp only[Value.slice.injEq]at h1;exact .inr ⟨gp,h1.1,by omega,by omega⟩)
 clear ho hs hle J hN hl2 HO S4 S2 au aq;obtain⟨i2,ay,aI,aC,hq2⟩:=info_parts Vi;go_wp2_with fail;go_loopw [6,7] (fun fv kv wr=> ∃(k:Nat) (fs:List Fd),kv=ja jb k/\fs.length=k/\k<=N+1/\Hid (Dr O.heap.size wr fv ⟨#[120]⟩ g t ls fs)/\Hid (Below O.heap.size O wr)) (fun _ kv _=>N+1 - (intOf kv).toNat)
 case atStart=>exact⟨0,[],rfl,rfl,by omega,Lh ⟨C0.nil _ _ _,fun j f h=>by simp at h⟩,Lh (Below.refl _ _)⟩
 case round=>
  obtain⟨k,fs,rfl,V,aS,HF,M⟩:=hrel;obtain⟨pf,cf,aE⟩:=AM HF.o.row.row;subst aE;rw[V]at HF;have F:=Lh V;simp only[V];clear V;by_cases hle:k<=N
  ·have ax:(k:Int)<=(N:Int):=by omega
   have aR:(0:Int)<=(k:Int):=by omega
   have aU:((k:Int)).toNat=k:=by omega
   have aV:(k:Int)<=(cu:Int):=by rcases aL.o with⟨_,h2,_⟩ | ⟨_,_,h2,_⟩<;>omega
   have Z:=Lh (show ∀W,Below wr.heap.size wr W->Calls Tryz.prog 17 #[.agg #[ja jb g.days,ja jb g.slots,ja jb g.begin_,ja jb g.mins],.agg #[ja jb t.first,ja jb t.weeks,jd Y t.hols.length ct],jc ⟨#[120]⟩,jd pu k cu] W fun e w'=> ∃(p:Option Addr) (q:Nat) (ts:List Hk),e=jh (jg #[.agg #[jc ⟨#[120]⟩,ja jb (k:Int),jd p ts.length q],ja jb 0])/\Av W.heap.size w' (jd p ts.length q) ts/\ts.map (·.1)=AX g t ls k/\Below W.heap.size W w' from fun W hW=>by
    have ab:=M.o.trans (hW.mono M.o.size);have az:Ints W.heap.size W Y t.hols:=Ah.ao (lo:=w1.heap.size) (AD HV.o ab);have ai:(ls.take k).length=k:=by rw[xn];have:=ac.o;omega
    have h:=Wf g t Y ct ⟨#[120]⟩ (ls.take k) pu cu W az (by omega) (((aN.o.below ab).mono ab.size).take k) (by omega);rw[ai]at h;refine h.mono ?_;rintro e w' ⟨⟨v,ts,rfl,hr,he⟩,hb⟩;obtain⟨p,q,hq, -, -⟩:=hr.seg;subst hq;have hf:=ag.o.feed (k:=k) (by have:=ac.o;omega);refine⟨p,q,ts,?_,hr,?_,hb⟩
    ·rw[ag.o.code k,hf]
    ·rw[he,hf])
   obtain⟨R,hK⟩: ∃R:Int,R=k:=⟨_,rfl⟩
   obtain⟨U,ae⟩: ∃U,U=AX g t ls k:=⟨_,rfl⟩
   rw[<-hK,<-ae]at Z;have ak:=Lh (And.intro hK ae);clear hK ae;have hA:=fun x (h:UL wr.heap.size R U wr x)=>(HG.o.below (M.o.trans (h.1.mono M.o.size)) HG.o.lt).c4
   have aG:=fun x (h:UL wr.heap.size R U wr x)=>(HT.o.below (M.o.trans (h.1.mono M.o.size)) HT.o.lt).c3
   go_upto_region 7 with(fail);refine AH (UL.gr wr.heap.size R U) 11 [gE _,gE _,gE _,gE _,gE _,fun _ u x=> ∃f,u=jg #[f,ja jb 0]/\VX wr.heap.size R U f x,fun _ u x=> ∃f,u=jg #[f,ja jb 0]/\VX wr.heap.size R U f x,fun _ u x=>VX wr.heap.size R U u x,gE _,fun _ u x=> ∃S,u=jf (some ⟨S,0,none⟩)/\wr.heap.size<=S/\ ∃cs,cs.size=3/\Af S cs 41 x,fun d _ x=> ∃S,d.head?=some (jf (some ⟨S,0,none⟩))/\VY wr.heap.size R U S x] rfl EA ⟨qE,qE,qE,qE,qE,by
    intro v x E h QQ K;simp only[A2,A1,exists_and_left,and_true]at h;simp only[h]at K ⊢;go_wp2_with fail;refine(Z.o x E.1).mono ?_;rintro _ z ⟨p,q,ts,rfl,hr,he,hb⟩;go_wp2_with fail;exact K _ _ ⟨_,rfl,p,q,ts,rfl,hr.mono E.1.size,he⟩ (.inr (.of E.1.size hb)),by
    intro v x E h QQ K;simp only[A2,A1]at h;obtain⟨⟨z,⟨f,e,hr⟩,gz⟩, -⟩:=h;simp only[e]at K ⊢;go_wp2_with fail;exact K _ _ ⟨_,rfl,gz.2.1 _ hr⟩ (.inl rfl),by
    intro v x E h QQ K;simp only[A2,A1]at h;obtain⟨⟨z,⟨f,e,hr⟩,gz⟩, -⟩:=h;simp only[e]at K ⊢;go_wp2_with fail;exact K _ _ (gz.2.1 _ hr) (.inl rfl),by
    intro v x E h QQ K;simp only[A2,A1]at h;obtain⟨⟨z,⟨f,e,hr⟩,gz⟩, -⟩:=h;simp only[e]at K ⊢;go_wp2_with fail;exact K _ _ rfl (.inl rfl),by
    intro v x E h QQ K;go_wp2_with fail;exact K _ _ ⟨_,rfl,E.1.size,_,rfl,Af.new x _ _⟩ (.inr (.of E.1.size (Aa x _))),by
    intro v x E h QQ K;simp only[A2,A1]at h;obtain⟨⟨z1,⟨S,eS,hS,cs,hc,hB⟩,g1⟩,⟨z2,hf,g2⟩, -⟩:=h;obtain⟨p,q,ts,e,hr,he⟩:=g2.2.1 _ hf;obtain⟨cs,hB,hc⟩:=g1.2.2.1 S cs hB hc;obtain⟨x0,x1,x2,rfl⟩:=WS hc;have f:=hB.c3;simp only[eS,e,E7]at K ⊢;go_wp2_with fail;have hz:=Wh (k:=R) hB hS hr he;exact K (ja jb 0) _ ⟨S,rfl,hz.1⟩ (.inr hz.2),trivial⟩ ?_
   intro v x E h;simp only[Dt,gE,exists_and_left,Nat.reduceAdd]at h;obtain⟨-, -, -, -, -, -, -, -,⟨e8, -⟩,⟨z,⟨S,e9, -⟩, -⟩,⟨z',⟨S1,ar,hF⟩,gz⟩, -⟩:=h;simp only[E7,List.head?_cons,e9,Option.some.injEq,Value.pointer.injEq,Addr.mk.injEq,and_true]at ar;subst ar;obtain⟨p,q,ts,af,hr,he⟩:=gz.2.2.2 _ hF;have hb:=E.1;simp only[e8,e9,Ci];clear e8 e9 gz hF;go_upto_region 9 with(fail);obtain⟨wc,ap⟩: ∃Q,Q=x:=⟨_,rfl⟩
   rw[<-ap]at af hr hb ⊢;clear ap;have aA:=Lh af;have aJ:=Lh hr;have aO:=Lh he;have al:=Lh (M.o.trans (hb.mono M.o.size));have aa:=Lh (HF.o.made hb);have aD:=M.o.size;have aT:=hb.size;have s0:=aA.o.c3;rw[ak.o.1]at s0;clear hb hA aG Z HF hr he af E;go_wp2_with (at_builtin;refine wpList_append_own_at _ rfl (.tmp 35) (.tmp 37) 27 rfl O.heap.size 41 i2 _ 3 48 Tryz.underlying27 ay aI aC hq2 rfl (by decide) (jd pf k cf) k (Ct ⟨#[120]⟩ fs) rfl (xh (show wc.ownsRow O.heap.size 41 3 (jd pf k cf) k (Ct ⟨#[120]⟩ fs)from by have h:=aa.o.row.row;rw[F.o]at h;exact h) _) ⟨wc.heap.size,0,none⟩ 1 1 [jc ⟨#[120]⟩,ja jb k,jd p ts.length q] rfl rfl (Bd (Af.new wc #[jc ⟨#[120]⟩,ja jb k,jd p ts.length q] 41)) (by intro u hu;simp at hu;rcases hu with rfl | rfl | rfl<;>rfl) (by unfold maxLen;omega) (by omega) (by simp;omega) ?_);intro v8 x8 H A _ aK;have aB:=Lh (show Dr O.heap.size x8 v8 ⟨#[120]⟩ g t ls (fs++[((fs.length:Int),jd p ts.length q,ts)])from(aa.o.alloc (ji #[jc ⟨#[120]⟩,ja jb k,jd p ts.length q] 41)).snoc ((aJ.o.alloc _).mono aD) (by rw[F.o,aO.o,ak.o.2]) A (by rw[F.o];exact H));have aH:=Lh (Ak (al.o.trans ((Aa wc _).mono al.o.size)) (xh (show wc.ownsRow O.heap.size 41 3 (jd pf k cf) k (Ct ⟨#[120]⟩ fs)from by have h:=aa.o.row.row;rw[F.o]at h;exact h) _) (xe _) (by simp;omega) A);clear H A aK s0;go_wp2_with fail;go_roundw
   case rel=>exact⟨k+1,_,by go_num,by rw[xb,F.o];rfl,by omega,aB,aH⟩
   case measure=>simp[intOf];omega
  ·have ax: ¬(k:Int)<=(N:Int):=by omega
   have am:k=N+1:=by omega
   go_wp2_with fail;go_ret;exact⟨g,t,ls,_,rfl,ag.o,fs,by have:=ac.o;have:=F.o;omega,by
    have h:=HF.o;rw[am]at h;exact⟨⟨Ab h.row.row S5.o.but.size,fun f hf=>(h.row.each f hf).mono S5.o.but.size⟩,h.ver⟩,S5.o.then (S5.o.dice.kept S5.o.dice.lt M.o) (AO.of_below M.o)⟩
