/- Toward the law of feed.Make: drawn versions as a list of lists in memory; the feed that Make answers is valid. No function of the program in sight. The theorem of calendars, plain: a reader that sees versions of a timetable in any order. No program in sight. Condition: none. Plain facts: a drawn feed is valid; what merging makes of a valid feed in a reader without events, and of a feed that is not newer. No function of the program in sight. Condition: none. Memory and plain facts for SubscriberOnce: a row of feeds in memory; drawn versions have no error; prefixes of a list of versions. Lemmas of the first seat that the base left out. The plain law of deliveries: worlds, steps, and what they do. No function of the program in sight. Condition: none. Rows of elements of several cells in memory: seen, made longer, written over. No function of the program in sight. Condition: none. versions.Sum: the sum of the bytes of a text. Condition: none. -/
import Derived.Test.YtegjgjgoodekiaaGreatDoorQk23
import Derived.Test.YtegjgjgoodekiaaGreatDoorQk27
import Derived.Test.YtegjgjgoodekiaaGreatDoorQk6
import Derived.Test.YtegjgjgoodekiaaGreatDoorQk10
import Derived.Test.YtegjgjgoodekiaaGreatDoorQk19
import Derived.Test.YtegjgjgoodekiaaGreatDoorQk18
import Derived.Test.YtegjgjgoodekiaaGreatDoorQk9
import Derived.Test.YtegjgjgoodekiaaGreatDoorQk20
import Derived.Test.YtegjgjgoodekiaaGreatDoorMakO
import Derived.LoopTactic
open Go.Value renaming int->ja,string->jc,slice->jd,bool->je
open Go.IntKind renaming i64->jb
open Go.Ending renaming returned->jh
open List renaming length_take->xa,mem_cons_of_mem->xb,mem_singleton->xc,getElem?_eq_some_iff->xe,mem_cons->xf,eq_nil_of_length_eq_zero->xg,mem_append->xh,getElem?_append_right->xi,getElem?_append_left->xj,append_nil->xl,take_append_drop->xm,mem_cons_self->xn,length_append->xo,flatMap_cons->xp,not_mem_nil->xq,length_cons->xr,length_nil->xt,drop_eq_getElem_cons->xu,getElem?_map->xy,length_map->xz,foldl_cons->xA
open Array renaming getElem?_eq_some_iff->xd
open Go.World.ownsRow renaming cells->xk
open Nat renaming zero_add->xv,le_refl->xw
open Go.World renaming ownsRow_nil->xx
namespace Go.Proofs.YtegjgjgoodekiaaGreatDoor
open Go.RowKit
theorem N8{g:Tt.Grd}{t:Tt.Trm}{w:ByteArray}{ls:List (List Az)}(h:G7 g t w ls=0):Aq (Jb g t w ls).1 (Jb g t w ls).2.1 (Jb g t w ls).2.2=0:=by
 have E:Jb g t w ls=(w,(ls.length:Int),Bp g t 1 ls []):=if_pos h;rw[E];show Aq w (ls.length:Int) (Bp g t 1 ls [])=0
 unfold G7 at h;split at h
 ·cases h
 ·split at h
  ·cases h
  ·rename_i A
   split at h
   ·cases h
   ·rename_i G
    split at h
    ·rename_i F;exact absurd h F
    ·split at h
     ·cases h
     ·rename_i D
      unfold Aq;rw[if_neg A,if_neg (by omega),if_neg D];have:=EV (g:=g) (t:=t) ls 0 [] (by omega) (show Bn 0 none []=0 from rfl);rw[Int.zero_add,Int.zero_add]at this;exact this
def AX(g:Tt.Grd)(t:Tt.Trm)(ls:List (List Az))(k:Nat):List Ev:=Bp g t 1 (ls.take k) []
theorem Gc(g:Tt.Grd)(t:Tt.Trm)(ls:List (List Az))(k:Nat)(hk:k<=ls.length):Bn (k:Int) none (AX g t ls k)=0:=by
 have:=EV (g:=g) (t:=t) (ls.take k) 0 [] (by decide) rfl;rw[xa,Nat.min_eq_left hk]at this;unfold AX;simpa using this
theorem GA(g:Tt.Grd)(t:Tt.Trm)(ls:List (List Az))(k:Nat):BG (AX g t ls k):=Gl g t _ _ _ List.Pairwise.nil
def BO(es:List Ev)(e:Ev):List Nt:=
 match Cp e.uid es with
 | none=>Bo (C4 true e.canc) e []
 | some o=>if o.seq<e.seq then Bo (C4 o.canc e.canc) e []else[]
theorem BG.ne{es:List Ev}(h:BG es):es.Pairwise (fun a b=>a.uid≠b.uid):=h.imp (fun {a b} w e=>by rw[e,Ch]at w;cases w)
theorem BG.nodup{es:List Ev}(h:BG es):es.Nodup:=h.ne.imp (fun w e=>w (by rw[e]))
theorem BG.ext{xs ys:List Ev}(hx:BG xs)(hy:BG ys)(h: ∀a,a∈xs ↔ a∈ys):xs=ys:=hx.same hy ((List.perm_ext_iff_of_nodup hx.nodup hy.nodup).2 h)
def IL(S:List ByteArray)(n:Nt):List ByteArray:=S.filter (fun u=>!decide (u=n.uid))++(if n.kind=3 then[]else[n.uid])
def FB(S:List ByteArray)(ns:List Nt):List ByteArray:=ns.foldl IL S
theorem Ks(S:List ByteArray)(xs ys:List Nt):FB S (xs++ys)=FB (FB S xs) ys:=List.foldl_append ..
theorem L4{S:List ByteArray}(n:Nt)(h:S.Nodup):(IL S n).Nodup:=by
 unfold IL;refine List.pairwise_append.2 ⟨h.filter _,by split<;>simp,fun a ha b hb=>?_⟩;have w:a≠n.uid:=by have:=(List.mem_filter.1 ha).2;simpa using this
 split at hb
 ·cases hb
 ·rw[xc.1 hb];exact w
theorem Hp: ∀(w:List Nt) {S:List ByteArray},S.Nodup->(FB S w).Nodup
 | [],_,h=>h
 | n::r,_,h=>Hp r (L4 n h)
theorem Py(S:List ByteArray)(n:Nt)(u:ByteArray):u∈IL S n ↔ (u∈S/\u≠n.uid)∨(n.kind≠3/\u=n.uid):=by
 unfold IL;rw[xh,List.mem_filter];by_cases h:n.kind=3<;>simp[h]
theorem Kr: ∀(w:List Nt) (S:List ByteArray) (u:ByteArray),w.Pairwise (fun a b=>a.uid≠b.uid)->(u∈FB S w ↔ (u∈S/\ ∀n∈w,n.uid≠u)∨ ∃n∈w,n.uid=u/\n.kind≠3)
 | [],S,u,_=>by simp[FB]
 | n::r,S,u,h=>by
  obtain⟨A,D⟩:=List.pairwise_cons.1 h;show u∈FB (IL S n) r ↔ _
  rw[Kr r (IL S n) u D,Py];constructor
  ·rintro(⟨⟨a,b⟩ | ⟨a,b⟩,c⟩ | ⟨m,hm,a,b⟩)
   ·refine .inl ⟨a,fun m hm=>?_⟩;rcases xf.1 hm with rfl | hm
    ·exact fun q=>b q.symm
    ·exact c m hm
   ·exact .inr ⟨n,by simp,b.symm,a⟩
   ·exact .inr ⟨m,by simp[hm],a,b⟩
  ·rintro(⟨a,c⟩ | ⟨m,hm,a,b⟩)
   ·exact .inl ⟨.inl ⟨a,fun q=>c n (by simp) q.symm⟩,fun m hm=>c m (by simp[hm])⟩
   ·rcases xf.1 hm with rfl | hm
    ·exact .inl ⟨.inr ⟨b,a.symm⟩,fun k hk q=>A k hk (a.trans q.symm)⟩
    ·exact .inr ⟨m,hm,a,b⟩
theorem DR{es:List Ev}{e:Ev}{n:Nt}(h:n∈BO es e):n.uid=e.uid/\n.seq=e.seq/\(n.kind=3 ↔ e.canc=true)/\(∀o∈es,o.uid=e.uid->o.seq<e.seq∨Cp e.uid es≠some o):=by
 have A: ∀c,n∈Bo (C4 c e.canc) e []->n.uid=e.uid/\n.seq=e.seq/\(n.kind=3 ↔ e.canc=true):=fun c hc=>by
  unfold Bo at hc;split at hc
  ·cases hc
  ·obtain rfl:=xc.1 (by simpa using hc);refine⟨rfl,rfl,?_⟩;rename_i g;show C4 c e.canc=3 ↔ _
   revert g
   cases c<;>cases e.canc<;>decide
 unfold BO at h;cases hx:Cp e.uid es with
 | none=>
  rw[hx]at h;obtain⟨a,b,c⟩:=A true h;exact⟨a,b,c,fun o ho hu=>.inr (by simp)⟩
 | some o=>
  rw[hx]at h;by_cases w:o.seq<e.seq
  ·simp only[if_pos w]at h;obtain⟨a,b,c⟩:=A o.canc h;refine⟨a,b,c,fun p hp hu=>?_⟩;by_cases hq:p=o
   ·rw[hq];exact .inl w
   ·exact .inr (by simp;exact fun q=>hq q.symm)
  ·simp only[if_neg w]at h;cases h
theorem I4{es:List Ev}: ∀{fs:List Ev},fs.Pairwise (fun a b=>a.uid≠b.uid)->(fs.flatMap (BO es)).Pairwise (fun a b=>a.uid≠b.uid)
 | [],_=>List.Pairwise.nil
 | e::r,h=>by
  obtain⟨D,E⟩:=List.pairwise_cons.1 h;rw[xp];refine List.pairwise_append.2 ⟨?_,I4 E,fun a ha b hb=>?_⟩
  ·have A: ∀c,(Bo c e []).Pairwise (fun a b=>a.uid≠b.uid):=fun c=>by unfold Bo;split<;>simp
   unfold BO;split
   ·exact A _
   ·split
    ·exact A _
    ·exact List.Pairwise.nil
  ·obtain⟨f,hf,w⟩:=List.mem_flatMap.1 hb;rw[(DR ha).1,(DR w).1];exact D f hf
structure Told (E:Nat->List Ev) (k:Nat) (T:List Nt):Prop where
 low: ∀n∈T,n.seq<=k
 once:T.Pairwise (fun a b=>a.uid=b.uid->a.seq<b.seq)
 shown: ∀u,u∈FB [] T ↔ ∃e∈E k,e.uid=u/\e.canc=false
 nodup:(FB [] T).Nodup
theorem Told.next{E:Nat->List Ev}{k j:Nat}{T:List Nt}(h:Told E k T)(R:k<j)(hk:BG (E k))(hj:BG (E j))(G: ∀e∈E k,e.seq<=k)(O: ∀e∈E j,e.seq<=j)
  (w: ∀x∈E j,x∈E k∨(k:Int)<x.seq) (F: ∀o∈E k,∃x∈E j,x.uid=o.uid):Told E j (T++(E j).flatMap (BO (E k))):=by
 have D: ∀n∈(E j).flatMap (BO (E k)),∃e∈E j,n∈BO (E k) e/\n.uid=e.uid/\n.seq=e.seq/\(n.kind=3 ↔ e.canc=true)/\(k:Int)<e.seq:=by
  intro n hn;obtain⟨e,he,hm⟩:=List.mem_flatMap.1 hn;obtain⟨a,b,c,d⟩:=DR hm;refine⟨e,he,hm,a,b,c,?_⟩;rcases w e he with hx | hx
  ·rcases d e hx rfl with q | q
   ·omega
   ·exact absurd (Jq hk hx) q
  ·exact hx
 have A:=I4 (es:=E k) hj.ne;refine⟨fun n hn=>?_,List.pairwise_append.2 ⟨h.once,A.imp (fun q r=>absurd r q),fun a ha b hb _=>?_⟩,fun u=>?_,?_⟩
 ·rcases xh.1 hn with hn | hn
  ·have:=h.low n hn;omega
  ·obtain⟨e,he, -, -,b, -, -⟩:=D n hn;rw[b];exact O e he
 ·obtain⟨e,he, -, -,c, -,d⟩:=D b hb;have:=h.low a ha;omega
 ·rw[Ks,Kr _ _ _ A,h.shown];constructor
  ·rintro(⟨⟨o,ho,hu,hc⟩,M⟩ | ⟨n,hn,hu,hc⟩)
   ·obtain⟨x,hx,hv⟩:=F o ho;rcases w x hx with J | J
    ·have:=hk.one J ho hv;subst this;exact⟨x,hx,hu,hc⟩
    ·exfalso;have hg:Cp x.uid (E k)=some o:=by rw[hv];exact Jq hk ho
     have hs:=G o ho;have hne:BO (E k) x≠[]:=by
      unfold BO;rw[hg];simp only[if_pos (show o.seq<x.seq by omega)];unfold Bo;rw[hc];rw[if_neg (by cases x.canc<;>decide)];simp
     obtain⟨n,hn⟩:=List.exists_mem_of_ne_nil _ hne;exact M n (List.mem_flatMap.2 ⟨x,hx,hn⟩) ((DR hn).1.trans (hv.trans hu))
   ·obtain⟨e,he, -,a, -,c, -⟩:=D n hn;refine⟨e,he,a.symm.trans hu,?_⟩;cases hq:e.canc with
    | false=>rfl
    | true=>exact absurd (c.2 hq) hc
  ·rintro⟨e,he,hu,hc⟩;rcases w e he with H | H
   ·refine .inl ⟨⟨e,H,hu,hc⟩,fun n hn q=>?_⟩;obtain⟨x,hx, -,a, -, -,d⟩:=D n hn;have:=hj.one hx he (by rw[<-a,q,hu]);subst this;have:=G x H;omega
   ·refine .inr ?_;have hne:BO (E k) e≠[]:=by
     unfold BO;cases hx:Cp e.uid (E k)with
     | none=>
      simp only;unfold Bo;rw[hc,if_neg (by decide)];simp
     | some o=>
      have:=G o (D0 hx).1;simp only[if_pos (show o.seq<e.seq by omega)];unfold Bo;rw[hc,if_neg (by cases o.canc<;>decide)];simp
    obtain⟨n,hn⟩:=List.exists_mem_of_ne_nil _ hne;obtain⟨a, -,c, -⟩:=DR hn;exact⟨n,List.mem_flatMap.2 ⟨e,he,hn⟩,a.trans hu,fun q=>by rw[c.1 q]at hc;cases hc⟩
 ·rw[Ks];exact Hp _ h.nodup
theorem Av.apart{lo B n k:Nat}{ty:TypeId}{w w':World}{u v:Value}{ts:List (Ev × Value × Value)}{xs:List Value}(h:Av lo w u ts)(A:w.ownsRow B ty k v n xs)(E:3≠ty)(D:61≠ty)(hg:w.grownBy w' v.ownBlock):Av lo w' u ts:=
 ⟨World.ownsRow.kept h.row hg (AU h.row A D),fun t ht=>⟨(h.ref t ht).1,World.ownsRow.kept (h.ref t ht).2.1 hg (AU (h.ref t ht).2.1 A E),World.ownsRow.kept (h.ref t ht).2.2 hg (AU (h.ref t ht).2.2 A E)⟩⟩
abbrev Fd:=Int × Value × List (Ev × Value × Value)
def Ct(nm:ByteArray)(fs:List Fd):List Value:=fs.flatMap fun f=>[jc nm,ja jb f.1,f.2.1]
theorem Ii(w:ByteArray): ∀(fs:List Fd) (j i:Nat) (f:Fd),fs[j]?=some f->i<3->(Ct w fs)[j*3+i]?=[Value.string w,ja jb f.1,f.2.1][i]?
 | [],_,_,_,h,_=>by simp at h
 | n0::r,0,i,n,h,hi=>by
  simp at h;subst h;show([Value.string w,ja jb n0.1,n0.2.1]++Ct w r)[0*3+i]?=_
  rw[show 0*3+i=i by omega,xj (by show i<3;exact hi)]
 | n0::r,j+1,i,n,h,hi=>by
  show([Value.string w,ja jb n0.1,n0.2.1]++Ct w r)[(j+1)*3+i]?=_
  rw[xi (by show 3<=_;omega),show(j+1)*3+i - [Value.string w,ja jb n0.1,n0.2.1].length=j*3+i by show _ - 3=_;omega];exact Ii w r j i n (by simpa using h) hi
theorem Lx(w:ByteArray)(fs:List Fd)(f:Fd):Ct w (fs++[f])=Ct w fs++[jc w,ja jb f.1,f.2.1]:=by
 unfold Ct;simp
structure C0 (lo:Nat) (w:World) (v:Value) (nm:ByteArray) (fs:List Fd):Prop where
 row:w.ownsRow lo 41 3 v fs.length (Ct nm fs)
 each: ∀f∈fs,Av lo w f.2.1 f.2.2
theorem C0.nil(lo:Nat)(w:World)(A:ByteArray):C0 lo w (jd none 0 0) A []:=⟨xx _ _ _ _,fun f h=>by cases h⟩
theorem C0.alloc{lo:Nat}{w:World}{v:Value}{A:ByteArray}{fs:List Fd}(h:C0 lo w v A fs)(o:Obj):C0 lo (w.alloc o) v A fs:=⟨h.row.alloc o,fun f hf=>(h.each f hf).alloc o⟩
theorem C0.made{lo:Nat}{w w':World}{v:Value}{A:ByteArray}{fs:List Fd}(h:C0 lo w v A fs)(hb:Below w.heap.size w w'):C0 lo w' v A fs:=⟨Ay h.row hb,fun f hf=>(h.each f hf).made hb⟩
theorem C0.snoc{lo:Nat}{w w':World}{v v':Value}{D:ByteArray}{fs:List Fd}{f:Fd}(h:C0 lo w v D fs)(hf:Av lo w f.2.1 f.2.2)(hg:w.grownBy w' v.ownBlock)(A:w'.ownsRow lo 41 3 v' (fs.length+1) (Ct D fs++[jc D,ja jb f.1,f.2.1])):C0 lo w' v' D (fs++[f]):=by
 refine⟨by rw[xo,Lx];exact A,fun q hq=>?_⟩;rcases xh.1 hq with hq | hq
 ·exact(h.each q hq).apart h.row (by decide) (by decide) hg
 ·rw[xc.1 hq];exact hf.apart h.row (by decide) (by decide) hg
theorem C0.form{lo:Nat}{w:World}{v:Value}{A:ByteArray}{fs:List Fd}(h:C0 lo w v A fs)(hp:0<fs.length): ∃g c,v=jd (some ⟨g,0,none⟩) fs.length c/\g<w.heap.size/\lo<=g:=by
 rcases h.row.2 with⟨_,h0⟩ | ⟨g,cap,cur,hv,hb,hg,_⟩
 ·omega
 ·exact⟨g,cap,hv,(xd.1 hg).1,hb⟩
theorem C0.at_{lo n c g:Nat}{w:World}{A:ByteArray}{fs:List Fd}(h:C0 lo w (jd (some ⟨g,0,none⟩) n c) A fs){j:Nat}{f:Fd}(hf:fs[j]?=some f):w.cell? ⟨g,j*3,none⟩=some (jc A)/\w.cell? ⟨g,j*3+1,none⟩=some (ja jb f.1)/\w.cell? ⟨g,j*3+2,none⟩=some f.2.1:=by
 have hc: ∀(i:Nat) (u:Value),i<3->[Value.string A,ja jb f.1,f.2.1][i]?=some u->w.cell? ⟨g,j*3+i,none⟩=some u:=fun i u hi hu=>by
  have:=xk h.row (g:=g) rfl (j*3+i) u (by rw[Ii A fs j i f hf hi];exact hu);rw[Addr.add_lit]at this;rw[<-this,xv]
 exact⟨hc 0 _ (by omega) rfl,hc 1 _ (by omega) rfl,hc 2 _ (by omega) rfl⟩
structure Dr (lo:Nat) (w:World) (v:Value) (nm:ByteArray) (g:Tt.Grd) (t:Tt.Trm) (ls:List (List Az)) (fs:List Fd):Prop where
 row:C0 lo w v nm fs
 ver: ∀(j:Nat) (f:Fd),fs[j]?=some f->f.1=(j:Int)/\f.2.2.map (·.1)=AX g t ls j
theorem Dr.alloc{lo:Nat}{w:World}{v:Value}{A:ByteArray}{g:Tt.Grd}{t:Tt.Trm}{ls:List (List Az)}{fs:List Fd}(h:Dr lo w v A g t ls fs)(o:Obj):Dr lo (w.alloc o) v A g t ls fs:=⟨h.row.alloc o,h.ver⟩
theorem Dr.made{lo:Nat}{w w':World}{v:Value}{A:ByteArray}{g:Tt.Grd}{t:Tt.Trm}{ls:List (List Az)}{fs:List Fd}(h:Dr lo w v A g t ls fs)(hb:Below w.heap.size w w'):Dr lo w' v A g t ls fs:=⟨h.row.made hb,h.ver⟩
theorem Dr.snoc{lo:Nat}{w w':World}{v v':Value}{D:ByteArray}{g:Tt.Grd}{t:Tt.Trm}{ls:List (List Az)}{fs:List Fd}{u:Value}{ts:List (Ev × Value × Value)}(h:Dr lo w v D g t ls fs)(hf:Av lo w u ts)(he:ts.map (·.1)=AX g t ls fs.length)(hg:w.grownBy w' v.ownBlock)(A:w'.ownsRow lo 41 3 v' (fs.length+1) (Ct D fs++[jc D,ja jb (fs.length:Int),u])):Dr lo w' v' D g t ls (fs++[((fs.length:Int),u,ts)]):=by
 refine⟨h.row.snoc (f:=((fs.length:Int),u,ts)) hf hg A,fun j f hj=>?_⟩;rcases Nat.lt_or_ge j fs.length with hl | hl
 ·rw[xj hl]at hj;exact h.ver j f hj
 ·rw[xi hl]at hj;have E:j - fs.length=0:=by
   rcases Nat.eq_zero_or_pos (j - fs.length)with q | q
   ·exact q
   ·rw[List.getElem?_eq_none (by simp;omega)]at hj;cases hj
  rw[E]at hj;simp at hj;subst hj;obtain rfl:j=fs.length:=by omega
  exact⟨rfl,he⟩
theorem UZ{g:Tt.Grd}{n:Int}{s:Az}(h:Th g n s)(hg:Tt.gridV g=0)(A:1<=n)(w:n<=20):FZ s n=0:=by
 obtain⟨⟨c,hc,c0,c1⟩,ht,hr⟩:=h;have hf:=ht.fits hg A w;unfold Tt.fitsV at hf;rw[if_pos ⟨hg,A,w⟩]at hf;have hs:Tt.soundB s.tim=true/\Tt.weeksB s.tim.weeks n=true:=by
  split at hf
  ·rename_i q;exact⟨q.1,q.2.1⟩
  ·cases hf
 refine Lj ?_ (by rw[hs.1,hs.2];rfl) ?_
 ·rw[hc];have D:c=49∨c=50∨c=51∨c=52:=by
   have:c.toNat=49∨c.toNat=50∨c.toNat=51∨c.toNat=52:=by omega
   rcases this with q | q | q | q
   ·exact .inl (UInt8.toNat_inj.1 q)
   ·exact .inr (.inl (UInt8.toNat_inj.1 q))
   ·exact .inr (.inr (.inl (UInt8.toNat_inj.1 q)))
   ·exact .inr (.inr (.inr (UInt8.toNat_inj.1 q)))
  rcases D with rfl | rfl | rfl | rfl<;>decide
 ·rcases hr with h | h | h<;>rw[h]<;>decide
theorem Kt{n:Int}: ∀{l:List Az},(∀s∈l,FZ s n=0)->Ee n l=0
 | [],_=>rfl
 | s::r,h=>by
  rw[Ee,if_neg (by rw[h s (by simp)];decide)];exact Kt (fun x hx=>h x (by simp[hx]))
theorem KA: ∀{l:List Az},l.Pairwise (fun a b=>A4 a.cls b.cls=true)->F5 l=true
 | [],_=>rfl
 | [_],_=>rfl
 | a::b::r,h=>by
  obtain⟨w,A⟩:=List.pairwise_cons.1 h;rw[F5,KA A,Bool.and_true];unfold Q0;rw[w b (by simp)];rfl
theorem JC: ∀{l pre:List Az},(pre++l).Pairwise (fun a b=>A4 a.cls b.cls=true)->Dd pre l=false
 | [],_,_=>by unfold Dd;rfl
 | s::r,pre,h=>by
  have hh:(pre++[s])++r=pre++s::r:=by simp
  rw[Dd,JC (by rw[hh];exact h),Bool.or_false];rw[List.any_eq_false];intro x hx;have hl:=(List.pairwise_append.1 h).2.2 x hx s (by simp);have hne:decide (s.cls=x.cls)=false:=by
   rw[decide_eq_false_iff_not];intro q;rw[q,Ch]at hl;cases hl
  unfold EF Gy H9;rw[hne];simp
theorem Tn{g:Tt.Grd}{n:Int}{l:List Az}(h:DB g n l)(hg:Tt.gridV g=0)(w:1<=n)(A:n<=20)(hl:l.length<=12):C3 l n=0:=by
 unfold C3;rw[if_neg (by omega),if_neg (by omega),if_neg (by rw[Kt (fun s hs=>UZ (h.each s hs) hg w A)];decide),if_neg (by rw[KA h.asc];decide),if_neg (by rw[JC (pre:=[]) (by simpa using h.asc)];decide)]
theorem JP{n:Int}: ∀{ls:List (List Az)},(∀l∈ls,C3 l n=0)->C8 n ls=0
 | [],_=>rfl
 | l::r,h=>by
  rw[C8,if_neg (by rw[h l (by simp)];decide)];exact JP (fun x hx=>h x (by simp[hx]))
theorem Tf{k:Int}{es:List Ev}{e:Ev}:(CK k es e).length<=es.length+1:=by
 unfold CK;split
 ·split
  ·omega
  ·exact ER e es
 ·exact ER e es
theorem KQ{k:Int}: ∀{fs es:List Ev},(fs.foldl (CK k) es).length<=es.length+fs.length
 | [],_=>xw _
 | e::r,es=>by
  have w:=KQ (k:=k) (fs:=r) (es:=CK k es e);have A:=Tf (k:=k) (es:=es) (e:=e);rw[xA,xr];omega
theorem Tb{g:Tt.Grd}{t:Tt.Trm}{k:Int}{l:List Az}{es:List Ev}:(Gh g t k l es).length<=es.length+l.length:=by
 unfold Gh Nz;rw[xz];have w:=KQ (k:=k) (fs:=Ca g t k l) (es:=es);have A:(Ca g t k l).length<=l.length:=by unfold Ca;rw[xz];exact List.length_filter_le _ _
 omega
theorem Jc{g:Tt.Grd}{t:Tt.Trm}{b:Nat}: ∀{ls:List (List Az)} {k:Int} {es:List Ev},(∀l∈ls,l.length<=b)->(Bp g t k ls es).length<=es.length+ls.length*b
 | [],_,es,_=>by rw[Bp];simp
 | l::r,k,es,h=>by
  rw[Bp];have w:=Jc (g:=g) (t:=t) (b:=b) (ls:=r) (k:=k+1) (es:=Gh g t k l es) (fun x hx=>h x (by simp[hx]));have A:=Tb (g:=g) (t:=t) (k:=k) (l:=l) (es:=es);have D:=h l (by simp);rw[xr,Nat.succ_mul];omega
structure Bk (g:Tt.Grd) (t:Tt.Trm) (ls:List (List Az)):Prop where
 grid:Tt.gridV g=0
 term:Tt.trmV t=0
 len:ls.length<=4
 each: ∀l∈ls,l.length<=12/\DB g t.weeks l
theorem Bk.code{g:Tt.Grd}{t:Tt.Trm}{ls:List (List Az)}(h:Bk g t ls)(k:Nat):G7 g t ⟨#[120]⟩ (ls.take k)=0:=by
 have w:=Tt.trmV_ok h.term;have hle:(ls.take k).length<=4:=by rw[xa];have:=h.len;omega
 refine RX h.grid h.term (by decide) (by omega) (JP (fun l hl=>?_)) ?_
 ·have hm:=h.each l (List.mem_of_mem_take hl);exact Tn hm.2 h.grid w.2.2.1 w.2.2.2.1 hm.1
 ·have:=Jc (g:=g) (t:=t) (b:=12) (ls:=ls.take k) (k:=1) (es:=[]) (fun l hl=>(h.each l (List.mem_of_mem_take hl)).1);have A:(ls.take k).length*12<=4*12:=Nat.mul_le_mul_right _ hle;rw[xt]at this;omega
theorem Bk.small{g:Tt.Grd}{t:Tt.Trm}{ls:List (List Az)}(h:Bk g t ls)(k:Nat):(AX g t ls k).length<=48:=by
 have hle:(ls.take k).length<=4:=by rw[xa];have:=h.len;omega
 have:=Jc (g:=g) (t:=t) (b:=12) (ls:=ls.take k) (k:=1) (es:=[]) (fun l hl=>(h.each l (List.mem_of_mem_take hl)).1);have w:(ls.take k).length*12<=4*12:=Nat.mul_le_mul_right _ hle;rw[xt]at this;unfold AX;omega
theorem Bk.feed{g:Tt.Grd}{t:Tt.Trm}{ls:List (List Az)}(h:Bk g t ls){k:Nat}(hk:k<=ls.length):Jb g t ⟨#[120]⟩ (ls.take k)=(⟨#[120]⟩,(k:Int),AX g t ls k):=by
 unfold Jb;rw[if_pos (h.code k),xa,Nat.min_eq_left hk];rfl
theorem Bk.valid{g:Tt.Grd}{t:Tt.Trm}{ls:List (List Az)}(h:Bk g t ls){k:Nat}(hk:k<=ls.length):Aq ⟨#[120]⟩ (k:Int) (AX g t ls k)=0:=by
 have:=N8 (h.code k);rwa [h.feed hk]at this
theorem Bk.rd{g:Tt.Grd}{t:Tt.Trm}{ls:List (List Az)}(h:Bk g t ls){k:Nat}(hk:k<=ls.length):Cw (k:Int) (AX g t ls k)=true:=
 (BT _ _).2 ⟨by omega,by have:=h.len;omega,by have:=h.small k;omega,Gc g t ls k hk⟩
theorem DC.take{B:Nat}{w:World}{ao:Option Addr}{ls:List (List Az)}(h:DC B w ao ls)(k:Nat):DC B w ao (ls.take k):=by
 rcases h with h | ⟨b,o,A,D,E⟩
 ·exact .inl (by rw[h];exact List.take_nil)
 ·refine .inr ⟨b,o,A,D,fun j l hl=>E j l ?_⟩;have hj:j<k:=by have:=(xe.1 hl).1;rw[xa]at this;omega
  rwa [List.getElem?_take_of_lt hj]at hl
theorem Uc{es:List Ev}{u:ByteArray}(h: ∀e∈es,e.uid≠u):Cp u es=none:=by
 cases hg:Cp u es with
 | none=>rfl
 | some x=>obtain⟨w,A⟩:=D0 hg;exact absurd A (h x w)
theorem M0{n:ByteArray}{v t:Int}{es:List Ev}(h:Aq n v es=0)(w:1<=v)(hl:es.length<=4):BK 0 t [] n v es=(v,t,(DV [] es).1,(DV [] es).2,0):=by
 have hr:Cw 0 []=true:=(BT 0 []).2 ⟨by omega,by omega,by simp,by unfold Bn;rfl⟩;have hm:=(Fj [] es es.length (xw _)).1;rw[Iz]at hm;simp only[xt]at hm;unfold BK;rw[if_neg (by simp[hr]),if_neg (by simp[h]),if_neg (by omega),if_neg (by omega)]
theorem Md{rv tag:Int}{es:List Ev}{n:ByteArray}{v:Int}{fs:List Ev}(hr:Cw rv es=true)(hf:Aq n v fs=0)(h:v<=rv):BK rv tag es n v fs=(rv,tag,es,[],0):=by
 unfold BK;rw[if_neg (by simp[hr]),if_neg (by simp[hf]),if_pos h]
theorem Bb.ses{lo:Nat}{w:World}{v:Value}{xs:List Az}(h:Bb lo w v xs): ∃p c,v=jd p xs.length c/\xs.length<=c/\c<=9223372036854775807/\D6 w.heap.size w p xs:=by
 rcases h.2 with⟨hv,h0⟩ | ⟨g,cap,cur,hv,_,hb,h1,h2,_⟩
 ·have e:xs=[]:=xg h0;subst e;exact⟨none,0,hv,xw _,by decide,.inl rfl⟩
 ·refine⟨some ⟨g,0,none⟩,cap,hv,h1,by unfold maxLen at h2;omega,.inr ⟨g,0,rfl,(xd.1 hb).1,fun j i s u hs hu=>?_⟩⟩;have hi:i<6:=by
   have:=(xe.1 hu).1;exact this
  have A:=h;rw[hv]at A;have:=Bb.cell A j i s u hs hi hu;rw[xv];exact this
theorem CL.lst{lo n c:Nat}{w:World}{ao:Option Addr}{ls:List (Value × List Az)}(h:CL lo w (jd ao n c) ls)(hle: ∀q∈ls,q.2.length<=100000):DC w.heap.size w ao (ls.map (·.2)):=by
 rcases h.row.2 with⟨_,h0⟩ | ⟨g,cap,cur,hv,_,hb,_⟩
 ·have e:ls=[]:=xg h0;subst e;exact .inl rfl
 ·have ha:ao=some ⟨g,0,none⟩:=by injection hv
  subst ha;refine .inr ⟨g,0,rfl,(xd.1 hb).1,fun j l hl=>?_⟩;rw[xy]at hl;cases hq:ls[j]? with
  | none=>rw[hq]at hl;cases hl
  | some q=>
   rw[hq]at hl;have e:q.2=l:=by simpa using hl
   subst e;have hm:=List.mem_of_getElem? hq;obtain⟨p,c2,e2,k1,k2,A⟩:=(h.each q hm).ses;have:=xk h.row (g:=g) rfl j q.1 (by rw[xy,hq];rfl);rw[Addr.add_lit,e2]at this;exact⟨p,c2,this,k1,k2,hle q hm,A⟩
theorem G3(e:Ev): ∀es:List Ev,e∈Cl e es
 | []=>by rw[Cl];exact xc.2 rfl
 | s::r=>by
  rw[Cl];split
  ·exact xb _ (G3 e r)
  ·split<;>exact xn ..
theorem Fh{e x:Ev}: ∀{es:List Ev},x∈es->x.uid≠e.uid->x∈Cl e es
 | [],h,_=>by cases h
 | s::r,h,hne=>by
  rw[Cl];rcases xf.1 h with rfl | h
  ·split
   ·exact xn ..
   ·simp
  ·split
   ·exact xb _ (Fh h hne)
   ·split
    ·exact xb _ h
    ·exact xb _ (xb _ h)
theorem Te{k:Int}{es:List Ev}{e x:Ev}(h:x∈CK k es e):x∈es∨x=e:=by
 unfold CK at h;split at h
 ·split at h
  ·exact .inl h
  ·exact(EU e x es h).symm
 ·exact(EU e x es h).symm
theorem Mv{e o:Ev}{es:List Ev}(h:o∈es): ∃x∈Cl e es,x.uid=o.uid:=by
 by_cases hu:o.uid=e.uid
 ·exact⟨e,G3 e es,hu.symm⟩
 ·exact⟨o,Fh h hu,rfl⟩
theorem Tc{k:Int}{es:List Ev}{e o:Ev}(h:o∈es): ∃x∈CK k es e,x.uid=o.uid:=by
 unfold CK;split
 ·split
  ·exact⟨o,h,rfl⟩
  ·exact Mv h
 ·exact Mv h
theorem KP{k:Int}: ∀{fs es:List Ev} {x:Ev},x∈fs.foldl (CK k) es->x∈es∨x∈fs
 | [],_,_,h=>.inl h
 | e::r,es,x,h=>by
  rcases KP (fs:=r) h with h | h
  ·rcases Te h with h | h
   ·exact .inl h
   ·exact .inr (by rw[h];exact xn ..)
  ·exact .inr (xb _ h)
theorem KO{k:Int}: ∀{fs es:List Ev} {o:Ev},o∈es-> ∃x∈fs.foldl (CK k) es,x.uid=o.uid
 | [],_,o,h=>⟨o,h,rfl⟩
 | e::r,es,o,h=>by
  obtain⟨y,hy,hu⟩:=Tc (k:=k) (e:=e) h;obtain⟨x,hx,hv⟩:=KO (k:=k) (fs:=r) hy;exact⟨x,hx,hv.trans hu⟩
theorem PU{g:Tt.Grd}{t:Tt.Trm}{k:Int}{l:List Az}{x:Ev}(h:x∈Ca g t k l):x.seq=k:=by
 unfold Ca at h;obtain⟨s, -,rfl⟩:=List.mem_map.1 h;rfl
theorem UA{g:Tt.Grd}{t:Tt.Trm}{k:Int}{l:List Az}{es:List Ev}{x:Ev}(h:x∈Gh g t k l es):x∈es∨x.seq=k:=by
 unfold Gh Nz at h;obtain⟨y,hy,rfl⟩:=List.mem_map.1 h;unfold Dp;split
 ·rcases KP hy with h | h
  ·exact .inl h
  ·exact .inr (PU h)
 ·exact .inr rfl
theorem Ta{g:Tt.Grd}{t:Tt.Trm}{k:Int}{l:List Az}{es:List Ev}{o:Ev}(h:o∈es): ∃x∈Gh g t k l es,x.uid=o.uid:=by
 unfold Gh Nz;obtain⟨y,hy,hu⟩:=KO (k:=k) (fs:=Ca g t k l) h;exact⟨_,List.mem_map.2 ⟨y,hy,rfl⟩,(Fo _ _ _).trans hu⟩
theorem Gz{g:Tt.Grd}{t:Tt.Trm}{ls:List (List Az)}{i:Nat}: ∀{j:Nat} {x:Ev},i<=j->x∈AX g t ls j->x∈AX g t ls i∨(i:Int)<x.seq
 | 0,x,w,h=>by
  obtain rfl:i=0:=by omega
  exact .inl h
 | j+1,x,w,h=>by
  rcases Nat.lt_or_eq_of_le w with k | k
  ·have w:i<=j:=by omega
   rcases hl:ls[j]? with _ | l
   ·refine Gz (j:=j) w ?_;unfold AX at h ⊢;rwa [List.take_add_one,hl,Option.toList_none,xl]at h
   ·unfold AX at h;rw[Gb g t ls j l hl]at h;rcases UA h with h | h
    ·exact Gz (j:=j) w h
    ·exact .inr (by omega)
  ·subst k;exact .inl h
theorem G6{g:Tt.Grd}{t:Tt.Trm}{ls:List (List Az)}{i:Nat}: ∀{j:Nat} {o:Ev},i<=j->o∈AX g t ls i-> ∃x∈AX g t ls j,x.uid=o.uid
 | 0,o,w,h=>by
  obtain rfl:i=0:=by omega
  exact⟨o,h,rfl⟩
 | j+1,o,w,h=>by
  rcases Nat.lt_or_eq_of_le w with k | k
  ·have w:i<=j:=by omega
   obtain⟨y,hy,hu⟩:=G6 (j:=j) w h;rcases hl:ls[j]? with _ | l
   ·refine⟨y,?_,hu⟩;unfold AX at hy ⊢;rwa [List.take_add_one,hl,Option.toList_none,xl]
   ·unfold AX at hy ⊢;rw[Gb g t ls j l hl];obtain⟨x,hx,hv⟩:=Ta (g:=g) (t:=t) (k:=(j:Int)+1) (l:=l) hy;exact⟨x,hx,hv.trans hu⟩
  ·subst k;exact⟨o,h,rfl⟩
theorem QY{e:Ev}{v:Int}(h:Ax e v=0):1<=e.seq/\e.seq<=v:=by
 unfold Ax at h;split at h
 ·cases h
 ·omega
theorem Ja{g:Tt.Grd}{t:Tt.Trm}{ls:List (List Az)}{k:Nat}(hk:k<=ls.length){e:Ev}(h:e∈AX g t ls k):1<=e.seq/\e.seq<=k:=QY (By _ _ _ (Gc g t ls k hk) e h).2
theorem GG(u:ByteArray): ∀(es:List Ev) (k:Int),0<=k->(Cp u es=none/\Aw u es k= -1)∨ ∃(j:Nat) (o:Ev),Cp u es=some o/\Aw u es k=k+j/\es[j]?=some o
 | [],_,_=>.inl ⟨rfl,rfl⟩
 | e::r,k,hk=>by
  by_cases h:e.uid=u
  ·refine .inr ⟨0,e,?_,?_,rfl⟩
   ·unfold Cp;rw[List.find?_cons_of_pos (by simpa using h)]
   ·unfold Aw;rw[if_pos h];simp
  ·have A:Cp u (e::r)=Cp u r:=by unfold Cp;rw[List.find?_cons_of_neg (by simpa using h)]
   have D:Aw u (e::r) k=Aw u r (k+1):=by rw[Aw,if_neg h]
   rw[A,D];rcases GG u r (k+1) (by omega)with w | ⟨j,o,w,F,E⟩
   ·exact .inl w
   ·exact .inr ⟨j+1,o,w,by rw[F];push_cast;omega,by simpa using E⟩
theorem GV(w:List Ev)(A:List Nt)(e:Ev):C5 (w,A) e=match Cp e.uid w with | none=>(Cl e w,Bo (C4 true e.canc) e A) | some o=>if o.seq<e.seq then(Cl e w,Bo (C4 o.canc e.canc) e A)else(w,A):=by
 rcases GG e.uid w 0 (Int.le_refl _)with⟨h1,h2⟩ | ⟨j,o,h1,h2,h3⟩
 ·rw[IP h2,h1]
 ·rw[FX (i:=j) (by omega) h3,h1]
theorem KD(c:Int)(e:Ev)(w:List Nt):Bo c e w=w++Bo c e []:=by
 unfold Bo;split<;>simp
theorem RV{es:List Ev}(J:BG es): ∀(fs pre w:List Ev) (D:List Nt),BG (pre++fs)->(∀f∈fs,f∈es∨ ∀o∈es,o.uid=f.uid->o.seq<f.seq)->BG w->(∀f∈pre,f∈w)->(∀x∈w,x∈pre∨x∈es)->(∀o∈es,o∈w∨ ∃f∈pre,f.uid=o.uid)->
  ∃out',fs.foldl C5 (w,D)=(out',D++fs.flatMap (BO es))/\BG out'/\(∀f∈pre++fs,f∈out')/\ ∀x∈out',x∈pre++fs∨x∈es
 | [],pre,w,D,_,_,h1,h2,h3,_=>⟨w,by simp,h1,by simpa using h2,by simpa using h3⟩
 | e::r,pre,w,D,hp,hn,h1,h2,h3,h4=>by
  have hne: ∀f∈pre,f.uid≠e.uid:=fun f hf=>(List.pairwise_append.1 hp.ne).2.2 f hf e (by simp)
  have hg:Cp e.uid w=Cp e.uid es:=by
   cases hx:Cp e.uid w with
   | none=>
    refine(Uc fun o ho hu=>?_).symm;rcases h4 o ho with h | ⟨f,hf,hv⟩
    ·exact KN hx o h hu
    ·exact hne f hf (hv.trans hu)
   | some o=>
    obtain⟨a,b⟩:=D0 hx;rcases h3 o a with h | h
    ·exact absurd b (hne o h)
    ·rw[<-b];exact(Jq J h).symm
  have H: ∃out',(Cl e w,Bo (0:Int) e D).1=out'/\BG out'/\(∀f∈pre++[e],f∈out')/\(∀x∈out',x∈pre++[e]∨x∈es)/\ ∀o∈es,o∈out'∨ ∃f∈pre++[e],f.uid=o.uid:=by
   refine⟨_,rfl,h1.put,fun f hf=>?_,fun x hx=>?_,fun o ho=>?_⟩
   ·rcases xh.1 hf with hf | hf
    ·exact Fh (h2 f hf) (hne f hf)
    ·obtain rfl:=xc.1 hf;exact G3 _ _
   ·rcases EU e x w hx with rfl | hx
    ·exact .inl (by simp)
    ·rcases h3 x hx with h | h
     ·exact .inl (by simp[h])
     ·exact .inr h
   ·by_cases hu:e.uid=o.uid
    ·exact .inr ⟨e,by simp,hu⟩
    ·rcases h4 o ho with h | ⟨f,hf,hv⟩
     ·exact .inl (Fh h (fun q=>hu q.symm))
     ·exact .inr ⟨f,by simp[hf],hv⟩
  have F: ∀(A:List Ev) (G:List Nt),C5 (w,D) e=(A,G)->G=D++BO es e->BG A->(∀f∈pre++[e],f∈A)->(∀x∈A,x∈pre++[e]∨x∈es)->(∀o∈es,o∈A∨ ∃f∈pre++[e],f.uid=o.uid)->
    ∃out',(e::r).foldl C5 (w,D)=(out',D++(e::r).flatMap (BO es))/\BG out'/\(∀f∈pre++e::r,f∈out')/\ ∀x∈out',x∈pre++e::r∨x∈es:=by
   intro A G R O g1 g2 g3 g4;obtain⟨out',k1,k2,Z,Y⟩:=RV J r (pre++[e]) A G (by simpa using hp) (fun f hf=>hn f (by simp[hf])) g1 g2 g3 g4;refine⟨out',?_,k2,by simpa using Z,by simpa using Y⟩;rw[xA,R,k1,O,xp,List.append_assoc]
  obtain⟨po,rfl,T,V,U,X⟩:=H;cases hx:Cp e.uid es with
  | none=>
   refine F (Cl e w) (Bo (C4 true e.canc) e D) ?_ ?_ T V U X
   ·rw[GV,hg,hx]
   ·unfold BO;rw[hx,KD]
  | some o=>
   obtain⟨ho,hu⟩:=D0 hx;by_cases E:o.seq<e.seq
   ·refine F (Cl e w) (Bo (C4 o.canc e.canc) e D) ?_ ?_ T V U X
    ·rw[GV,hg,hx];exact if_pos E
    ·unfold BO;rw[hx,KD];simp only[if_pos E]
   ·have he:e∈es:=by
     rcases hn e (by simp)with h | h
     ·exact h
     ·exact absurd (h o ho hu) E
    have M:e∈w:=by
     rcases h4 e he with h | ⟨f,hf,hv⟩
     ·exact h
     ·exact absurd hv (hne f hf)
    refine F w D ?_ ?_ h1 (fun f hf=>?_) (fun x hx=>?_) (fun x hx=>?_)
    ·rw[GV,hg,hx];exact if_neg E
    ·unfold BO;rw[hx];simp only[if_neg E];simp
    ·rcases xh.1 hf with hf | hf
     ·exact h2 f hf
     ·obtain rfl:=xc.1 hf;exact M
    ·rcases h3 x hx with h | h
     ·exact .inl (by simp[h])
     ·exact .inr h
    ·rcases h4 x hx with h | ⟨f,hf,hv⟩
     ·exact .inl h
     ·exact .inr ⟨f,by simp[hf],hv⟩
theorem Qr{es fs:List Ev}(A:BG es)(D:BG fs)(F: ∀o∈es,∃f∈fs,f.uid=o.uid)(w: ∀f∈fs,f∈es∨ ∀o∈es,o.uid=f.uid->o.seq<f.seq):DV es fs=(fs,fs.flatMap (BO es)):=by
 obtain⟨E,k1,k2,G,H⟩:=RV A fs [] es [] (by simpa using D) w A (fun f hf=>by cases hf) (fun x hx=>.inr hx) (fun o ho=>.inl ho);have he:E=fs:=k2.ext D fun a=>⟨fun ha=>by
  rcases H a ha with h | h
  ·simpa using h
  ·obtain⟨f,hf,hu⟩:=F a h;have:=k2.one (G f (by simpa using hf)) ha hu;rwa [<-this],fun ha=>G a (by simpa using ha)⟩
 unfold DV;rw[k1,he,List.nil_append]
theorem NK(g:Tt.Grd)(t:Tt.Trm)(ls:List (List Az)):Told (AX g t ls) 0 []:=by
 refine⟨fun _ h=>(by cases h),List.Pairwise.nil,fun u=>?_,List.Pairwise.nil⟩;have w:AX g t ls 0=[]:=rfl;rw[w];simp[FB]
theorem Px{g:Tt.Grd}{t:Tt.Trm}{ls:List (List Az)}{k j:Nat}{T:List Nt}(h:Told (AX g t ls) k T)(w:k<j)(hj:j<=ls.length):Told (AX g t ls) j (T++(AX g t ls j).flatMap (BO (AX g t ls k))):=
 h.next w (GA ..) (GA ..) (fun e he=>(Ja (by omega) he).2) (fun e he=>(Ja hj he).2) (fun x hx=>Gz (by omega) hx) (fun o ho=>G6 (by omega) ho)
theorem TP{g:Tt.Grd}{t:Tt.Trm}{ls:List (List Az)}{k j:Nat}(w:k<j)(hj:j<=ls.length):DV (AX g t ls k) (AX g t ls j)=(AX g t ls j,(AX g t ls j).flatMap (BO (AX g t ls k))):=
 Qr (GA ..) (GA ..) (fun o ho=>G6 (by omega) ho) (fun f hf=>(Gz (by omega) hf).imp id (fun hs o ho _=>by have:=(Ja (by omega) ho).2;omega))
theorem Rc{g:Tt.Grd}{t:Tt.Trm}{ls:List (List Az)}{k j:Nat}{T:List Nt}(h:Told (AX g t ls) k T)(hj:j<=ls.length):Told (AX g t ls) (max k j) (T++(if k<j then(AX g t ls j).flatMap (BO (AX g t ls k))else[])):=by
 by_cases w:k<j
 ·rw[if_pos w,Nat.max_eq_right (by omega)];exact Px h w hj
 ·rw[if_neg w,Nat.max_eq_left (by omega),xl];exact h
structure Hl where
 rd:Int
 ans:Bool
 tag:Int
 body:ByteArray
 deriving DecidableEq
structure Ti where
 v:Int
 tag:Int
 es:List Ev
structure A3 where
 zone:ByteArray
 cur:ByteArray
 way:List Hl
 rds:List Ti
structure D7 where
 kind:Int
 pos:Int
 n:Int
 fn:ByteArray
 fv:Int
 es:List Ev
structure Bt where
 rd:Int
 nt:Nt
abbrev Xb:=ByteArray × Int × List Ev
def Al(s z:ByteArray):Xb × Int:=
 if 262144<s.size then((⟨#[]⟩,0,[]),2)
 else match Tt.unf s.data.toList with
  | none=>((⟨#[]⟩,0,[]),4)
  | some ls=>
   if Aq (CO z.data.toList (AA (ls.map str)).length (AA (ls.map str)) (⟨#[]⟩,0,[])).1 (CO z.data.toList (AA (ls.map str)).length (AA (ls.map str)) (⟨#[]⟩,0,[])).2.1 (CO z.data.toList (AA (ls.map str)).length (AA (ls.map str)) (⟨#[]⟩,0,[])).2.2=0/\
    (AI (CO z.data.toList (AA (ls.map str)).length (AA (ls.map str)) (⟨#[]⟩,0,[])).1.data.toList (CO z.data.toList (AA (ls.map str)).length (AA (ls.map str)) (⟨#[]⟩,0,[])).2.1 (CO z.data.toList (AA (ls.map str)).length (AA (ls.map str)) (⟨#[]⟩,0,[])).2.2 z.data.toList).map str=AA (ls.map str)
   then(CO z.data.toList (AA (ls.map str)).length (AA (ls.map str)) (⟨#[]⟩,0,[]),0)else((⟨#[]⟩,0,[]),15)
theorem CF(s z:ByteArray):(∃n v es ls,Al s z=((n,v,es),0)/\s.size<=262144/\Tt.unf s.data.toList=some ls/\Aq n v es=0/\(AI n.data.toList v es z.data.toList).map str=AA (ls.map str))∨(∃c,c≠0/\Al s z=((⟨#[]⟩,0,[]),c)):=by
 unfold Al;by_cases hs:262144<s.size
 ·rw[if_pos hs];exact .inr ⟨2,by decide,rfl⟩
 ·rw[if_neg hs];cases hu:Tt.unf s.data.toList with
  | none=>exact .inr ⟨4,by decide,rfl⟩
  | some ls=>
   dsimp only
   by_cases h:Aq (CO z.data.toList (AA (ls.map str)).length (AA (ls.map str)) (⟨#[]⟩,0,[])).1 (CO z.data.toList (AA (ls.map str)).length (AA (ls.map str)) (⟨#[]⟩,0,[])).2.1 (CO z.data.toList (AA (ls.map str)).length (AA (ls.map str)) (⟨#[]⟩,0,[])).2.2=0/\
    (AI (CO z.data.toList (AA (ls.map str)).length (AA (ls.map str)) (⟨#[]⟩,0,[])).1.data.toList (CO z.data.toList (AA (ls.map str)).length (AA (ls.map str)) (⟨#[]⟩,0,[])).2.1 (CO z.data.toList (AA (ls.map str)).length (AA (ls.map str)) (⟨#[]⟩,0,[])).2.2 z.data.toList).map str=AA (ls.map str)
   ·rw[if_pos h];exact .inl ⟨_,_,_,ls,rfl,by omega,rfl,h.1,h.2⟩
   ·rw[if_neg h];exact .inr ⟨15,by decide,rfl⟩
theorem N1{s z:ByteArray}(hs:262144<s.size):Al s z=((⟨#[]⟩,0,[]),2):=by unfold Al;rw[if_pos hs]
theorem Hy{s z:ByteArray}(hs:s.size<=262144)(hu:Tt.unf s.data.toList=none):Al s z=((⟨#[]⟩,0,[]),4):=by unfold Al;rw[if_neg (by omega),hu]
theorem Hw{s z:ByteArray}{ls:List (List UInt8)}{n:ByteArray}{v:Int}{es:List Ev}(hs:s.size<=262144)(hu:Tt.unf s.data.toList=some ls)(h:Aq n v es=0)(hx:(AI n.data.toList v es z.data.toList).map str=AA (ls.map str)):Al s z=((n,v,es),0):=by
 unfold Al;rw[if_neg (by omega),hu];have w:=Qe h hx;show(if _ then _ else _)=_
 rw[w];exact if_pos ⟨h,hx⟩
theorem N2{s z:ByteArray}{ls:List (List UInt8)}(hs:s.size<=262144)(hu:Tt.unf s.data.toList=some ls)(h: ∀n v es,Aq n v es=0-> ¬(AI n.data.toList v es z.data.toList).map str=AA (ls.map str)):Al s z=((⟨#[]⟩,0,[]),15):=by
 unfold Al;rw[if_neg (by omega),hu];show(if _ then _ else _)=_
 exact if_neg fun k=>h _ _ _ k.1 k.2
theorem Oc{n:List UInt8}{v:Int}{es:List Ev}{z:List UInt8}:AA ((AI n v es z).map str)=(AI n v es z).map str:=by
 unfold AA;rw[List.filter_eq_self];intro x hx;have:=WA n v es z x hx;simp[O4,this]
theorem Hv{n z:ByteArray}{v:Int}{es:List Ev}(hv:Aq n v es=0)(hz:Tt.code z.data.toList=true)(hl:(BU n.data.toList v es z.data.toList).length<=262144):Al (str (BU n.data.toList v es z.data.toList)) z=((n,v,es),0):=by
 refine Hw (ls:=AI n.data.toList v es z.data.toList) ?_ ?_ hv Oc.symm
 ·rw[size_mk];exact hl
 ·show Tt.unf (BU n.data.toList v es z.data.toList)=_
  exact QE hv hz
def gC{α:Type}(f:α->List Value)(xs:List α):List Value:=xs.flatMap f
theorem Vy{α:Type}(f:α->List Value):gC f []=[]:=rfl
theorem Fp{α:Type}(f:α->List Value)(x:α)(r:List α):gC f (x::r)=f x++gC f r:=by unfold gC;rw[xp]
theorem DK{α:Type}(f:α->List Value)(a b:List α):gC f (a++b)=gC f a++gC f b:=by unfold gC;rw[List.flatMap_append]
theorem Ue{α:Type}(f:α->List Value)(a:List α)(x:α):gC f (a++[x])=gC f a++f x:=by rw[DK,Fp,Vy,xl]
theorem Dq{α:Type}{f:α->List Value}{k:Nat}(hf: ∀x,(f x).length=k): ∀xs:List α,(gC f xs).length=xs.length*k
 | []=>by simp[gC]
 | x::r=>by rw[Fp,xo,hf,Dq hf r,xr,Nat.add_mul];omega
theorem Sn{α:Type}{f:α->List Value}{k:Nat}(hf: ∀x,(f x).length=k): ∀(xs:List α) (j i:Nat) (x:α),xs[j]?=some x->i<k->(gC f xs)[j*k+i]?=(f x)[i]?
 | [],_,_,_,h,_=>by simp at h
 | y::r,0,i,x,h,hi=>by
  simp at h;subst h;rw[Fp,Nat.zero_mul,xv,xj (by rw[hf];exact hi)]
 | y::r,j+1,i,x,h,hi=>by
  rw[Fp,xi (by rw[hf,Nat.add_mul];omega),hf,show(j+1)*k+i - k=j*k+i by rw[Nat.add_mul];omega];exact Sn hf r j i x (by simpa using h) hi
theorem Ud{α:Type}{f:α->List Value}{k:Nat}(hf: ∀x,(f x).length=k)(xs:List α)(i:Nat)(hi:i<=xs.length):gC f (xs.take i)=(gC f xs).take (i*k):=by
 have h:gC f xs=gC f (xs.take i)++gC f (xs.drop i):=by rw[<-DK,xm]
 rw[h,List.take_left' (by rw[Dq hf,xa,Nat.min_eq_left hi])]
theorem Uf{α:Type}{f:α->List Value}{k:Nat}(hf: ∀x,(f x).length=k)(xs:List α)(i:Nat)(hi:i<=xs.length):gC f (xs.drop i)=(gC f xs).drop (i*k):=by
 have h:gC f xs=gC f (xs.take i)++gC f (xs.drop i):=by rw[<-DK,xm]
 rw[h,List.drop_left' (by rw[Dq hf,xa,Nat.min_eq_left hi])]
theorem Hd{α:Type}{f:α->List Value}(w: ∀x,∀u∈f x,u.oneCell'=true)(xs:List α): ∀u∈gC f xs,u.oneCell'=true:=fun u hu=>by
 obtain⟨x,_,hx⟩:=List.mem_flatMap.1 hu;exact w x u hx
theorem Vx{α:Type}{f:α->List Value}{k:Nat}(hf: ∀x,(f x).length=k){xs:List α}{i q:Nat}{x x':α}{u:Value}(hx:xs[i]?=some x)(hq:q<k)(h:f x'=(f x).set q u):(gC f xs).set (i*k+q) u=gC f (xs.set i x'):=by
 obtain⟨hi,w⟩:=xe.1 hx;have e1:xs=xs.take i++x::xs.drop (i+1):=by rw[<-w,<-xu hi,xm]
 have e2:xs.set i x'=xs.take i++x'::xs.drop (i+1):=by rw[List.set_eq_take_append_cons_drop,if_pos hi]
 have hl:(gC f (xs.take i)).length=i*k:=by rw[Dq hf,xa,Nat.min_eq_left (by omega)]
 rw[e2,DK,Fp,h];conv=>lhs;rw[e1,DK,Fp]
 rw[List.set_append_right _ _ (by omega),hl,show i*k+q - i*k=q by omega,List.set_append_left _ _ (by rw[hf];exact hq)]
def Rd{α:Type}(f:α->List Value)(B:Nat)(w:World)(ao:Option Addr)(xs:List α):Prop:=xs=[]∨ ∃b o,ao=some ⟨b,o,none⟩/\b<B/\ ∀(j:Nat) (u:Value),(gC f xs)[j]?=some u->w.cell? ⟨b,o+j,none⟩=some u
theorem Rd.below{α:Type}{f:α->List Value}{B:Nat}{w w':World}{ao:Option Addr}{xs:List α}(h:Rd f B w ao xs)(A:Below B w w'):Rd f B w' ao xs:=by
 rcases h with h | ⟨b,o,ha,hb,hc⟩
 ·exact .inl h
 ·exact .inr ⟨b,o,ha,hb,fun j u hj=>(A.cell (p:=⟨b,o+j,none⟩) hb).trans (hc j u hj)⟩
theorem Rd.mono{α:Type}{f:α->List Value}{B A:Nat}{w:World}{ao:Option Addr}{xs:List α}(h:Rd f B w ao xs)(D:B<=A):Rd f A w ao xs:=by
 rcases h with h | ⟨b,o,ha,hb,hc⟩
 ·exact .inl h
 ·exact .inr ⟨b,o,ha,by omega,hc⟩
theorem Rd.get{α:Type}{f:α->List Value}{k:Nat}(hf: ∀x,(f x).length=k){B:Nat}{w:World}{ao:Option Addr}{xs:List α}(h:Rd f B w ao xs){j:Nat}{x:α}(hx:xs[j]?=some x): ∃b o,ao=some ⟨b,o,none⟩/\b<B/\ ∀i u,i<k->(f x)[i]?=some u->w.cell? ⟨b,o+j*k+i,none⟩=some u:=by
 rcases h with h | ⟨b,o,ha,hb,hc⟩
 ·rw[h]at hx;simp at hx
 ·exact⟨b,o,ha,hb,fun i u hi hu=>by rw[Nat.add_assoc];exact hc _ u (by rw[Sn hf xs j i x hx hi];exact hu)⟩
def Rw{α:Type}(f:α->List Value)(k:Nat)(e:TypeId)(lo:Nat)(w:World)(v:Value)(xs:List α):Prop:=w.ownsRow lo e k v xs.length (gC f xs)
theorem Rw.nil{α:Type}(f:α->List Value)(k:Nat)(e:TypeId)(lo:Nat)(w:World):Rw f k e lo w (jd none 0 0) ([]:List α):=xx _ _ _ _
theorem Rw.form{α:Type}{f:α->List Value}{k:Nat}{e:TypeId}{lo:Nat}{w:World}{v:Value}{xs:List α}(h:Rw f k e lo w v xs): ∃ao c,v=jd ao xs.length c/\(ao=none->c=0)/\Rd f w.heap.size w ao xs:=by
 rcases(show w.ownsRow lo e k v xs.length (gC f xs)from h).2 with⟨hv,h0⟩ | ⟨g,cap,cur,hv,r2,r3,r4,r5,_⟩
 ·have hx:xs=[]:=xg h0;subst hx;exact⟨none,0,hv,fun _=>rfl,.inl rfl⟩
 ·refine⟨_,cap,hv,fun q=>(by cases q),.inr ⟨g,0,rfl,(xd.1 r3).1,fun j u hj=>?_⟩⟩;have:=xk h (g:=g) (by rw[hv];rfl) j u hj;rw[Addr.add_lit]at this;exact this
theorem Rw.mono{α:Type}{f:α->List Value}{k:Nat}{e:TypeId}{lo lo':Nat}{w:World}{v:Value}{xs:List α}(h:Rw f k e lo w v xs)(hl:lo'<=lo):Rw f k e lo' w v xs:=Ab h hl
theorem Rw.snoc{α:Type}{f:α->List Value}{k:Nat}{e:TypeId}{lo:Nat}{w:World}{v:Value}{xs:List α}{x:α}(h:w.ownsRow lo e k v (xs.length+1) (gC f xs++f x)):Rw f k e lo w v (xs++[x]):=by
 unfold Rw;rw[Ue,xo];exact h
theorem Rw.set{α:Type}{f:α->List Value}{k:Nat}{e:TypeId}{lo:Nat}{w:World}{v:Value}{xs:List α}(h:Rw f k e lo w v xs){g:Nat}{cs:Array Value}{ty:TypeId}(hg:Af g cs ty w)(A:ty≠e)(i:Nat)(u:Value):Rw f k e lo (w.setCell ⟨g,i,none⟩ u) v xs:=A7 h hg A i u
theorem Rw.made{α:Type}{f:α->List Value}{k:Nat}{e:TypeId}{lo:Nat}{w w':World}{v:Value}{xs:List α}(h:Rw f k e lo w v xs)(hb:Below w.heap.size w w'):Rw f k e lo w' v xs:=Ay h hb
theorem Rw.put{α:Type}{f:α->List Value}{k:Nat}(hf: ∀x,(f x).length=k){e:TypeId}{lo g c:Nat}{w:World}{xs:List α}(h:Rw f k e lo w (jd (some ⟨g,0,none⟩) xs.length c) xs){i q:Nat}{x x':α}{u:Value}(hx:xs[i]?=some x)(hq:q<k)(hu:f x'=(f x).set q u):
  Rw f k e lo (w.setCell ⟨g,i*k+q,none⟩ u) (jd (some ⟨g,0,none⟩) xs.length c) (xs.set i x')/\w.grownBy (w.setCell ⟨g,i*k+q,none⟩ u) (some g):=by
 have A:=World.ownsRow.stored h (i*k+q) u;refine⟨?_,A.2⟩;unfold Rw;rw[List.length_set,<-Vx hf hx hq hu];exact A.1
/-! ### The elements of worlds -/
def BI(m:Hl):List Value:=[ja jb m.rd,je m.ans,ja jb m.tag,jc m.body]
theorem AV(m:Hl):(BI m).length=4:=rfl
theorem I7: ∀m:Hl,∀u∈BI m,u.oneCell'=true:=fun m u hu=>by
 simp only[BI,xf,xq,or_false]at hu;rcases hu with rfl | rfl | rfl | rfl<;>rfl
def BM(m:Bt):List Value:=[ja jb m.rd,ja jb m.nt.kind,jc m.nt.uid,ja jb m.nt.seq]
theorem DQ(m:Bt):(BM m).length=4:=rfl
theorem ET: ∀m:Bt,∀u∈BM m,u.oneCell'=true:=fun m u hu=>by
 simp only[BM,xf,xq,or_false]at hu;rcases hu with rfl | rfl | rfl | rfl<;>rfl
structure BZ where
 v:Int
 tag:Int
 ao:Option Addr
 c:Nat
 ts:List (Ev × Value × Value)
def BZ.r(x:BZ):Ti:=⟨x.v,x.tag,x.ts.map (·.1)⟩
def NB(x:BZ):List Value:=[ja jb x.v,ja jb x.tag,jd x.ao x.ts.length x.c]
theorem Cs(m:BZ):(NB m).length=3:=rfl
theorem TD: ∀m:BZ,∀u∈NB m,u.oneCell'=true:=fun m u hu=>by
 simp only[NB,xf,xq,or_false]at hu;rcases hu with rfl | rfl | rfl<;>rfl
theorem Lt:(Tryz.prog.info? 107).map (fun i=>(i.zero,i.size,i.bytes))=some (some (.agg #[ja jb 0,je false,ja jb 0,jc ⟨#[]⟩]),4,40):=by kernel_rfl
theorem O6:(Tryz.prog.info? 47).map (fun i=>(i.zero,i.size,i.bytes))=some (some (.agg #[ja jb 0,ja jb 0,jd none 0 0]),3,40):=by kernel_rfl
theorem ID:(Tryz.prog.info? 56).map (fun i=>(i.zero,i.size,i.bytes))=some (some (.agg #[ja jb 0,ja jb 0,jc ⟨#[]⟩,ja jb 0]),4,40):=by kernel_rfl
theorem T4:(Tryz.prog.info? 33).map (fun i=>(i.zero,i.size,i.bytes))=some (some (ja jb 0),1,8):=by kernel_rfl
structure JV (B:Nat) (w:World) (ao:Option Addr) (xs:List BZ):Prop where
 row:Rd NB B w ao xs
 seg: ∀x∈xs,Fv B w x.ao x.ts
theorem JV.below{B:Nat}{w w':World}{ao:Option Addr}{xs:List BZ}(h:JV B w ao xs)(A:Below B w w'):JV B w' ao xs:=⟨h.row.below A,fun x hx=>(h.seg x hx).below A⟩
theorem JV.mono{B A:Nat}{w:World}{ao:Option Addr}{xs:List BZ}(h:JV B w ao xs)(D:B<=A):JV A w ao xs:=⟨h.row.mono D,fun x hx=>(h.seg x hx).mono D⟩
structure Pr (B:Nat) (w:World) (W:A3) (aw:Option Addr) (cw:Nat) (ar:Option Addr) (cr:Nat) (xs:List BZ):Prop where
 way:Rd BI B w aw W.way
 wnil:aw=none->cw=0
 rds:JV B w ar xs
 rnil:ar=none->cr=0
 rmap:xs.map BZ.r=W.rds
theorem Pr.below{B:Nat}{w w':World}{W:A3}{A F:Option Addr}{G E:Nat}{xs:List BZ}(h:Pr B w W A G F E xs)(D:Below B w w'):Pr B w' W A G F E xs:=⟨h.way.below D,h.wnil,h.rds.below D,h.rnil,h.rmap⟩
theorem Pr.mono{B D:Nat}{w:World}{W:A3}{A F:Option Addr}{H E:Nat}{xs:List BZ}(h:Pr B w W A H F E xs)(G:B<=D):Pr D w W A H F E xs:=⟨h.way.mono G,h.wnil,h.rds.mono G,h.rnil,h.rmap⟩
structure Bi (b lo:Nat) (w:World) (W:A3) (ns:List Bt) (vw vr vn:Value) (xs:List BZ):Prop where
 box:Af b #[jc W.zone,jc W.cur,vw,vr,vn] 85 w
 ge:lo<=b
 way:Rw BI 4 107 lo w vw W.way
 rds:Rw NB 3 47 lo w vr xs
 nts:Rw BM 4 56 lo w vn ns
 evs: ∀x∈xs,Av lo w (jd x.ao x.ts.length x.c) x.ts
 rmap:xs.map BZ.r=W.rds
theorem Bi.made{b lo:Nat}{w w':World}{W:A3}{E:List Bt}{vw A D:Value}{xs:List BZ}(h:Bi b lo w W E vw A D xs)(hb:Below w.heap.size w w'):Bi b lo w' W E vw A D xs:=
 ⟨h.box.below hb h.box.lt,h.ge,h.way.made hb,h.rds.made hb,h.nts.made hb,fun x hx=>(h.evs x hx).made hb,h.rmap⟩
theorem Bi.boxed{b lo:Nat}{w:World}{W W':A3}{E:List Bt}{vw D A:Value}{xs:List BZ}(h:Bi b lo w W E vw D A xs)(i:Nat)(u:Value)(hz:#[Value.string W.zone,jc W.cur,vw,D,A].setIfInBounds i u=#[jc W'.zone,jc W'.cur,vw,D,A])(F:W'.way=W.way)(hr:W'.rds=W.rds):Bi b lo (w.setCell ⟨b,i,none⟩ u) W' E vw D A xs:=
 ⟨by rw[<-hz];exact h.box.set i u,h.ge,by rw[F];exact h.way.set h.box (by decide) i u,h.rds.set h.box (by decide) i u,h.nts.set h.box (by decide) i u,fun x hx=>(h.evs x hx).set h.box (by decide) (by decide) i u,by rw[hr];exact h.rmap⟩
def Eo(c:Int):Int:=if bits .and .u32 c 1=1 then bits .xor .u32 (c / 2) 3988292384 else c / 2
def En:Nat->Int->Int
 | 0,c=>c
 | n+1,c=>En n (Eo c)
def Nl:List UInt8->Int->Int
 | [],c=>c
 | x::r,c=>Nl r (En 8 (bits .xor .u32 c ((x.toNat:Int) % 4294967296)))
def PA(l:List UInt8):Int:=bits .xor .u32 4294967295 (Nl l 4294967295)
theorem Fc(w:BinOp)(x y:Int):0<=bits w .u32 x y/\bits w .u32 x y<4294967296:=by
 unfold bits;simp only[IntKind.wrap];have h: ∀n:Int,0<=n % 4294967296/\n % 4294967296<4294967296:=fun n=>⟨Int.emod_nonneg _ (by decide),Int.emod_lt_of_pos _ (by decide)⟩
 exact h _
theorem EI(l:List UInt8):0<=PA l/\PA l<4294967296:=Fc _ _ _
theorem Oy{c:Int}(A:0<=c)(w:c<4294967296):0<=Eo c/\Eo c<4294967296:=by
 unfold Eo;split
 ·exact Fc _ _ _
 ·omega
set_option maxHeartbeats 4000000 in
set_option maxRecDepth 100000 in
theorem UR(l:List UInt8)(b n c:Nat)(w:World)(hn:l.length=n)(hc: ∀j x,l[j]?=some x->w.cell? ⟨b,j,none⟩=some (.int .u8 (x.toNat:Int)))(hl:n<=4611686018427387903):
  Calls Tryz.prog 81 #[jd (some ⟨b,0,none⟩) n c] w fun e w'=>e=jh (ja jb (PA l))/\w'=w:=by
 have HC:=Lh hc;have Y:=Lh hn;clear hc hn;go_enter Tryz.func81,Tryz.ntmps81;go_wp2_with fail;go_loopw [3,9] (fun T D wr=> ∃(k:Nat) (c:Int),T=.int .u32 c/\D=ja jb k/\k<=n/\0<=c/\c<4294967296/\Hid (Nl (l.drop k) c=Nl l 4294967295)/\wr=w) (fun _ D _=>n - (intOf D).toNat)
 case atStart=>exact⟨0,_,rfl,rfl,Nat.zero_le _,by decide,by decide,Lh (by rw[List.drop_zero]),rfl⟩
 case round=>
  obtain⟨k,c,rfl,rfl,hk,ac,ae,hg,rfl⟩:=hrel;by_cases U:k<n
  ·have J:(k:Int)<n:=by omega
   obtain⟨x,hx⟩: ∃x,l[k]?=some x:=⟨_,List.getElem?_eq_getElem (by rw[Y.o];exact U)⟩
   have ab:=HC.o k x hx;have HX:=Lh (show l.drop k=x::l.drop (k+1)from by obtain⟨h1,Z⟩:=xe.1 hx;rw[<-Z,xu]);clear hx;go_wp2_with fail;obtain⟨C,F⟩: ∃C,C=bits .xor .u32 c ((x.toNat:Int) % 4294967296):=⟨_,rfl⟩
   have M:0<=C:=by rw[F];exact(Fc _ _ _).1
   have O:C<4294967296:=by rw[F];exact(Fc _ _ _).2
   have R:=Lh F;rw[<-F];clear F;go_loopw [3,17] (fun T D wx=> ∃(j:Nat) (d:Int),T=.int .u32 d/\D=ja jb j/\j<=8/\0<=d/\d<4294967296/\Hid (En (8 - j) d=En 8 C)/\wx=wr) (fun _ D _=>8 - (intOf D).toNat)
   case atStart=>exact⟨0,C,rfl,rfl,by decide,M,O,Lh rfl,rfl⟩
   case round=>
    obtain⟨j,d,rfl,rfl,hj,G,H,E,rfl⟩:=hrel;by_cases aa:j<8
    ·have V:(j:Int)<8:=by omega
     have A:=Lh (show En (8 - (j+1)) (Eo d)=En 8 C from by rw[<-E.o,show 8 - j=(8 - (j+1))+1 by omega];rfl);have hr:=Oy G H;by_cases hb:bits .and .u32 d 1=1
     ·have X:=Lh (show Eo d=bits .xor .u32 (d / 2) 3988292384 from if_pos hb);go_wp2_with fail;go_roundw
      case rel=>exact⟨j+1,Eo d,by rw[X.o],by go_num,by omega,hr.1,hr.2,A,trivial⟩
      case measure=>simp[intOf];omega
     ·have X:=Lh (show Eo d=d / 2 from if_neg hb);go_wp2_with fail;go_roundw
      case rel=>exact⟨j+1,Eo d,by rw[X.o],by go_num,by omega,hr.1,hr.2,A,trivial⟩
      case measure=>simp[intOf];omega
    ·have V: ¬(j:Int)<8:=by omega
     have A:=Lh (show d=En 8 C from by rw[<-E.o,show 8 - j=0 by omega];rfl);go_wp2_with fail;go_roundw
     case rel=>exact⟨k+1,d,rfl,by go_num,by omega,G,H,Lh (by rw[A.o,R.o,<-hg.o,HX.o];rfl),trivial⟩
     case measure=>simp[intOf];omega
  ·have J: ¬(k:Int)<n:=by omega
   have HF:=Lh (show Nl l 4294967295=c from by rw[<-hg.o,List.drop_of_length_le (by rw[Y.o];omega)];rfl);go_wp2_with fail;go_ret;have hw:wrap64 (bits .xor .u32 4294967295 c)=bits .xor .u32 4294967295 c:=by have:=Fc .xor 4294967295 c;unfold wrap64;omega
   exact⟨by show Ending.returned (ja jb (wrap64 (bits .xor .u32 4294967295 c)))=_;unfold PA;rw[HF.o,hw],rfl⟩
