/- slices.SortFunc at events, by their identifiers: the kit's contract laid at this dump. feed.Make: the feed of a timetable's versions. -/
import Derived.Test.YtageielcdebjlaaGreatDoorPk18
import Derived.Test.YtageielcdebjlaaGreatDoorPk1
import Derived.Shelf.SlSortCmp.NoneTotal
import Derived.Test.YtageielcdebjlaaGreatDoorPk10
import Derived.Test.YtageielcdebjlaaGreatDoorPk17
import Derived.Test.YtageielcdebjlaaGreatDoorPk5
set_option maxRecDepth 100000
set_option maxHeartbeats 40000000
namespace Go.Proofs
open Go.Shelf
def Tryz.sortE_ren : Go.Shelf.Ren:=⟨fun | 6 => 128 | 15 => 158 | 14 => 200 | 28 => 229 | 29 => 230 | 20 => 271 | 21 => 272 | 22 => 273 | 23 => 274 | 24 => 275 | 25 => 276 | 26 => 277 | 27 => 278 | 46 => 323 | 47 => 324 | 48 => 325 | 49 => 326 | 50 => 327 | 57 => 346 | n => n,fun | 22 => 22 | 24 => 82 | 25 => 132 | 3 => 3 | 39 => 185 | 0 => 0 | 53 => 243 | 55 => 245 | 4 => 4 | 46 => 273 | 45 => 272 | 50 => 129 | 5 => 5 | 9 => 9 | 66 => 306 | 70 => 292 | 76 => 327 | 77 => 317 | n => n,fun | n => n⟩
theorem Tryz.sortE : Go.Proofs.SlLaysF0.n6 Tryz.prog Tryz.sortE_ren:={
 mixed:=by kernel_rfl
 f6:=⟨Tryz.f128.name,by decide,Tryz.func128.trans (congrArg some (by kernel_rfl))⟩
 f14:=⟨Tryz.f200.name,by decide,Tryz.func200.trans (congrArg some (by kernel_rfl))⟩
 f15:=Tryz.func158.trans (congrArg some (by kernel_rfl))
 f20:=⟨Tryz.f271.name,by decide,Tryz.func271.trans (congrArg some (by kernel_rfl))⟩
 f21:=⟨Tryz.f272.name,by decide,Tryz.func272.trans (congrArg some (by kernel_rfl))⟩
 f22:=⟨Tryz.f273.name,by decide,Tryz.func273.trans (congrArg some (by kernel_rfl))⟩
 f23:=⟨Tryz.f274.name,by decide,Tryz.func274.trans (congrArg some (by kernel_rfl))⟩
 f24:=⟨Tryz.f275.name,by decide,Tryz.func275.trans (congrArg some (by kernel_rfl))⟩
 f25:=⟨Tryz.f276.name,by decide,Tryz.func276.trans (congrArg some (by kernel_rfl))⟩
 f26:=⟨Tryz.f277.name,by decide,Tryz.func277.trans (congrArg some (by kernel_rfl))⟩
 f27:=⟨Tryz.f278.name,by decide,Tryz.func278.trans (congrArg some (by kernel_rfl))⟩
 f28:=Tryz.func229.trans (congrArg some (by kernel_rfl))
 f29:=Tryz.func230.trans (congrArg some (by kernel_rfl))
 f46:=⟨Tryz.f323.name,by decide,Tryz.func323.trans (congrArg some (by kernel_rfl))⟩
 f47:=Tryz.func324.trans (congrArg some (by kernel_rfl))
 f48:=Tryz.func325.trans (congrArg some (by kernel_rfl))
 f49:=⟨Tryz.f326.name,by decide,Tryz.func326.trans (congrArg some (by kernel_rfl))⟩
 f50:=⟨Tryz.f327.name,by decide,Tryz.func327.trans (congrArg some (by kernel_rfl))⟩
 f57:=⟨Tryz.f346.name,by decide,Tryz.func346.trans (congrArg some (by kernel_rfl))⟩
 t0:=Tryz.underlying0
 a0:=Tryz.isAgg0
 z0:=Tryz.sizeOf0
 v0:=Tryz.zeroValue0
 t3:=Tryz.underlying3
 a3:=Tryz.isAgg3
 z3:=Tryz.sizeOf3
 v3:=Tryz.zeroValue3
 t4:=Tryz.underlying4
 a4:=Tryz.isAgg4
 z4:=Tryz.sizeOf4
 v4:=Tryz.zeroValue4
 t5:=Tryz.underlying5
 a5:=Tryz.isAgg5
 z5:=Tryz.sizeOf5
 v5:=Tryz.zeroValue5
 t9:=Tryz.underlying9
 a9:=Tryz.isAgg9
 z9:=Tryz.sizeOf9
 v9:=Tryz.zeroValue9
 t22:=Tryz.underlying22
 a22:=Tryz.isAgg22
 z22:=Tryz.sizeOf22
 v22:=Tryz.zeroValue22
 t25:=Tryz.underlying132
 a25:=Tryz.isAgg132
 z25:=Tryz.sizeOf132
 v25:=Tryz.zeroValue132
 t39:=Tryz.underlying185
 a39:=Tryz.isAgg185
 z39:=Tryz.sizeOf185
 v39:=Tryz.zeroValue185
 t45:=Tryz.underlying272
 a45:=Tryz.isAgg272
 z45:=Tryz.sizeOf272
 v45:=Tryz.zeroValue272
 t46:=Tryz.underlying273
 a46:=Tryz.isAgg273
 z46:=Tryz.sizeOf273
 v46:=Tryz.zeroValue273
 t50:=Tryz.underlying129
 a50:=Tryz.isAgg129
 z50:=Tryz.sizeOf129
 v50:=Tryz.zeroValue129
 t53:=Tryz.underlying243
 a53:=Tryz.isAgg243
 z53:=Tryz.sizeOf243
 v53:=Tryz.zeroValue243
 t55:=Tryz.underlying245
 a55:=Tryz.isAgg245
 z55:=Tryz.sizeOf245
 v55:=Tryz.zeroValue245
 t66:=Tryz.underlying306
 a66:=Tryz.isAgg306
 z66:=Tryz.sizeOf306
 v66:=Tryz.zeroValue306
 t70:=Tryz.underlying292
 a70:=Tryz.isAgg292
 z70:=Tryz.sizeOf292
 v70:=Tryz.zeroValue292
 t76:=Tryz.underlying327
 a76:=Tryz.isAgg327
 z76:=Tryz.sizeOf327
 v76:=Tryz.zeroValue327
 t77:=Tryz.underlying317
 a77:=Tryz.isAgg317
 z77:=Tryz.sizeOf317
 v77:=Tryz.zeroValue317 }
end Go.Proofs
namespace Go.Proofs.YtageielcdebjlaaGreatDoor
open Go.RowKit Go.Sort Go.Shelf
/-! ### A row of values, cells laid anew -/
theorem holds_blockV {w : World} {g : Nat} {cur F : Array Value} {e : TypeId} (hb : w.heap[g]? = some (.cells cur e (0,0))) (ht : cur.toList.take F.size = F.toList) : Holds id w g 0 F:=by
 intro j hj;refine ⟨?_,by simp [World.frozen?,hb]⟩;have h1 : (cur.toList.take F.size)[j]? = F.toList[j]?:=by rw [ht]
 rw [List.getElem?_take_of_lt hj] at h1;simp only [World.cell?,hb,Nat.zero_add];simp only [Option.isSome_none,Bool.false_eq_true,if_false];rw [<- Array.getElem?_toList,h1];simp [hj]
theorem heap_sortedV {w : World} {g n : Nat} {os : Array Obj} {cur : Array Value} {e : TypeId} {fr : Nat × Nat} (F : Array Value) (hb : w.heap[g]? = some (.cells cur e fr)) :
  (grow (putRow id (Sort.ahead w n) g 0 F) os).heap[g]? = some (.cells (putCells id 0 F cur) e fr):=by
 have hg : g < w.heap.size:=(Array.getElem?_eq_some_iff.1 hb).1;rw [heap_grow_old _ _ (by simpa using hg)];simp [putRow,mapBlock,Sort.ahead,Array.getElem?_modify,hb,onCells]
theorem grownBy_sortedV {w : World} {g n : Nat} {os : Array Obj} (F : Array Value) : w.grownBy (grow (putRow id (Sort.ahead w n) g 0 F) os) (some g):=by
 refine ⟨rfl,rfl,rfl,by simp,fun k hk hne => ?_⟩;rw [heap_grow_old _ _ (by simpa using hk)];have : g ≠ k:=fun e => hne (by rw [e])
 simp [putRow,mapBlock,Sort.ahead,Array.getElem?_modify,this]
theorem take_putCellsV (cur F : Array Value) (h : F.size <= cur.size) : (putCells id 0 F cur).toList.take F.size = F.toList:=by
 apply List.ext_getElem?
 intro j;by_cases hj : j < F.size
 ·rw [List.getElem?_take_of_lt hj,Array.getElem?_toList];simp [putCells,hj,show j < cur.size by omega]
 ·rw [List.getElem?_take_eq_none (by omega),List.getElem?_eq_none (by simp;omega)]
/-! ### Events as cells -/
def fixV : Value -> Value
 | .slice p n c => .slice p n c
 | _ => .slice none 0 0
theorem fixV_form (v : Value) : ∃ p n c,fixV v = .slice p n c:=by
 cases v <;> exact ⟨_,_,_,rfl⟩
def fixT (t : Tri) : Tri:=(t.1,fixV t.2.1,fixV t.2.2)
def encT (t : Tri) : List Value:=(evCells t.1 (fixV t.2.1) (fixV t.2.2)).toList
theorem encT_len (t : Tri) : (encT t).length = 13:=rfl
theorem encT_one (t : Tri) : ∀ v ∈ encT t,v.oneCell' = true:=by
 obtain ⟨p,n,c,e1⟩:=fixV_form t.2.1;obtain ⟨q,m,d,e2⟩:=fixV_form t.2.2;unfold encT;rw [e1,e2];intro v hv;simp only [evCells,List.mem_cons,List.not_mem_nil,or_false] at hv;rcases hv with rfl | rfl | rfl | rfl | rfl | rfl | rfl | rfl | rfl | rfl | rfl | rfl | rfl <;> rfl
theorem fixT_ref {lo : Nat} {w : World} {t : Tri} (h : RefT lo w t) : fixT t = t:=by
 obtain ⟨_,hx,hy⟩:=h;obtain ⟨ax,cx,e1,_⟩:=hx.ints;obtain ⟨ay,cy,e2,_⟩:=hy.ints;obtain ⟨e,v,v'⟩:=t;simp only at e1 e2;subst e1 e2;rfl
theorem fixT_all {lo : Nat} {w : World} {ts : List Tri} (h : ∀ t ∈ ts,RefT lo w t) : ts.map fixT = ts:=by
 refine (List.map_congr_left (fun t ht => fixT_ref (h t ht))).trans (List.map_id _)
theorem flat_cells [Inhabited Tri] (d : Array Tri) : (flatK encT 13 d).toList = tCells (d.toList.map fixT):=by
 apply List.ext_getElem?
 intro t;by_cases ht : t < d.size * 13
 ·have hd : t / 13 < d.size:=by omega
  have h1:=tCells_get (d.toList.map fixT) (t / 13) (t % 13) (fixT d[t / 13]!) (by simp [hd]) (by omega);rw [show t / 13 * 13 + t % 13 = t by omega] at h1;rw [h1,Array.getElem?_toList];have h2:=get_flatK encT 13 d t ht;rw [Array.getElem?_eq_getElem (by simpa using ht)];rw [getElem!_pos _ t (by simpa using ht)] at h2;rw [h2];have h3 : t % 13 < (encT d[t / 13]!).length:=by rw [encT_len];omega
  rw [getElem!_pos _ (t % 13) h3];exact (List.getElem?_eq_getElem h3).symm
 ·rw [List.getElem?_eq_none (by simp;omega),List.getElem?_eq_none (by rw [tCells_len];simp;omega)]
def cmpT (x y : Tri) : Int:=Lib.compareBytes x.1.uid.data.toList y.1.uid.data.toList
theorem ltT (x y : Tri) : ltOf cmpT x y = lessU x.1.uid y.1.uid:=by
 unfold ltOf;rw [Bool.eq_iff_iff,decide_eq_true_eq];exact cmpU_less _ _
theorem swoT : SWO (ltOf cmpT) where
 irrefl x:=by rw [ltT];exact lessU_irrefl _
 trans x y z h1 h2:=by rw [ltT] at *;exact lessU_trans h1 h2
 ntrans x y z h1 h2:=by
  rw [ltT] at *;by_cases e1 : x.1.uid = y.1.uid
  ·rw [e1];exact h2
  ·by_cases e2 : y.1.uid = z.1.uid
   ·rw [<- e2];exact h1
   ·have k1:=less_total (by simpa using h1) e1;have k2:=less_total (by simpa using h2) e2;cases h : lessU x.1.uid z.1.uid with
    | false => rfl
    | true =>
     have:=lessU_trans (lessU_trans h k2) k1;rw [lessU_irrefl] at this;cases this
theorem enc_arr (t : Tri) (p q : Option Addr) (n c m d : Nat) (e1 : fixV t.2.1 = .slice p n c) (e2 : fixV t.2.2 = .slice q m d) : (encT t).toArray = #[.string t.1.uid,.int .i64 t.1.seq,.bool t.1.canc,.int .i64 t.1.days.first,.int .i64 t.1.days.last,.int .i64 t.1.days.every,.int .i64 t.1.days.wd,.slice p n c,.slice q m d,.int .i64 t.1.start,.int .i64 t.1.mins,.string t.1.summ,.string t.1.loc]:=by
 unfold encT;rw [e1,e2];rfl
theorem cmpLays [Inhabited Tri] (blk off size : Nat) (w : World) : CmpLays Tryz.prog 129 #[] encT 13 cmpT blk off size w:=by
 intro m os dk _ x y;obtain ⟨p,n,c,e1⟩:=fixV_form x.2.1;obtain ⟨p2,n2,c2,e2⟩:=fixV_form x.2.2;obtain ⟨q,m1,d,e3⟩:=fixV_form y.2.1;obtain ⟨q2,m2,d2,e4⟩:=fixV_form y.2.2;rw [enc_arr x _ _ _ _ _ _ e1 e2,enc_arr y _ _ _ _ _ _ e3 e4];exact less129 x.1 y.1 p p2 q q2 n n2 m1 m2 c c2 d d2 _
theorem asc_of {lo : Nat} {d : Array Tri} [Inhabited Tri] (ho : d.toList.Pairwise (fun a c => a.1.uid ≠ c.1.uid)) (hs : SortedIn (ltOf cmpT) lo d.size d) (hl : lo = 0) : AscU (d.toList.map (·.1)):=by
 subst hl;unfold AscU;rw [List.pairwise_map,List.pairwise_iff_getElem];intro i j hi hj hij;have h1:=hs i j (Nat.zero_le _) hij (by simpa using hj);rw [getElem!_pos d i (by simpa using hi),getElem!_pos d j (by simpa using hj),ltT] at h1;have h2:=(List.pairwise_iff_getElem.1 ho) i j hi hj hij;simp only [Array.getElem_toList] at h2 ⊢;exact less_total (by simpa using h1) (Ne.symm h2)
theorem perm_of {d d' : Array Tri} [Inhabited Tri] (h : PermIn 0 d.size d d') : d'.toList.Perm d.toList:=by
 obtain ⟨h1,_,h2⟩:=h;have e1 : d'.extract 0 d.size = d':=by rw [<- h1];simp
 have e2 : d.extract 0 d.size = d:=by simp
 rwa [e1,e2] at h2
theorem sort128 {lo B : Nat} {w : World} {v : Value} {ts : List Tri} (h : w.ownsRow B 82 13 v ts.length (tCells ts)) (href : ∀ t ∈ ts,RefT lo w t) (ho : ts.Pairwise (fun a c => a.1.uid ≠ c.1.uid)) (hn : ts.length <= 1000000) :
  Calls Tryz.prog 128 #[v,.func (.func 129) #[] #[]] w fun e w' => e = .returned (.tuple #[]) /\ (∃ ts',w'.ownsRow B 82 13 v ts'.length (tCells ts') /\ (∀ t ∈ ts',RefT lo w' t) /\ ts'.Perm ts /\ AscU (ts'.map (·.1))) /\ w.grownBy w' v.ownBlock:=by
 letI : Inhabited Tri:=⟨zeroT⟩
 have hk:=h;obtain ⟨hlen,hr⟩:=h;rcases hr with ⟨rfl,h0⟩ | ⟨g,cap,cur,rfl,hlo,hb,hc1,hc2,hc3,htk⟩
 ·have e0 : ts = []:=List.eq_nil_of_length_eq_zero h0;subst e0;refine (AnyF.slices_SortFunc_none Tryz.sortE none 0 _ w).mono ?_;rintro e w' ⟨rfl,rfl⟩;exact ⟨rfl,⟨[],hk,href,List.Perm.refl _,List.Pairwise.nil⟩,World.grownBy.refl _ _⟩
 ·have hF : (flatK encT 13 ts.toArray).toList = tCells ts:=by rw [flat_cells,List.toList_toArray,fixT_all href]
  have hsz : (flatK encT 13 ts.toArray).size = ts.length * 13:=by simp
  have hH : HoldsK encT 13 w g 0 ts.toArray:=holds_blockV hb (by rw [hsz,hF];exact htk);have hg : g < w.heap.size:=(Array.getElem?_eq_some_iff.1 hb).1;have hcon:=AnyQ.slices_SortFunc Tryz.sortE 13 (fun w => Tryz.isAgg82 w) (fun w => Tryz.sizeOf82 w) encT encT_len encT_one cmpT swoT 129 #[] g 0 cap ts.toArray w (enters_of Tryz.func129 (by kernel_rfl) rfl) (cmpLays _ _ _ _) hH hg (by simp;omega);refine hcon.mono ?_;rintro e w' ⟨rfl,d',n,os,hp,hs,rfl⟩;have hP:=perm_of hp;rw [List.toList_toArray] at hP;have hd : d'.size = ts.length:=by rw [hp.1];simp
  have hO : d'.toList.Pairwise (fun a c => a.1.uid ≠ c.1.uid):=(hP.pairwise_iff (fun {_ _} hne => Ne.symm hne)).2 ho;have hA:=asc_of hO (by rw [hd];simpa using hs) rfl;have hG : w.grownBy (sortWorldK encT 13 w g 0 n d' os) (some g):=grownBy_sortedV _;have hmem : ∀ t ∈ d'.toList,RefT lo w t:=fun t ht => href t (hP.mem_iff.1 ht)
  have hF' : (flatK encT 13 d').toList = tCells d'.toList:=by rw [flat_cells,fixT_all hmem]
  have hsz' : (flatK encT 13 d').size = ts.length * 13:=by simp [hd]
  have hl' : d'.toList.length = ts.length:=by simpa using hd
  refine ⟨rfl,⟨d'.toList,?_,fun t ht => (hmem t ht).grown hk hG,hP,hA⟩,hG⟩;rw [hl'];refine ⟨by rw [tCells_len,hl'],.inr ⟨g,cap,_,rfl,hlo,heap_sortedV _ hb,hc1,hc2,by simp [putCells,hc3],?_⟩⟩;have:=take_putCellsV cur (flatK encT 13 d') (by rw [hsz',hc3];exact Nat.mul_le_mul_right 13 hc1);rw [hsz',hF'] at this;exact this
open Go.RowKit Go.Maps
theorem mak63 (g : Tt.Grd) (t : Tt.Trm) (ao : Option Addr) (c : Nat) (nm : ByteArray) (ls : List (List Ses)) (pl : Option Addr) (cl : Nat) (w : World) (hI : Ints w.heap.size w ao t.hols) (hn : t.hols.length <= 4611686018427387903) (hS : LstAt w.heap.size w pl ls) (hll : ls.length <= 4611686018427387903) (hTz : Tz w) (hP : Pow w) (h6 : 6 < w.heap.size) :
    Calls Tryz.prog 63 #[.agg #[.int .i64 g.days,.int .i64 g.slots,.int .i64 g.begin_,.int .i64 g.mins],.agg #[.int .i64 t.first,.int .i64 t.weeks,.slice ao t.hols.length c],.string nm,.slice pl ls.length cl] w fun e w' => MakR g t nm ls w.heap.size e w' /\ Below w.heap.size w w':=by
  obtain ⟨G,hG⟩ : ∃ x,x = w.heap.size:=⟨_,rfl⟩
  obtain ⟨T,hT⟩ : ∃ x,x = w.heap.size + 1:=⟨_,rfl⟩
  obtain ⟨R,hR⟩ : ∃ x,x = w.heap.size + 1 + 1:=⟨_,rfl⟩
  obtain ⟨w0,hw0⟩ : ∃ x,x = ((w.alloc (.cells #[.int .i64 g.days,.int .i64 g.slots,.int .i64 g.begin_,.int .i64 g.mins] 90)).alloc (.cells #[.int .i64 t.first,.int .i64 t.weeks,.slice ao t.hols.length c] 93)).alloc (.cells #[.string ⟨#[]⟩,.int .i64 0,.slice none 0 0] 26):=⟨_,rfl⟩
  have HL0:=Lh (show Below w.heap.size w w0 from by rw [hw0];exact (below_box w _).trans (((below_box _ _).mono (by simp)).trans ((below_box _ _).mono (by simp;omega))));have HG0:=Lh (show Blk G #[.int .i64 g.days,.int .i64 g.slots,.int .i64 g.begin_,.int .i64 g.mins] 90 w0 from by rw [hw0,hG];exact ((Blk.new w _ _).alloc _).alloc _);have HT0:=Lh (show Blk T #[.int .i64 t.first,.int .i64 t.weeks,.slice ao t.hols.length c] 93 w0 from by rw [hw0,hT];exact (Blk.new' _ _ _ (by simp)).alloc _);have HR0:=Lh (show Blk R #[.string ⟨#[]⟩,.int .i64 0,.slice none 0 0] 26 w0 from by rw [hw0,hR];exact Blk.new' _ _ _ (by simp));have HC1:=Lh (fun X => grid124 g X);have HC2:=Lh (show ∀ X,Below w.heap.size w X -> Calls Tryz.prog 125 #[.agg #[.int .i64 t.first,.int .i64 t.weeks,.slice ao t.hols.length c]] X fun e w' => e = .returned (.int .i64 (Tt.trmV t)) /\ Below X.heap.size X w' from fun X hX => trm125 t ao c w.heap.size X hX.size (hI.below hX) hn);unfold grdVal at HC1;obtain ⟨e1,he1⟩ : ∃ e,e = Tt.gridV g:=⟨_,rfl⟩
  obtain ⟨e2,he2⟩ : ∃ e,e = Tt.trmV t:=⟨_,rfl⟩
  rw [<- he1] at HC1;rw [<- he2] at HC2;have HI:=Lh hI;have HS:=Lh hS;have HTz:=Lh hTz;have HP:=Lh hP;have HSix:=Lh h6;have hGW : G < w0.heap.size:=HG0.out.lt;have hTW : T < w0.heap.size:=HT0.out.lt;have hRW : R < w0.heap.size:=HR0.out.lt;have hRge : w.heap.size <= R:=by omega
  have hGT : G < R:=by omega
  have hTR : T < R:=by omega
  have HE1:=Lh he1;have HE2:=Lh he2;clear hI hS hTz hP h6 he1 he2;go_enter Tryz.func63,Tryz.ntmps63;go_upto_region 1 with (fail);rw [<- hw0,<- hR,<- hT,<- hG];clear hw0 hG hT hR;have x0 : w0.cell? ⟨G,0,none⟩ = some (.int .i64 g.days):=HG0.out.cell 0;have x1 : w0.cell? ⟨G,1,none⟩ = some (.int .i64 g.slots):=HG0.out.cell 1;have x2 : w0.cell? ⟨G,2,none⟩ = some (.int .i64 g.begin_):=HG0.out.cell 2;have x3 : w0.cell? ⟨G,3,none⟩ = some (.int .i64 g.mins):=HG0.out.cell 3;go_cut [19] from 20 to 27 (fun s wx => s = .bool (!(decide (e1 = 0) && decide (e2 = 0))) /\ Hid (Blk G #[.int .i64 g.days,.int .i64 g.slots,.int .i64 g.begin_,.int .i64 g.mins] 90 wx) /\ Hid (Blk T #[.int .i64 t.first,.int .i64 t.weeks,.slice ao t.hols.length c] 93 wx) /\ Hid (Blk R #[.string ⟨#[]⟩,.int .i64 0,.slice none 0 0] 26 wx) /\ Hid (Below w.heap.size w wx))
  case first =>
    by_cases h1 : e1 = 0
    · subst h1;go_wp2_with (first | (go_at_call 124;(with_reducible refine (HC1.out _).mono ?_);rintro e w1 ⟨rfl,h1⟩;have HB1:=Lh h1;have HG1:=Lh (HG0.out.below h1 HG0.out.lt);have HT1:=Lh (HT0.out.below h1 HT0.out.lt);have HR1:=Lh (HR0.out.below h1 HR0.out.lt);have HL1:=Lh (HL0.out.trans (h1.mono HL0.out.size));have y0 : w1.cell? ⟨T,0,none⟩ = some (.int .i64 t.first):=HT1.out.cell 0;have y1 : w1.cell? ⟨T,1,none⟩ = some (.int .i64 t.weeks):=HT1.out.cell 1;have y2 : w1.cell? ⟨T,2,none⟩ = some (.slice ao t.hols.length c):=HT1.out.cell 2;clear h1) | (go_at_call 125;(with_reducible refine (HC2.out _ HL1.out).mono ?_);rintro e w2 ⟨rfl,h2⟩;have HR2:=Lh (HR1.out.below h2 HR1.out.lt);have HG2:=Lh (HG1.out.below h2 HG1.out.lt);have HT2:=Lh (HT1.out.below h2 HT1.out.lt);have HL2:=Lh (HL1.out.trans (h2.mono HL1.out.size));clear h2));go_meet
      case rel => exact ⟨congrArg Value.bool (by by_cases h : e2 = 0 <;> simp [h]),HG2,HT2,HR2,HL2⟩
    · go_wp2_with (first | (go_at_call 124;(with_reducible refine (HC1.out _).mono ?_);rintro e w1 ⟨rfl,h1⟩;have HB1:=Lh h1;have HG1:=Lh (HG0.out.below h1 HG0.out.lt);have HT1:=Lh (HT0.out.below h1 HT0.out.lt);have HR1:=Lh (HR0.out.below h1 HR0.out.lt);have HL1:=Lh (HL0.out.trans (h1.mono HL0.out.size));have y0 : w1.cell? ⟨T,0,none⟩ = some (.int .i64 t.first):=HT1.out.cell 0;have y1 : w1.cell? ⟨T,1,none⟩ = some (.int .i64 t.weeks):=HT1.out.cell 1;have y2 : w1.cell? ⟨T,2,none⟩ = some (.slice ao t.hols.length c):=HT1.out.cell 2;clear h1) | (go_at_call 125;(with_reducible refine (HC2.out _ HL1.out).mono ?_);rintro e w2 ⟨rfl,h2⟩;have HR2:=Lh (HR1.out.below h2 HR1.out.lt);have HG2:=Lh (HG1.out.below h2 HG1.out.lt);have HT2:=Lh (HT1.out.below h2 HT1.out.lt);have HL2:=Lh (HL1.out.trans (h2.mono HL1.out.size));clear h2));go_meet
      case rel => exact ⟨congrArg Value.bool (by simp [h1]),HG1,HT1,HR1,HL1⟩
  case rest =>
    skip
    obtain ⟨rfl,HG,HT,HR,HL⟩:=hcut;clear HG0 HT0 HR0 HL0 HC1 HC2;have HCD:=Lh (fun W => code_any nm W);obtain ⟨cd,hcd⟩ : ∃ b,b = Tt.code nm.data.toList:=⟨_,rfl⟩
    rw [<- hcd] at HCD;have HCE:=Lh hcd;clear hcd;by_cases hb : e1 = 0 /\ e2 = 0
    rotate_left
    · have hd : (!(decide (e1 = 0) && decide (e2 = 0))) = true:=by
        by_cases h1 : e1 = 0
        · have h2 : ¬ e2 = 0:=fun h => hb ⟨h1,h⟩
          simp [h2]
        · simp [h1]
      rw [hd];obtain ⟨Y,hY,hBk,hE⟩:=fillB HR.out HL.out hRge [.string ⟨#[]⟩,.int .i64 0,.slice none 0 0] rfl;have fr0:=HR.out.frozen 0;have fr1:=HR.out.frozen 1;have fr2:=HR.out.frozen 2;have q0 : wc.cell? ⟨R,0,none⟩ = some (.string ⟨#[]⟩):=HR.out.cell 0;have q1 : wc.cell? ⟨R,1,none⟩ = some (.int .i64 0):=HR.out.cell 1;have q2 : wc.cell? ⟨R,2,none⟩ = some (.slice none 0 0):=HR.out.cell 2;simp only [setAll,Nat.zero_add,Nat.reduceAdd] at hY;go_wp2_with (fail);rw [<- hY];clear hY;have r0:=hBk.cell 0;have r1:=hBk.cell 1;have r2:=hBk.cell 2;simp only [List.getElem?_toArray,List.getElem?_cons_zero,List.getElem?_cons_succ] at r0 r1 r2;exact bodyPost_ret (v:=.tuple #[.agg #[.string ⟨#[]⟩,.int .i64 0,.slice none 0 0],.int .i64 1]) (by simp [results,Tryz.results63,go_sem,r0,r1,r2]) rfl ⟨makR_bad (makC_1 (by rw [<- HE1.out,<- HE2.out];by_cases h1 : e1 = 0;exact .inr (fun h => hb ⟨h1,h⟩);exact .inl h1)) (by decide),hE⟩
    obtain ⟨rfl,rfl⟩:=hb;have hd : (!(decide ((0 : Int) = 0) && decide ((0 : Int) = 0))) = false:=rfl;rw [hd];clear hd;cases cd
    · obtain ⟨Y,hY,hBk,hE⟩:=fillB HR.out HL.out hRge [.string ⟨#[]⟩,.int .i64 0,.slice none 0 0] rfl;have fr0:=HR.out.frozen 0;have fr1:=HR.out.frozen 1;have fr2:=HR.out.frozen 2;have q0 : wc.cell? ⟨R,0,none⟩ = some (.string ⟨#[]⟩):=HR.out.cell 0;have q1 : wc.cell? ⟨R,1,none⟩ = some (.int .i64 0):=HR.out.cell 1;have q2 : wc.cell? ⟨R,2,none⟩ = some (.slice none 0 0):=HR.out.cell 2;simp only [setAll,Nat.zero_add,Nat.reduceAdd] at hY;go_wp2_with (go_at_call 94;(with_reducible refine (HCD.out _).mono ?_);rintro e w3 ⟨rfl,hw3⟩;rw [hw3];clear hw3 w3);rw [<- hY];clear hY;have r0:=hBk.cell 0;have r1:=hBk.cell 1;have r2:=hBk.cell 2;simp only [List.getElem?_toArray,List.getElem?_cons_zero,List.getElem?_cons_succ] at r0 r1 r2;exact bodyPost_ret (v:=.tuple #[.agg #[.string ⟨#[]⟩,.int .i64 0,.slice none 0 0],.int .i64 10]) (by simp [results,Tryz.results63,go_sem,r0,r1,r2]) rfl ⟨makR_bad (makC_10 HE1.out.symm HE2.out.symm HCE.out.symm) (by decide),hE⟩
    by_cases h64 : 64 < (ls.length : Int)
    · obtain ⟨Y,hY,hBk,hE⟩:=fillB HR.out HL.out hRge [.string ⟨#[]⟩,.int .i64 0,.slice none 0 0] rfl;have fr0:=HR.out.frozen 0;have fr1:=HR.out.frozen 1;have fr2:=HR.out.frozen 2;have q0 : wc.cell? ⟨R,0,none⟩ = some (.string ⟨#[]⟩):=HR.out.cell 0;have q1 : wc.cell? ⟨R,1,none⟩ = some (.int .i64 0):=HR.out.cell 1;have q2 : wc.cell? ⟨R,2,none⟩ = some (.slice none 0 0):=HR.out.cell 2;simp only [setAll,Nat.zero_add,Nat.reduceAdd] at hY;go_wp2_with (go_at_call 94;(with_reducible refine (HCD.out _).mono ?_);rintro e w3 ⟨rfl,hw3⟩;rw [hw3];clear hw3 w3);rw [<- hY];clear hY;have r0:=hBk.cell 0;have r1:=hBk.cell 1;have r2:=hBk.cell 2;simp only [List.getElem?_toArray,List.getElem?_cons_zero,List.getElem?_cons_succ] at r0 r1 r2;exact bodyPost_ret (v:=.tuple #[.agg #[.string ⟨#[]⟩,.int .i64 0,.slice none 0 0],.int .i64 2]) (by simp [results,Tryz.results63,go_sem,r0,r1,r2]) rfl ⟨makR_bad (makC_2 HE1.out.symm HE2.out.symm HCE.out.symm h64) (by decide),hE⟩
    have HTZ:=Lh (HTz.out.below HSix.out HL.out);have HSC:=Lh (HS.out.below HL.out);have HN64:=Lh h64;have hww : w.heap.size <= wc.heap.size:=HL.out.size;have h6c : 6 < wc.heap.size:=Nat.lt_of_lt_of_le HSix.out HL.out.size;have HSX:=Lh h6c;clear h6c;go_wp2_with (go_at_call 94;(with_reducible refine (HCD.out _).mono ?_);rintro e w3 ⟨rfl,hw3⟩;rw [hw3];clear hw3 w3);clear h64;skip
    go_loopw [41] (fun iv wr => ∃ k : Nat,iv = .int .i64 k /\ k <= ls.length /\ Hid (chgsV t.weeks ls = chgsV t.weeks (ls.drop k)) /\ Hid (Below wc.heap.size wc wr)) (fun iv _ => ls.length - (intOf iv).toNat)
    case atStart => exact ⟨0,rfl,Nat.zero_le _,Lh rfl,Lh (Below.refl _ _)⟩
    case round =>
      obtain ⟨k,rfl,hk,HK,HB⟩:=hrel;by_cases hlt : k < ls.length
      · have hki : (k : Int) < (ls.length : Int):=by omega
        have hk0 : (0 : Int) <= (k : Int):=by omega
        obtain ⟨l,hl⟩ : ∃ l,ls[k]? = some l:=⟨_,List.getElem?_eq_getElem hlt⟩
        obtain ⟨b,o,p,q,ha,hbl,hcell,hlc,hc4,hl1,hse⟩:=HSC.out.at_ hl;subst ha;have hbc : b < wc.heap.size:=by omega
        have x0 : wr.cell? ⟨b,o + k,none⟩ = some (.slice p l.length q):=(HB.out.cell (p:=⟨b,o + k,none⟩) hbc).trans hcell;have y1 : wr.cell? ⟨T,1,none⟩ = some (.int .i64 t.weeks):=(HB.out.cell (p:=⟨T,1,none⟩) HT.out.lt).trans (HT.out.cell 1);have HC:=Lh (chg126 l t.weeks p q w.heap.size wr (by have:=HB.out.size;omega) (hse.below (HB.out.mono hww)) hlc hc4 (HTZ.out.below HSX.out HB.out) (Nat.lt_of_lt_of_le HSX.out HB.out.size));have HST:=Lh (HK.out.trans (chgsV_step t.weeks ls k l hl));obtain ⟨cv,hcv⟩ : ∃ x,x = chgV l t.weeks:=⟨_,rfl⟩
        rw [<- hcv] at HST HC;clear hcv hse hlc hc4 hl1 hcell hl;by_cases hz : cv = 0
        · subst hz;go_wp2_with (go_at_call 126;(with_reducible refine (HC.out).mono ?_);rintro e w5 ⟨rfl,h5⟩;have HB5:=Lh (HB.out.trans (h5.mono HB.out.size));clear h5);go_roundw
          case rel => exact ⟨k + 1,by go_num,by omega,Lh (HST.out.trans (if_neg (by simp))),HB5⟩
          case measure => simp [intOf];omega
        · have HCV:=Lh (HST.out.trans (if_pos hz));go_wp2_with (go_at_call 126;(with_reducible refine (HC.out).mono ?_);rintro e w5 ⟨rfl,h5⟩;have HB5:=Lh (HB.out.trans (h5.mono HB.out.size));clear h5;have HR5:=Lh (HR.out.below HB5.out HR.out.lt);have HL5:=Lh (HL.out.trans (HB5.out.mono hww));obtain ⟨Y,hY,hBk,hE⟩:=fillB HR5.out HL5.out hRge [.string ⟨#[]⟩,.int .i64 0,.slice none 0 0] rfl;have fr0:=HR5.out.frozen 0;have fr1:=HR5.out.frozen 1;have fr2:=HR5.out.frozen 2;have q0 : w5.cell? ⟨R,0,none⟩ = some (.string ⟨#[]⟩):=HR5.out.cell 0;have q1 : w5.cell? ⟨R,1,none⟩ = some (.int .i64 0):=HR5.out.cell 1;have q2 : w5.cell? ⟨R,2,none⟩ = some (.slice none 0 0):=HR5.out.cell 2;simp only [setAll,Nat.zero_add,Nat.reduceAdd] at hY);rw [<- hY];clear hY;have r0:=hBk.cell 0;have r1:=hBk.cell 1;have r2:=hBk.cell 2;simp only [List.getElem?_toArray,List.getElem?_cons_zero,List.getElem?_cons_succ] at r0 r1 r2;exact bodyPost_ret (v:=.tuple #[.agg #[.string ⟨#[]⟩,.int .i64 0,.slice none 0 0],.int .i64 cv]) (by simp [results,Tryz.results63,go_sem,r0,r1,r2]) rfl ⟨makR_bad ((makC_c HE1.out.symm HE2.out.symm HCE.out.symm (by have:=HN64.out;omega) (by rw [HCV.out];exact hz)).trans HCV.out) (hz),hE⟩
      obtain rfl : k = ls.length:=by omega
      have hki : ¬ (ls.length : Int) < (ls.length : Int):=by omega
      rw [List.drop_length] at HK;have HCH:=Lh (show chgsV t.weeks ls = 0 from HK.out);clear HK hk hlt;obtain ⟨wA,hwA⟩ : ∃ q,q = wr:=⟨_,rfl⟩
      rw [<- hwA] at HB ⊢;clear hwA;have HGA:=Lh (HG.out.below HB.out HG.out.lt);have HTA:=Lh (HT.out.below HB.out HT.out.lt);have HRA:=Lh (HR.out.below HB.out HR.out.lt);have HLA:=Lh (HL.out.trans (HB.out.mono hww));have HSA:=Lh (HS.out.below HLA.out);have HIA:=Lh (HI.out.below HLA.out);have HPA:=Lh (HP.out.below HSix.out HLA.out);clear HG HT HR HL HB HTZ HSC HSX HTz HS HI HP hww;obtain ⟨M,hM⟩ : ∃ x,x = wA.heap.size:=⟨_,rfl⟩
      obtain ⟨w1,hw1⟩ : ∃ x,x = wA.alloc (.map #[] 0):=⟨_,rfl⟩
      have HK1:=Lh (show Below M wA w1 from by rw [hw1,hM];exact below_box wA _);have HA1:=Lh (show AdvS M w.heap.size w1 [] (makeE g t 1 (ls.take 0) []) from ⟨by rw [hw1,hM];exact MapE.new wA,fun x hx => (by cases hx),List.Perm.refl _,List.Pairwise.nil⟩);have hGM : G < M:=by rw [hM];exact HGA.out.lt
      have hTM : T < M:=by rw [hM];exact HTA.out.lt
      have hRM : R < M:=by rw [hM];exact HRA.out.lt
      have hWM : w.heap.size <= M:=by rw [hM];exact HLA.out.size
      have h6M : 6 < M:=Nat.lt_of_lt_of_le HSix.out hWM;have hmm:=@run_makeMap Tryz.prog;go_upto_region 15 with (fail);rw [<- hw1,<- hM];have HMA:=Lh hM;clear hw1 hM hmm hki;go_wp2_with fail;go_loopw [57] (fun iv wr => ∃ (i : Nat) (us : List Tri),iv = .int .i64 i /\ i <= ls.length /\ us.length <= 96 * i /\ Hid (AdvS M w.heap.size wr us (makeE g t 1 (ls.take i) [])) /\ Hid (Below M wA wr)) (fun iv _ => ls.length - (intOf iv).toNat)
      case atStart => exact ⟨0,[],rfl,Nat.zero_le _,Nat.zero_le _,HA1,HK1⟩
      case round =>
        clear HA1 HK1;obtain ⟨i,us,rfl,hi,hul,HA,HB⟩:=hrel;have hli : (ls.length : Int) <= 64:=by have:=HN64.out;omega
        by_cases hlt : i < ls.length
        rotate_left
        · have hki : ¬ (i : Int) < (ls.length : Int):=by omega
          obtain rfl : i = ls.length:=by omega
          rw [List.take_length] at HA;clear hi hlt;obtain ⟨wB,hwB⟩ : ∃ q,q = wr:=⟨_,rfl⟩
          rw [<- hwB] at HA HB ⊢;clear hwB;have HRB:=Lh (HRA.out.below HB.out hRM);have HLB:=Lh (HLA.out.trans (HB.out.mono hWM));have HUL:=Lh (show us.length = (makeE g t 1 ls []).length from by rw [<- HA.out.perm.length_eq,List.length_map]);have hml:=HA.out.map.len 3;by_cases h256 : 256 < (us.length : Int)
          · obtain ⟨Y,hY,hBk,hE⟩:=fillB HRB.out HLB.out hRge [.string ⟨#[]⟩,.int .i64 0,.slice none 0 0] rfl;have fr0:=HRB.out.frozen 0;have fr1:=HRB.out.frozen 1;have fr2:=HRB.out.frozen 2;have q0 : wB.cell? ⟨R,0,none⟩ = some (.string ⟨#[]⟩):=HRB.out.cell 0;have q1 : wB.cell? ⟨R,1,none⟩ = some (.int .i64 0):=HRB.out.cell 1;have q2 : wB.cell? ⟨R,2,none⟩ = some (.slice none 0 0):=HRB.out.cell 2;simp only [setAll,Nat.zero_add,Nat.reduceAdd] at hY;go_wp2_with (fail);rw [<- hY];clear hY;have r0:=hBk.cell 0;have r1:=hBk.cell 1;have r2:=hBk.cell 2;simp only [List.getElem?_toArray,List.getElem?_cons_zero,List.getElem?_cons_succ] at r0 r1 r2;exact bodyPost_ret (v:=.tuple #[.agg #[.string ⟨#[]⟩,.int .i64 0,.slice none 0 0],.int .i64 2]) (by simp [results,Tryz.results63,go_sem,r0,r1,r2]) rfl ⟨makR_bad (makC_n HE1.out.symm HE2.out.symm HCE.out.symm (by omega) HCH.out (by rw [<- HUL.out];exact h256)) (by decide),hE⟩
          have H256:=Lh (show ¬ 256 < ((makeE g t 1 ls []).length : Int) from by rw [<- HUL.out];exact h256);obtain ⟨F,hF⟩ : ∃ x,x = wB.heap.size:=⟨_,rfl⟩
          obtain ⟨w2,hw2⟩ : ∃ x,x = wB.alloc (.cells #[.string nm,.int .i64 (ls.length : Int),.slice none 0 0] 26):=⟨_,rfl⟩
          have HKF:=Lh (show Below wB.heap.size wB w2 from by rw [hw2];exact below_box wB _);have HF2:=Lh (show Blk F #[.string nm,.int .i64 (ls.length : Int),.slice none 0 0] 26 w2 from by rw [hw2,hF];exact Blk.new wB _ _);have HA2:=Lh (HA.out.below HKF.out);have hMF : M < F:=by rw [hF];exact HA.out.map.lt
          obtain ⟨Q,hQ⟩ : ∃ x,x = w2.heap.size:=⟨_,rfl⟩
          have hFQ : F < Q:=by rw [hQ];exact HF2.out.lt
          go_upto_region 23 with (fail);rw [<- hw2,<- hF];have HFB:=Lh hF;clear hw2 hF hml hki h256;obtain ⟨ents,hown,hpe⟩:=HA2.out.map.own;have HPE:=Lh hpe;clear hpe;go_wp2_with (at_range;refine wpList_range_own _ rfl _ 174 rfl 9 82 keyS Tryz.underlying174 Rev M us.length (.map ents) rfl hown ?_;intro wV hrg hgA hsA);rw [<- hQ] at hrg ⊢;have HRG:=Lh hrg;have HBV:=Lh (grown_below hgA);have HSV:=Lh (show Q + 1 <= wV.heap.size from by rw [hsA,hQ];exact Nat.le_refl _);have HQW:=Lh hQ;clear hrg hgA hsA hown hQ;have HFV:=Lh (HF2.out.below HBV.out HF2.out.lt);have HBF:=Lh (show Below F wB wV from by rw [HFB.out];exact HKF.out.trans (HBV.out.mono HKF.out.size));go_loopw [18] (fun _ wr => ∃ (left : Lit -> Bool) (cnt : Nat) (rs dn : List Tri) (fv : Value),Hid (wr.ranges Tryz.prog 9 Rev M Q us.length (.map ents) left cnt) /\ Hid (LeftE left rs) /\ Hid ((dn ++ rs).Perm us) /\ Hid (Blk F #[.string nm,.int .i64 (ls.length : Int),fv] 26 wr) /\ Hid (wr.ownsRow (Q + 1) 82 13 fv dn.length (tCells dn)) /\ Hid (Below F wB wr) /\ Q + 1 <= wr.heap.size) (fun _ wr => wr.rangeLeft M Q)
          case atStart => exact ⟨_,_,us,[],_,HRG,Lh (LeftE.start HPE.out),Lh (List.Perm.refl _),HFV,Lh (World.ownsRow_nil _ _ _ _),HBF,HSV.out⟩
          case round =>
            clear HRG HFV HBF HSV;obtain ⟨left,cnt,rs,dn,fv,HRG,HLF,HPM,HF,HX,HBW,hRs⟩:=hrel;obtain ⟨pv,qv,hfv⟩:=ownsRow_len HX.out;subst hfv;have hrg:=HRG.out;have hFW : F < wr.heap.size:=HF.out.lt;have HRF:=Lh (show ∀ x ∈ us,RefT w.heap.size wr x from fun x hx => (HA.out.ref x hx).below (by rw [<- HFB.out];exact HBW.out));go_wp2_with (at_next;refine wpList_next_ranges _ rfl _ rfl 9 keyS Rev Value.string evT (fun _ _ h => (keyS_inv h).imp fun _ h => h.1) (fun _ _ h => (rev_inv h).1) M Q us.length (.map ents) left cnt rfl hrg ?_ ?_);clear hrg
            · intro _ hl0;have hr0:=HLF.out.done hl0;subst hr0;rw [List.append_nil] at HPM;have hdl : dn.length <= 1000000:=by have:=HPM.out.length_eq;omega
              have HC:=Lh (sort128 (lo:=w.heap.size) HX.out (fun x hx => HRF.out x (HPM.out.mem_iff.1 hx)) ((HPM.out.pairwise_iff (fun {_ _} hne => Ne.symm hne)).2 HA.out.map.one) hdl);have HRR:=Lh (HRB.out.below HBW.out (by omega));have HLL:=Lh (HLB.out.trans (HBW.out.mono (by omega)));have hlw : w.heap.size <= wr.heap.size:=HLL.out.size;have f0 : wr.cell? ⟨F,0,none⟩ = some (.string nm):=HF.out.cell 0;have f1 : wr.cell? ⟨F,1,none⟩ = some (.int .i64 (ls.length : Int)):=HF.out.cell 1;have f2 : wr.cell? ⟨F,2,none⟩ = some (.slice pv dn.length qv):=HF.out.cell 2;go_wp2_with (go_at_call 128;(with_reducible refine (HC.out).mono ?_);rintro e w7 ⟨rfl,h7a,h7⟩;obtain ⟨us7,hrow7,href7,hp7,ha7⟩:=h7a;have HF7:=Lh (HF.out.grown HX.out h7 (by decide));have HR7:=Lh (HRR.out.grown HX.out h7 (by decide));have HL7:=Lh (below_grownBy HLL.out HX.out (by omega) hlw h7);have HRW7:=Lh hrow7;have HRF7:=Lh href7;have HP7:=Lh hp7;have HA7:=Lh ha7;clear hrow7 href7 hp7 ha7 h7;have g0 : w7.cell? ⟨F,0,none⟩ = some (.string nm):=HF7.out.cell 0;have g1 : w7.cell? ⟨F,1,none⟩ = some (.int .i64 (ls.length : Int)):=HF7.out.cell 1;have g2 : w7.cell? ⟨F,2,none⟩ = some (.slice pv dn.length qv):=HF7.out.cell 2;obtain ⟨Y,hY,hBk,hE⟩:=fillB HR7.out HL7.out hRge [.string nm,.int .i64 (ls.length : Int),.slice pv dn.length qv] rfl;have hrY:=row_setAll (by decide) [.string nm,.int .i64 (ls.length : Int),.slice pv dn.length qv] 0 w7 _ HRW7.out HR7.out;have hfY : ∀ x ∈ us7,RefT w.heap.size (setAll w7 R 0 [.string nm,.int .i64 (ls.length : Int),.slice pv dn.length qv]) x:=fun x hx => ⟨(HRF7.out x hx).1,row_setAll (by decide) _ 0 w7 _ (HRF7.out x hx).2.1 HR7.out,row_setAll (by decide) _ 0 w7 _ (HRF7.out x hx).2.2 HR7.out⟩;rw [<- hY] at hrY hfY;have HRY:=Lh hrY;have HFY:=Lh hfY;clear hrY hfY;have fr0:=HR7.out.frozen 0;have fr1:=HR7.out.frozen 1;have fr2:=HR7.out.frozen 2;have q0 : w7.cell? ⟨R,0,none⟩ = some (.string ⟨#[]⟩):=HR7.out.cell 0;have q1 : w7.cell? ⟨R,1,none⟩ = some (.int .i64 0):=HR7.out.cell 1;have q2 : w7.cell? ⟨R,2,none⟩ = some (.slice none 0 0):=HR7.out.cell 2;simp only [setAll,Nat.zero_add,Nat.reduceAdd] at hY);rw [<- hY];clear hY;have r0:=hBk.cell 0;have r1:=hBk.cell 1;have r2:=hBk.cell 2;simp only [List.getElem?_toArray,List.getElem?_cons_zero,List.getElem?_cons_succ] at r0 r1 r2;have hC0:=makC_0 HE1.out.symm HE2.out.symm HCE.out.symm (show ¬ 64 < (ls.length : Int) by omega) HCH.out (show ¬ 256 < ((makeE g t 1 ls []).length : Int) by have:=H256.out;omega);have hes : us7.map (·.1) = makeE g t 1 ls []:=AscU.same HA7.out (AscU_makeE g t ls 1 [] List.Pairwise.nil) ((HP7.out.trans HPM.out).map _ |>.trans HA.out.perm);have hrT : RowT w.heap.size Y (.slice pv dn.length qv) us7:=⟨ownsRow_mono HRY.out (by omega),HFY.out⟩
              exact bodyPost_ret (v:=.tuple #[.agg #[.string nm,.int .i64 (ls.length : Int),.slice pv dn.length qv],.int .i64 0]) (by simp [results,Tryz.results63,go_sem,r0,r1,r2]) rfl ⟨makR_ok hC0 hrT hes,hE⟩
            · intro x ce cv cv2 kl y1 y2 w3 cnt2 hkey hlk hRv hat hrg2 hlt2 hgr2 hsz2 hen;obtain ⟨q,hq,hqk⟩:=HLF.out.no kl hlk;obtain ⟨x2,hx2,hkx⟩:=keyS_inv hkey;have hxq : x = q.1.uid:=by
                have e1 : x = x2:=by injection hx2
                rw [e1];exact keyL_inj (hkx.symm.trans hqk)
              have hqu : q ∈ us:=HPM.out.mem_iff.1 (List.mem_append_right dn hq);have hcv : evT (ce,cv,cv2) = evT q:=by
                have h1:=hat (.lit (.bool false));rw [hqk,at_yes HA.out.map.one HPE.out hqu] at h1;have h2:=(rev_inv hRv).2;simp only [Prod.mk.injEq] at h2;rw [h2.1] at h1;injection h1 with h1
                exact h1.symm
              subst hxq;rw [hcv] at hen ⊢;rw [hqk] at hrg2;obtain ⟨p,p2,cc,cc2,hqf⟩:=(HA.out.ref q hqu).form;have hqe : evT q = .agg #[.string q.1.uid,.int .i64 q.1.seq,.bool q.1.canc,.int .i64 q.1.days.first,.int .i64 q.1.days.last,.int .i64 q.1.days.every,.int .i64 q.1.days.wd,.slice p q.1.days.ex.length cc,.slice p2 q.1.days.xt.length cc2,.int .i64 q.1.start,.int .i64 q.1.mins,.string q.1.summ,.string q.1.loc]:=by rw [hqf];rfl
              rw [hqe] at hen ⊢;have HQF:=Lh hqf;have HQ:=Lh hq;have HQU:=Lh hqu;have HRG2:=Lh hrg2;have HMEAS:=Lh (show w3.rangeLeft M Q < wr.rangeLeft M Q from by rw [hrg2.left_eq,HRG.out.left_eq];exact hlt2);have HBS:=Lh (show Below Q wr w3 from stepped_below hgr2 (Nat.le_refl _) (by omega));have HX2:=Lh (show w3.ownsRow (Q + 1) 82 13 (.slice pv dn.length qv) dn.length (tCells dn) from World.ownsRow.kept HX.out hgr2 (by
                cases hv : (.slice pv dn.length qv : Value).ownBlock with
                | none => exact .inl rfl
                | some z => exact .inr (by have:=(World.ownsRow.lt HX.out z hv).1;intro e;have : z = Q:=by simpa using e
                                           omega)))
              have HF3:=Lh (HF.out.below HBS.out (by omega));have HBW3:=Lh (HBW.out.trans (HBS.out.mono (by omega)));have hRs3 : Q + 1 <= w3.heap.size:=by rw [hsz2];exact hRs
              clear hcv hqe hqf hat hRv hkey hlk hqk hx2 hkx hrg2 hlt2 hgr2 hsz2 hq HX HF HRF HBW hRs HRG HBS;obtain ⟨ex,hex⟩ : ∃ e,e = q.1:=⟨_,rfl⟩
              rw [<- hex] at hen ⊢ HQF;have HEX:=Lh hex;clear hex;obtain ⟨X,hXX⟩ : ∃ z,z = w3.heap.size:=⟨_,rfl⟩
              obtain ⟨w4,hw4⟩ : ∃ z,z = w3.alloc (.cells #[.string ex.uid,.int .i64 ex.seq,.bool ex.canc,.int .i64 ex.days.first,.int .i64 ex.days.last,.int .i64 ex.days.every,.int .i64 ex.days.wd,.slice p ex.days.ex.length cc,.slice p2 ex.days.xt.length cc2,.int .i64 ex.start,.int .i64 ex.mins,.string ex.summ,.string ex.loc] 82):=⟨_,rfl⟩
              have HK4:=Lh (show Below w3.heap.size w3 w4 from by rw [hw4];exact below_box w3 _);have HX4:=Lh (show Blk X #[.string ex.uid,.int .i64 ex.seq,.bool ex.canc,.int .i64 ex.days.first,.int .i64 ex.days.last,.int .i64 ex.days.every,.int .i64 ex.days.wd,.slice p ex.days.ex.length cc,.slice p2 ex.days.xt.length cc2,.int .i64 ex.start,.int .i64 ex.mins,.string ex.summ,.string ex.loc] 82 w4 from by rw [hw4,hXX];exact Blk.new w3 _ _);have HRG4:=Lh (show w4.ranges Tryz.prog 9 Rev M Q us.length (.map ents) _ cnt2 from by rw [hw4];exact HRG2.out.alloc _);have HRW4:=Lh (row_made HX2.out HK4.out);have HBW4:=Lh (HBW3.out.trans (HK4.out.mono (by omega)));have HF4:=Lh (HF3.out.below HK4.out HF3.out.lt);have hRs4 : Q + 1 <= w4.heap.size:=Nat.le_trans hRs3 HK4.out.size;go_upto_region 26 with (fail);rw [<- hw4,<- hXX];clear hw4 hXX HK4 HX2 HBW3 HF3 hRs3 hen;have HLF4:=Lh (HLF.out.step q);have HPM4:=Lh (show ((dn ++ [q]) ++ rs.filter (fun u => !decide (u.1.uid = q.1.uid))).Perm us from by
                rw [List.append_assoc];exact (List.Perm.append_left dn (split_one (uids_apart HA.out.map.one HPM.out) HQ.out).symm).trans HPM.out)
              have HMS4:=Lh (show w4.rangeLeft M Q < wr.rangeLeft M Q from by rw [HRG4.out.left_eq,<- HRG2.out.left_eq];exact HMEAS.out);have hdl : dn.length <= 1000000:=by have:=HPM.out.length_eq;rw [List.length_append] at this;omega
              obtain ⟨i0,hi0,hz0,hz1,hz2⟩:=info_parts infoEv;have f0 : w4.cell? ⟨F,0,none⟩ = some (.string nm):=HF4.out.cell 0;have f1 : w4.cell? ⟨F,1,none⟩ = some (.int .i64 (ls.length : Int)):=HF4.out.cell 1;have f2 : w4.cell? ⟨F,2,none⟩ = some (.slice pv dn.length qv):=HF4.out.cell 2;have ke0 : w4.cell? ⟨X,0,none⟩ = some (.string ex.uid):=HX4.out.cell 0;have ke1 : w4.cell? ⟨X,1,none⟩ = some (.int .i64 ex.seq):=HX4.out.cell 1;have ke2 : w4.cell? ⟨X,2,none⟩ = some (.bool ex.canc):=HX4.out.cell 2;have ke3 : w4.cell? ⟨X,3,none⟩ = some (.int .i64 ex.days.first):=HX4.out.cell 3;have ke4 : w4.cell? ⟨X,4,none⟩ = some (.int .i64 ex.days.last):=HX4.out.cell 4;have ke5 : w4.cell? ⟨X,5,none⟩ = some (.int .i64 ex.days.every):=HX4.out.cell 5;have ke6 : w4.cell? ⟨X,6,none⟩ = some (.int .i64 ex.days.wd):=HX4.out.cell 6;have ke7 : w4.cell? ⟨X,7,none⟩ = some (.slice p ex.days.ex.length cc):=HX4.out.cell 7;have ke8 : w4.cell? ⟨X,8,none⟩ = some (.slice p2 ex.days.xt.length cc2):=HX4.out.cell 8;have ke9 : w4.cell? ⟨X,9,none⟩ = some (.int .i64 ex.start):=HX4.out.cell 9;have ke10 : w4.cell? ⟨X,10,none⟩ = some (.int .i64 ex.mins):=HX4.out.cell 10;have ke11 : w4.cell? ⟨X,11,none⟩ = some (.string ex.summ):=HX4.out.cell 11;have ke12 : w4.cell? ⟨X,12,none⟩ = some (.string ex.loc):=HX4.out.cell 12;have fr2:=HF4.out.frozen 2;have hX4:=HX4.out.lt;have hF4:=HF4.out.lt;go_wp2_with (at_builtin;refine wpList_append_own_at _ rfl (.tmp 85) (.tmp 87) 22 rfl (Q + 1) 82 i0 _ 13 160 Tryz.underlying22 hi0 hz0 hz1 hz2 rfl (by decide) _ _ _ rfl (World.ownsRow.alloc HRW4.out _) ⟨w4.heap.size,0,none⟩ 1 1 (evCells ex (.slice p ex.days.ex.length cc) (.slice p2 ex.days.xt.length cc2)).toList rfl rfl (blk_cells (Blk.new w4 _ _)) (evCells_one _ _ _ _ _ _ _) (by unfold maxLen;omega) (by omega) (by simp;omega) ?_);intro v' x8 hown8 hgrow _ hat8;obtain ⟨p8,q8,hv8⟩:=ownsRow_len hown8;subst hv8;have HFX:=Lh ((HF4.out.alloc _).grown (World.ownsRow.alloc HRW4.out _) hgrow (by decide));have HRG8:=Lh ((HRG4.out.alloc _).kept hgrow (by intro e;have h1:=(World.ownsRow.lt HRW4.out _ e.symm).1;omega) (by intro e;have h1:=(World.ownsRow.lt HRW4.out _ e.symm).1;omega));have HBW8:=Lh (below_grownBy (HBW4.out.trans ((below_box w4 _).mono (by omega))) (World.ownsRow.alloc HRW4.out _) (show F <= Q + 1 by omega) (by simp;omega) hgrow);have hRs8 : Q + 1 <= x8.heap.size:=by have:=hgrow.size;simp at this;omega
              have HWN:=Lh (show x8.ownsRow (Q + 1) 82 13 (.slice p8 (dn.length + 1) q8) (dn.length + 1) (tCells (dn ++ [q])) from by rw [tCells_snoc,HQF.out];exact hown8);clear hgrow hown8 hat8 f0 f1 f2 ke0 ke1 ke2 ke3 ke4 ke5 ke6 ke7 ke8 ke9 ke10 ke11 ke12 fr2;have e2 : x8.cell? ⟨F,2,none⟩ = some (.slice pv dn.length qv):=HFX.out.cell 2;have z2:=HFX.out.frozen 2;have HF9:=Lh (HFX.out.set 2 (.slice p8 (dn.length + 1) q8));have HW9:=Lh (show (x8.setCell ⟨F,2,none⟩ (.slice p8 (dn.length + 1) q8)).ownsRow (Q + 1) 82 13 (.slice p8 (dn.length + 1) q8) (dn ++ [q]).length (tCells (dn ++ [q])) from by rw [List.length_append];exact row_set HWN.out HFX.out (by decide) 2 _);have hsg : x8.grownBy (x8.setCell ⟨F,2,none⟩ (.slice p8 (dn.length + 1) q8)) (some F):=⟨rfl,rfl,rfl,by simp,fun k hk hne => Below.heap_setCell _ _ _ _ (fun e => hne (by rw [e]))⟩
              have HRG9:=Lh (HRG8.out.kept hsg (by intro e;have:=Option.some.inj e;omega) (by intro e;have:=Option.some.inj e;omega));have HBW9:=Lh (HBW8.out.setCell (show F <= (⟨F,2,none⟩ : Addr).block from Nat.le_refl F) (.slice p8 (dn.length + 1) q8));have hRs9 : Q + 1 <= (x8.setCell ⟨F,2,none⟩ (.slice p8 (dn.length + 1) q8)).heap.size:=by simp;omega
              have HMS9:=Lh (show (x8.setCell ⟨F,2,none⟩ (.slice p8 (dn.length + 1) q8)).rangeLeft M Q < wr.rangeLeft M Q from by rw [HRG9.out.left_eq,<- HRG4.out.left_eq];exact HMS4.out);clear hsg;obtain ⟨x9,hx9⟩ : ∃ z,z = x8.setCell ⟨F,2,none⟩ (.slice p8 (dn.length + 1) q8):=⟨_,rfl⟩
              rw [<- hx9] at HF9 HW9 HRG9 HBW9 hRs9 HMS9;go_wp2_with fail;rw [<- hx9];go_roundw
              case rel => exact ⟨_,cnt2,_,dn ++ [q],_,HRG9,HLF4,HPM4,HF9,HW9,HBW9,hRs9⟩
              case measure => exact HMS9.out
        have hki : (i : Int) < (ls.length : Int):=by omega
        have hk0 : (0 : Int) <= (i : Int):=by omega
        obtain ⟨l,hl⟩ : ∃ l,ls[i]? = some l:=⟨_,List.getElem?_eq_getElem hlt⟩
        obtain ⟨b,o,p,q,ha,hbl,hcell,hlc,hc4,hl1,hse⟩:=HSA.out.at_ hl;subst ha;have hl96 : l.length <= 96:=chgV_len (chgsV_each _ _ HCH.out l (List.mem_of_getElem? hl));have hbM : b < M:=by omega
        have x0 : wr.cell? ⟨b,o + i,none⟩ = some (.slice p l.length q):=(HB.out.cell (p:=⟨b,o + i,none⟩) hbM).trans hcell;have HGR:=Lh (HGA.out.below HB.out hGM);have HTR:=Lh (HTA.out.below HB.out hTM);have g0 : wr.cell? ⟨G,0,none⟩ = some (.int .i64 g.days):=HGR.out.cell 0;have g1 : wr.cell? ⟨G,1,none⟩ = some (.int .i64 g.slots):=HGR.out.cell 1;have g2 : wr.cell? ⟨G,2,none⟩ = some (.int .i64 g.begin_):=HGR.out.cell 2;have g3 : wr.cell? ⟨G,3,none⟩ = some (.int .i64 g.mins):=HGR.out.cell 3;have t0 : wr.cell? ⟨T,0,none⟩ = some (.int .i64 t.first):=HTR.out.cell 0;have t1 : wr.cell? ⟨T,1,none⟩ = some (.int .i64 t.weeks):=HTR.out.cell 1;have t2 : wr.cell? ⟨T,2,none⟩ = some (.slice ao t.hols.length c):=HTR.out.cell 2;have HC:=Lh (adv127 g t ao c l p q ((i : Int) + 1) M w.heap.size (makeE g t 1 (ls.take i) []) us wr ((HIA.out.below (HB.out.mono hWM)).mono hWM) hn ((hse.below (HB.out.mono hWM)).mono hWM) (by omega) (Nat.le_trans hWM (Nat.le_of_lt HA.out.map.lt)) (by omega) HA.out (HPA.out.below h6M HB.out) h6M);rw [<- makeE_take g t ls i l hl] at HC;clear hse hlc hc4 hcell hl;go_wp2_with (go_at_call 127;(with_reducible refine (HC.out).mono ?_);rintro e w5 ⟨rfl,h5a,h5⟩;obtain ⟨us2,h5b,h5c⟩:=h5a;have HA5:=Lh h5b;have HL5:=Lh h5c;have HB5:=Lh (HB.out.trans h5);clear h5 h5b h5c);go_roundw
        case rel => exact ⟨i + 1,us2,by go_num,by omega,by have:=HL5.out;omega,HA5,HB5⟩
        case measure => simp [intOf];omega
end Go.Proofs.YtageielcdebjlaaGreatDoor
