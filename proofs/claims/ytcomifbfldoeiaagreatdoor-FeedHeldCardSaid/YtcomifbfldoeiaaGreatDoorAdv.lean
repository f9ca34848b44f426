/- feed.advance: the events of a timetable, in a map, brought to its next version. -/
import Derived.Test.YtcomifbfldoeiaaGreatDoorPk26
import Derived.Test.YtcomifbfldoeiaaGreatDoorChgV
import Derived.Test.YtcomifbfldoeiaaGreatDoorEvO
import Derived.Test.YtcomifbfldoeiaaGreatDoorShowP
import Derived.Maps.OwnRows
namespace Go.Proofs.YtcomifbfldoeiaaGreatDoor
open Go.RowKit

theorem infoStr9 : (Tryz.prog.info? 9).map (fun i => (i.zero, i.size, i.bytes)) = some (some (.string ⟨#[]⟩), 1, 16) := by kernel_rfl
/-- Texts in a row of one's own. -/
def RowX (lo : Nat) (w : World) (v : Value) (xs : List ByteArray) : Prop := w.ownsRow lo 9 1 v xs.length (xs.map Value.string)
theorem RowX.nil (lo : Nat) (w : World) : RowX lo w (.slice none 0 0) [] := World.ownsRow_nil _ _ _ _
theorem RowX.snoc {lo : Nat} {w : World} {v : Value} {xs : List ByteArray} {x : ByteArray} (h : w.ownsRow lo 9 1 v (xs.length + 1) (xs.map Value.string ++ [.string x])) : RowX lo w v (xs ++ [x]) := by
  unfold RowX
  rw [List.length_append, List.map_append]; exact h
theorem RefT.below {lo : Nat} {w w' : World} {t : Tri} (h : RefT lo w t) (hb : Below w.heap.size w w') : RefT lo w' t := h.made hb
theorem RefT.form {lo : Nat} {w : World} {t : Tri} (h : RefT lo w t) : ∃ (p p' : Option Addr) (c c' : Nat), t = (t.1, .slice p t.1.days.ex.length c, .slice p' t.1.days.xt.length c') := by
  obtain ⟨p, c, h1⟩ := RowI.slice h.2.1
  obtain ⟨p', c', h2⟩ := RowI.slice h.2.2
  exact ⟨p, p', c, c', by obtain ⟨e, v, v'⟩ := t; simp only at h1 h2 ⊢; rw [h1, h2]⟩
theorem sesEs_len (g : Tt.Grd) (t : Tt.Trm) (k : Int) (l : List Ses) : (sesEs g t k l).length ≤ l.length := by
  unfold sesEs
  rw [List.length_map]; exact List.length_filter_le _ _
theorem putM_len (ts : List Tri) (t : Tri) : (putM ts t).length ≤ ts.length + 1 := by
  unfold putM
  rw [List.length_cons]
  exact Nat.succ_le_succ (List.length_filter_le _ _)
theorem RowI.ao {lo n c : Nat} {w : World} {ao : Option Addr} {xs : List Int} (h : RowI lo w (.slice ao n c) xs) : Ints w.heap.size w ao xs := by
  obtain ⟨a, c', hv, hi⟩ := h.ints
  have : a = ao := by injection hv with h1; exact h1.symm
  subst this; exact hi
theorem uids_apart {us : List Tri} (h : us.Pairwise (fun a c => a.1.uid ≠ c.1.uid)) {dn rs : List Tri} (hp : (dn ++ rs).Perm us) : rs.Pairwise (fun a c => a.1.uid ≠ c.1.uid) :=
  ((hp.pairwise_iff (fun {_ _} hne => Ne.symm hne)).2 h).sublist (List.sublist_append_right dn rs)
theorem gone_snoc (here : List ByteArray) (dn : List Tri) (x : Tri) : ((dn ++ [x]).filter (goneT here)).map (fun q => q.1.uid) = (dn.filter (goneT here)).map (fun q => q.1.uid) ++ (if goneT here x = true then [x.1.uid] else []) := by
  rw [List.filter_append, List.map_append]
  congr 1
  by_cases h : goneT here x = true
  · rw [if_pos h]; simp [h]
  · rw [if_neg h]; simp [h]
theorem RowX.made {lo : Nat} {w w' : World} {v : Value} {xs : List ByteArray} (h : RowX lo w v xs) (hb : Below w.heap.size w w') : RowX lo w' v xs := row_made h hb
theorem RowX.slice {lo : Nat} {w : World} {v : Value} {xs : List ByteArray} (h : RowX lo w v xs) : ∃ ao c, v = .slice ao xs.length c := ownsRow_len h
/-- Behind a step of a walk through a map: the rows are as they were. -/
theorem RowX.stepped {lo r : Nat} {w w' : World} {v : Value} {xs : List ByteArray} (h : RowX lo w v xs) (hg : w.grownBy w' (some r)) (hr : r < lo) : RowX lo w' v xs := by
  refine World.ownsRow.kept h hg ?_
  cases hv : v.ownBlock with
  | none => exact .inl rfl
  | some q =>
    right
    have := (World.ownsRow.lt h q hv).1
    intro e; have : q = r := by simpa using e
    omega
theorem stepped_below {r B : Nat} {w w' : World} (hg : w.grownBy w' (some r)) (hB : B ≤ r) (hs : r < w.heap.size) : Below B w w' := ⟨hg.os, hg.tape, hg.output, hg.size, fun k hk => hg.block k (by omega) (by simp; omega)⟩
theorem grown_below {w w' : World} (hg : w.grownBy w' none) : Below w.heap.size w w' := ⟨hg.os, hg.tape, hg.output, hg.size, fun k hk => hg.block k hk (by simp)⟩
/-- What is left of a walk through a map of events. -/
structure LeftE (left : Lit → Bool) (rs : List Tri) : Prop where
  yes : ∀ x ∈ rs, left (keyL x.1.uid) = true
  no : ∀ kl, left kl = true → ∃ x ∈ rs, kl = keyL x.1.uid
theorem LeftE.start {us : List Tri} {ents : List (Lit × DataW Value)} (hp : ents.Perm (us.map entT)) : LeftE (Maps.has (DataW.map ents)) us := by
  refine ⟨fun x hx => has_yes hp hx, fun kl hkl => ?_⟩
  rw [Maps.has_eq, List.any_eq_true] at hkl
  obtain ⟨p, h1, h2⟩ := hkl; obtain ⟨x, hx, rfl⟩ := List.mem_map.1 (hp.mem_iff.1 h1)
  exact ⟨x, hx, (WideAt.sameKey_eq h2).symm⟩
theorem LeftE.step {left : Lit → Bool} {rs : List Tri} (h : LeftE left rs) (x : Tri) : LeftE (fun z => left z && !z.sameKey (keyL x.1.uid)) (rs.filter (fun u => !decide (u.1.uid = x.1.uid))) := by
  refine ⟨fun u hu => ?_, fun kl hkl => ?_⟩
  · obtain ⟨h1, h2⟩ := List.mem_filter.1 hu
    have hne : ¬ u.1.uid = x.1.uid := by simpa using h2
    show (left _ && !(keyL u.1.uid).sameKey (keyL x.1.uid)) = true
    rw [h.yes u h1, Maps.sameKey_ne (fun e => hne (keyL_inj e))]; rfl
  · simp only [Bool.and_eq_true, Bool.not_eq_true'] at hkl
    obtain ⟨u, hu, rfl⟩ := h.no kl hkl.1
    refine ⟨u, List.mem_filter.2 ⟨hu, ?_⟩, rfl⟩
    have : ¬ u.1.uid = x.1.uid := fun e => by
      have h2 := hkl.2; rw [e, WideAt.sameKey_self (show WideAt.IsKeyLit (keyL x.1.uid) from trivial)] at h2
      cases h2
    simpa using this
theorem LeftE.done {left : Lit → Bool} {rs : List Tri} (h : LeftE left rs) (h0 : ∀ kl, left kl = false) : rs = [] := by
  cases rs with
  | nil => rfl
  | cons x r => have := h.yes x (by simp); rw [h0] at this; cases this
theorem RowX.at_ {lo n c : Nat} {w : World} {ao : Option Addr} {xs : List ByteArray} (h : RowX lo w (.slice ao n c) xs) {j : Nat} {u : ByteArray} (hu : xs[j]? = some u) : ∃ g, ao = some ⟨g, 0, none⟩ ∧ w.cell? ⟨g, j, none⟩ = some (.string u) := by
  have hp : 0 < xs.length := Nat.lt_of_le_of_lt (Nat.zero_le j) (List.getElem?_eq_some_iff.1 hu).1
  rcases h.2 with ⟨_, h0⟩ | ⟨g, cap, cur, hv, _⟩
  · omega
  · have ha : ao = some ⟨g, 0, none⟩ := by injection hv
    subst ha; have := World.ownsRow.cells h (g := g) rfl j (.string u) (by rw [List.getElem?_map, hu]; rfl)
    rw [Addr.add_lit, Nat.zero_add] at this
    exact ⟨g, rfl, this⟩
theorem putM_perm {ts ts' : List Tri} (h : ts.Perm ts') (t : Tri) : (putM ts t).Perm (putM ts' t) := (h.filter _).cons _
theorem canT_canF (k : Int) (us : List ByteArray) (x : Tri) : canT k (canF k us x) = canT k x := by
  unfold canF
  split
  · rfl
  · rfl
theorem RowX.turned {lo M : Nat} {w w' : World} {v : Value} {xs : List ByteArray} (h : RowX lo w v xs) (hm : ∃ es clock, w.heap[M]? = some (.map es clock)) (ht : w.mapTurned w' M) : RowX lo w' v xs := by
  obtain ⟨es, clock, hM⟩ := hm; refine ⟨h.1, ?_⟩
  rcases h.2 with h1 | ⟨g, cap, cur, r1, r2, r3, r4⟩
  · exact .inl h1
  · have hne : g ≠ M := fun e => by rw [e, hM] at r3; cases r3
    exact .inr ⟨g, cap, cur, r1, r2, (turned_other ht hne).trans r3, r4⟩
/-- Behind a store into the map: the rows are as they were. -/
theorem RefT.turned {lo M : Nat} {w w' : World} {t : Tri} (h : RefT lo w t) (hm : ∃ es clock, w.heap[M]? = some (.map es clock)) (ht : w.mapTurned w' M) : RefT lo w' t := by
  obtain ⟨es, clock, hM⟩ := hm; have row : ∀ {v : Value} {n : Nat} {xs : List Value}, w.ownsRow lo 3 1 v n xs → w'.ownsRow lo 3 1 v n xs := by
    intro v n xs hr; refine ⟨hr.1, ?_⟩
    rcases hr.2 with h1 | ⟨g, cap, cur, r1, r2, r3, r4⟩
    · exact .inl h1
    · have hne : g ≠ M := fun e => by rw [e, hM] at r3; cases r3
      exact .inr ⟨g, cap, cur, r1, r2, (turned_other ht hne).trans r3, r4⟩
  exact ⟨h.1, row h.2.1, row h.2.2⟩
theorem MapE.obj {b : Nat} {w : World} {ts : List Tri} (h : MapE b w ts) : ∃ es clock, w.heap[b]? = some (.map es clock) := by
  obtain ⟨⟨ents, ⟨es, clock, h1, _⟩, _⟩, _⟩ := h
  exact ⟨es, clock, h1⟩
theorem MapT.obj {b : Nat} {w : World} {xs : List ByteArray} (h : MapT b xs w) : ∃ es clock, w.heap[b]? = some (.map es clock) := by
  obtain ⟨D, ⟨es, clock, h1, _⟩, _⟩ := h
  exact ⟨es, clock, h1⟩
/-- Where the events of a map stand: the map, its events' lists, and the list that they are. -/
structure AdvS (M lo : Nat) (w : World) (ts : List Tri) (es : List Ev) : Prop where
  map : MapE M w ts
  ref : ∀ x ∈ ts, RefT lo w x
  perm : (ts.map (·.1)).Perm es
  asc : AscU es
theorem AdvS.below {M lo : Nat} {w w' : World} {ts : List Tri} {es : List Ev} (h : AdvS M lo w ts es) (hb : Below w.heap.size w w') : AdvS M lo w' ts es :=
  ⟨h.map.block (hb.block M h.map.lt), fun x hx => (h.ref x hx).made hb, h.perm, h.asc⟩
theorem AdvS.put {M lo : Nat} {w w' : World} {ts : List Tri} {es : List Ev} {t : Tri} (h : AdvS M lo w ts es) (hm : MapE M w' (putM ts t)) (ht : w.mapTurned w' M) (hr : RefT lo w t) : AdvS M lo w' (putM ts t) (putE t.1 es) := by
  refine ⟨hm, fun x hx => ?_, putM_map h.perm h.asc, h.asc.put⟩
  rcases List.mem_cons.1 hx with e | hx
  · rw [e]; exact hr.turned h.map.obj ht
  · exact (h.ref x (List.mem_filter.1 hx).1).turned h.map.obj ht
theorem AdvS.turned {M H lo : Nat} {w w' : World} {ts : List Tri} {es : List Ev} (h : AdvS M lo w ts es) (hne : M ≠ H) (ho : ∃ es clock, w.heap[H]? = some (.map es clock)) (ht : w.mapTurned w' H) : AdvS M lo w' ts es :=
  ⟨h.map.block (turned_other ht hne), fun x hx => (h.ref x hx).turned ho ht, h.perm, h.asc⟩
theorem turned_size {w w' : World} {b : Nat} (h : w.mapTurned w' b) : w'.heap.size = w.heap.size := by
  have := h.grown
  obtain ⟨es, clock, es', clock', hb, rfl⟩ := h; simp [ChangeMaps.setBlock]

set_option maxHeartbeats 16000000 in
set_option maxRecDepth 100000 in
theorem adv127 (g : Tt.Grd) (t : Tt.Trm) (ao : Option Addr) (c : Nat) (ls : List Ses) (pl : Option Addr) (cl : Nat) (k : Int) (M lo : Nat) (es : List Ev) (ts : List Tri) (w : World) (hI : Ints M w ao t.hols) (hn : t.hols.length ≤ 4611686018427387903) (hS : SesAt M w pl ls) (hll : ls.length ≤ 100000) (hlo : lo ≤ w.heap.size) (hts : ts.length ≤ 1000000) (hA : AdvS M lo w ts es) (hP : Pow w) (h6 : 6 < M) :
    Calls Tryz.prog 81 #[.map (some M), .agg #[.int .i64 g.days, .int .i64 g.slots, .int .i64 g.begin_, .int .i64 g.mins], .agg #[.int .i64 t.first, .int .i64 t.weeks, .slice ao t.hols.length c], .slice pl ls.length cl, .int .i64 k] w fun e w' => e = .returned (.tuple #[]) ∧ (∃ ts', AdvS M lo w' ts' (advV g t k ls es) ∧ ts'.length ≤ ts.length + ls.length) ∧ Below M w w' := by
  obtain ⟨i9, hi9, hz0, hz1, hz2⟩ := info_parts infoStr9
  have hMl := hA.map.lt; obtain ⟨G, hG⟩ : ∃ x, x = w.heap.size := ⟨_, rfl⟩
  obtain ⟨T, hT⟩ : ∃ x, x = w.heap.size + 1 := ⟨_, rfl⟩
  have hGM : M < G := by omega
  have hTM : M < T := by omega
  obtain ⟨w0, hw0⟩ : ∃ x, x = (w.alloc (.cells #[.int .i64 g.days, .int .i64 g.slots, .int .i64 g.begin_, .int .i64 g.mins] 91)).alloc (.cells #[.int .i64 t.first, .int .i64 t.weeks, .slice ao t.hols.length c] 94) := ⟨_, rfl⟩
  have HL0 := Lib.hid (show Below w.heap.size w w0 from by rw [hw0]; exact (below_box w _).trans ((below_box _ _).mono (by simp)))
  have HG0 := Lib.hid (show Blk G #[.int .i64 g.days, .int .i64 g.slots, .int .i64 g.begin_, .int .i64 g.mins] 91 w0 from by rw [hw0, hG]; exact (Blk.new w _ _).alloc _)
  have HT0 := Lib.hid (show Blk T #[.int .i64 t.first, .int .i64 t.weeks, .slice ao t.hols.length c] 94 w0 from by rw [hw0, hT]; exact Blk.new' _ _ _ (by simp))
  obtain ⟨H, hH⟩ : ∃ x, x = w0.heap.size := ⟨_, rfl⟩
  obtain ⟨w1, hw1⟩ : ∃ x, x = w0.alloc (.map #[] 0) := ⟨_, rfl⟩
  have HK1 := Lib.hid (show Below w0.heap.size w0 w1 from by rw [hw1]; exact below_box w0 _)
  have HH1 := Lib.hid (show MapT H [] w1 from by rw [hw1, hH]; exact MapT.new w0)
  have HG1 := Lib.hid (HG0.out.below HK1.out HG0.out.lt)
  have HT1 := Lib.hid (HT0.out.below HK1.out HT0.out.lt)
  have HL1 := Lib.hid (HL0.out.trans (HK1.out.mono HL0.out.size))
  have HA1 := Lib.hid (hA.below HL1.out)
  have hMH : M < H := by have := HL0.out.size; omega
  have hGlH : G < H := by rw [hH]; exact HG0.out.lt
  have hTlH : T < H := by rw [hH]; exact HT0.out.lt
  have hHl1 : H < w1.heap.size := HH1.out.lt
  have HI := Lib.hid hI; have HS := Lib.hid hS; have HP := Lib.hid hP; have HB1 := Lib.hid (HL1.out.mono (Nat.le_of_lt hMl))
  have hlo1 : lo ≤ w1.heap.size := Nat.le_trans hlo HL1.out.size
  clear hI hS hP hA HG0 HT0 HK1 HL0; have hmm := @run_makeMap Tryz.prog
  go_enter Tryz.func81, Tryz.ntmps81
  go_upto_region 1 with (fail)
  rw [← hw0, ← hT, ← hG]; clear hw0 hT hG; go_upto_region 2 with (fail)
  rw [← hw1, ← hH]; clear hw1 hH hmm; go_wp2_with fail
  have hMw : M ≤ w.heap.size := Nat.le_of_lt hMl
  go_loopw [26] (fun iv wr => ∃ (i : Nat) (us : List Tri), iv = .int .i64 i ∧ i ≤ ls.length ∧ us.length ≤ ts.length + i ∧ Hid (AdvS M lo wr us ((sesEs g t k (ls.take i)).foldl (advS k) es)) ∧ Hid (MapT H ((sesEs g t k (ls.take i)).map (·.uid)) wr) ∧ Hid (Blk G #[.int .i64 g.days, .int .i64 g.slots, .int .i64 g.begin_, .int .i64 g.mins] 91 wr) ∧ Hid (Blk T #[.int .i64 t.first, .int .i64 t.weeks, .slice ao t.hols.length c] 94 wr) ∧ Hid (Below M w wr) ∧ w1.heap.size ≤ wr.heap.size) (fun iv _ => ls.length - (intOf iv).toNat)
  case atStart => exact ⟨0, ts, rfl, Nat.zero_le _, Nat.le_refl _, HA1, HH1, HG1, HT1, HB1, Nat.le_refl _⟩
  case round =>
    clear HA1 HH1 HG1 HT1 HB1; obtain ⟨i, us, rfl, hi, hul, HA, HH, HG, HT, HB, hsz⟩ := hrel; by_cases hlt : i < ls.length
    rotate_left
    · have hki : ¬ (i : Int) < (ls.length : Int) := by omega
      obtain rfl : i = ls.length := by omega
      rw [List.take_length] at HA HH
      obtain ⟨e1, he1⟩ : ∃ e, e = (sesEs g t k ls).foldl (advS k) es := ⟨_, rfl⟩
      obtain ⟨here, hhe⟩ : ∃ e, e = (sesEs g t k ls).map (·.uid) := ⟨_, rfl⟩
      rw [← he1] at HA
      rw [← hhe] at HH
      have HADV := Lib.hid (show advV g t k ls es = advC k here e1 from by rw [he1, hhe]; rfl)
      clear he1 hhe hlt hi; obtain ⟨wB, hwB⟩ : ∃ q, q = wr := ⟨_, rfl⟩
      rw [← hwB] at HA HH HB ⊢
      clear hwB HG HT; obtain ⟨R, hR⟩ : ∃ q, q = wB.heap.size := ⟨_, rfl⟩
      obtain ⟨ents, hown, hpe⟩ := HA.out.map.own
      have HPE := Lib.hid hpe; have HMR := Lib.hid (show M < R from by rw [hR]; exact HA.out.map.lt)
      have HHR := Lib.hid (show H < R from by rw [hR]; exact HH.out.lt)
      clear hpe; go_wp2_with (at_range; refine wpList_range_own _ rfl _ 163 rfl 9 104 keyS Tryz.underlying163 Rev M us.length (.map ents) rfl hown ?_; intro wA hrg hgA hsA)
      rw [← hR] at hrg ⊢
      have HRG := Lib.hid hrg; have HBA := Lib.hid (grown_below hgA)
      have hRA : wA.heap.size = R + 1 := by rw [hsA, hR]
      have HRA := Lib.hid hRA; have HRW := Lib.hid hR; clear hrg hgA hsA hown hRA hR; go_loopw [17] (fun gv wr => ∃ (left : Lit → Bool) (cnt : Nat) (rs dn : List Tri), Hid (wr.ranges Tryz.prog 9 Rev M R us.length (.map ents) left cnt) ∧ Hid (LeftE left rs) ∧ Hid ((dn ++ rs).Perm us) ∧ Hid (RowX (R + 1) wr gv ((dn.filter (goneT here)).map (fun q => q.1.uid))) ∧ Hid (Below wB.heap.size wB wr) ∧ R + 1 ≤ wr.heap.size) (fun _ wr => wr.rangeLeft M R)
      case atStart => exact ⟨_, _, us, [], HRG, Lib.hid (LeftE.start HPE.out), Lib.hid (List.Perm.refl _), Lib.hid (RowX.nil _ _), HBA, Nat.le_of_eq HRA.out.symm⟩
      case round =>
        clear HRG HBA HRA; obtain ⟨left, cnt, rs, dn, HRG, HLF, HPM, HX, HBW, hRs⟩ := hrel; have hrg := HRG.out; go_wp2_with (at_next; refine wpList_next_ranges _ rfl _ rfl 9 keyS Rev Value.string evT (fun _ _ h => (keyS_inv h).imp fun _ h => h.1) (fun _ _ h => (rev_inv h).1) M R us.length (.map ents) left cnt rfl hrg ?_ ?_)
        clear hrg
        · intro _ hl0; have hr0 := HLF.out.done hl0
          subst hr0; rw [List.append_nil] at HPM
          obtain ⟨gn, hgn⟩ : ∃ l, l = (dn.filter (goneT here)).map (fun q => q.1.uid) := ⟨_, rfl⟩
          rw [← hgn] at HX
          have HGP := Lib.hid (show gn.Perm ((us.filter (goneT here)).map (fun q => q.1.uid)) from by rw [hgn]; exact (HPM.out.filter _).map _)
          have HGL := Lib.hid (show gn.length ≤ 1100000 from by
            have h1 := HPM.out.length_eq; rw [hgn, List.length_map]
            have h2 := List.length_filter_le (goneT here) dn
            omega)
          have hgl := HGL.out; obtain ⟨wC, hwC⟩ : ∃ q, q = wr := ⟨_, rfl⟩
          rw [← hwC] at HX HBW hRs ⊢
          clear hwC hgn hl0 HPM HLF HRG; have HMC := Lib.hid (HA.out.map.block (HBW.out.block M (by have := HMR.out; have := HRW.out; omega)))
          have HRC := Lib.hid (show ∀ x ∈ us, RefT lo wC x from fun x hx => (HA.out.ref x hx).below HBW.out)
          have HBC := Lib.hid (HB.out.trans (HBW.out.mono (Nat.le_of_lt HA.out.map.lt)))
          obtain ⟨pg, cg, hgv⟩ := HX.out.slice
          subst hgv; have HP0 := Lib.hid (show us.Perm (us.map (canF k (gn.take 0))) from by rw [List.take_zero, canF_nil])
          go_wp2_with fail
          go_loopw [85] (fun iv wr => ∃ (j : Nat) (vs : List Tri), iv = .int .i64 j ∧ j ≤ gn.length ∧ Hid (MapE M wr vs) ∧ Hid (∀ x ∈ vs, RefT lo wr x) ∧ Hid (vs.Perm (us.map (canF k (gn.take j)))) ∧ Hid (RowX (R + 1) wr (.slice pg gn.length cg) gn) ∧ Hid (Below M w wr) ∧ R + 1 ≤ wr.heap.size) (fun iv _ => gn.length - (intOf iv).toNat)
          case atStart => exact ⟨0, us, rfl, Nat.zero_le _, HMC, HRC, HP0, HX, HBC, hRs⟩
          case round =>
            clear HMC HRC HP0 HX HBC hRs; obtain ⟨j, vs, rfl, hj, HM, HR, HPM, HX, HBC, hRs⟩ := hrel; by_cases hjt : j < gn.length
            rotate_left
            · have hji : ¬ (j : Int) < (gn.length : Int) := by omega
              have hvl : vs.length ≤ ts.length + ls.length := by rw [HPM.out.length_eq, List.length_map]; exact hul
              have HAF := Lib.hid (show AdvS M lo wr vs (advV g t k ls es) from ⟨HM.out, HR.out, by
                have h1 := HPM.out; rw [List.take_of_length_le (by omega)] at h1
                rw [HADV.out]
                exact (h1.map _).trans (can_all k HA.out.map.one HA.out.perm HGP.out), by rw [HADV.out]; exact HA.out.asc.gone⟩)
              go_wp2_with fail
              go_end0
              exact ⟨rfl, ⟨vs, HAF.out, hvl⟩, HBC.out⟩
            have hji : (j : Int) < (gn.length : Int) := by omega
            have hj0 : (0 : Int) ≤ (j : Int) := by omega
            obtain ⟨u, hu⟩ : ∃ u, gn[j]? = some u := ⟨_, List.getElem?_eq_getElem hjt⟩
            obtain ⟨gg, hpg, hcu⟩ := HX.out.at_ hu
            subst hpg; have hum : u ∈ gn := List.mem_of_getElem? hu
            obtain ⟨x0, hx0, hxu⟩ := List.mem_map.1 (HGP.out.mem_iff.1 hum)
            have hx0 := (List.mem_filter.1 hx0).1
            have HTK := Lib.hid (show gn.take (j + 1) = gn.take j ++ [u] from by rw [List.take_add_one, hu]; rfl)
            obtain ⟨xv, hxv⟩ : ∃ x, x = canF k (gn.take j) x0 := ⟨_, rfl⟩
            have hxm : xv ∈ vs := HPM.out.mem_iff.2 (List.mem_map.2 ⟨x0, hx0, hxv.symm⟩)
            have hxvu : xv.1.uid = u := by rw [hxv, canF_uid]; exact hxu
            have HCC := Lib.hid (show canT k xv = canT k x0 from by rw [hxv]; exact canT_canF k _ x0)
            obtain ⟨p, p2, cc, cc2, hqf⟩ := (HR.out xv hxm).form
            have HRX := Lib.hid (HR.out xv hxm)
            have hus : u.size ≤ maxLen := by rw [← hxvu]; have := HRX.out.1.uid; unfold maxLen; omega
            have hrun := HM.out.look hxm (by rw [hxvu]; exact hus)
            rw [hxvu, show evT xv = .agg #[.string xv.1.uid, .int .i64 xv.1.seq, .bool xv.1.canc, .int .i64 xv.1.days.first, .int .i64 xv.1.days.last, .int .i64 xv.1.days.every, .int .i64 xv.1.days.wd, .slice p xv.1.days.ex.length cc, .slice p2 xv.1.days.xt.length cc2, .int .i64 xv.1.start, .int .i64 xv.1.mins, .string xv.1.summ, .string xv.1.loc] from by rw [hqf]; rfl] at hrun
            have HUN := Lib.hid hxvu; have HXF := Lib.hid hqf; have HX0 := Lib.hid hx0; have HXU := Lib.hid hxu; obtain ⟨ey, hey⟩ : ∃ e, e = xv.1 := ⟨_, rfl⟩
            rw [← hey] at hrun
            have HEY := Lib.hid hey; clear hey hqf hxvu hxm hxv hx0 hxu hu hum; obtain ⟨Y, hYY⟩ : ∃ z, z = wr.heap.size := ⟨_, rfl⟩
            obtain ⟨w2, hw2⟩ : ∃ z, z = wr.alloc (.cells #[.string ey.uid, .int .i64 ey.seq, .bool ey.canc, .int .i64 ey.days.first, .int .i64 ey.days.last, .int .i64 ey.days.every, .int .i64 ey.days.wd, .slice p ey.days.ex.length cc, .slice p2 ey.days.xt.length cc2, .int .i64 ey.start, .int .i64 ey.mins, .string ey.summ, .string ey.loc] 104) := ⟨_, rfl⟩
            have HK2 := Lib.hid (show Below wr.heap.size wr w2 from by rw [hw2]; exact below_box wr _)
            have HY2 := Lib.hid (show Blk Y #[.string ey.uid, .int .i64 ey.seq, .bool ey.canc, .int .i64 ey.days.first, .int .i64 ey.days.last, .int .i64 ey.days.every, .int .i64 ey.days.wd, .slice p ey.days.ex.length cc, .slice p2 ey.days.xt.length cc2, .int .i64 ey.start, .int .i64 ey.mins, .string ey.summ, .string ey.loc] 104 w2 from by rw [hw2, hYY]; exact Blk.new wr _ _)
            have hRY : R < Y := by omega
            have hMY : M < Y := by have := HMR.out; omega
            go_upto_region 22 with (fail)
            rw [← hw2, ← hYY]; clear hw2 hYY hrun hcu; have fr1 := HY2.out.frozen 1; have fr2 := HY2.out.frozen 2; have y0 : w2.cell? ⟨Y, 0, none⟩ = some (.string ey.uid) := HY2.out.cell 0
            have y1 : w2.cell? ⟨Y, 1, none⟩ = some (.int .i64 ey.seq) := HY2.out.cell 1
            have y2 : w2.cell? ⟨Y, 2, none⟩ = some (.bool ey.canc) := HY2.out.cell 2
            have y3 : w2.cell? ⟨Y, 3, none⟩ = some (.int .i64 ey.days.first) := HY2.out.cell 3
            have y4 : w2.cell? ⟨Y, 4, none⟩ = some (.int .i64 ey.days.last) := HY2.out.cell 4
            have y5 : w2.cell? ⟨Y, 5, none⟩ = some (.int .i64 ey.days.every) := HY2.out.cell 5
            have y6 : w2.cell? ⟨Y, 6, none⟩ = some (.int .i64 ey.days.wd) := HY2.out.cell 6
            have y7 : w2.cell? ⟨Y, 7, none⟩ = some (.slice p ey.days.ex.length cc) := HY2.out.cell 7
            have y8 : w2.cell? ⟨Y, 8, none⟩ = some (.slice p2 ey.days.xt.length cc2) := HY2.out.cell 8
            have y9 : w2.cell? ⟨Y, 9, none⟩ = some (.int .i64 ey.start) := HY2.out.cell 9
            have y10 : w2.cell? ⟨Y, 10, none⟩ = some (.int .i64 ey.mins) := HY2.out.cell 10
            have y11 : w2.cell? ⟨Y, 11, none⟩ = some (.string ey.summ) := HY2.out.cell 11
            have y12 : w2.cell? ⟨Y, 12, none⟩ = some (.string ey.loc) := HY2.out.cell 12
            obtain ⟨w3, hw3⟩ : ∃ z, z = (w2.setCell ⟨Y, 2, none⟩ (.bool true)).setCell ⟨Y, 1, none⟩ (.int .i64 k) := ⟨_, rfl⟩
            go_upto_region 23 with (fail)
            rw [← hw3]; clear fr1 fr2 y0 y1 y2 y3 y4 y5 y6 y7 y8 y9 y10 y11 y12; have HY3 := Lib.hid (show Blk Y #[.string ey.uid, .int .i64 k, .bool true, .int .i64 ey.days.first, .int .i64 ey.days.last, .int .i64 ey.days.every, .int .i64 ey.days.wd, .slice p ey.days.ex.length cc, .slice p2 ey.days.xt.length cc2, .int .i64 ey.start, .int .i64 ey.mins, .string ey.summ, .string ey.loc] 104 w3 from by rw [hw3]; exact (HY2.out.set 2 _).set 1 _)
            have HOTH := Lib.hid (show ∀ q, q ≠ Y → w3.heap[q]? = w2.heap[q]? from fun q hq => by rw [hw3]; exact (Below.heap_setCell _ _ _ _ hq).trans (Below.heap_setCell _ _ _ _ hq))
            have HM3 := Lib.hid ((HM.out.block (HK2.out.block M HM.out.lt)).block (HOTH.out M (Nat.ne_of_lt hMY)))
            have HR3 := Lib.hid (show ∀ x ∈ vs, RefT lo w3 x from fun x hx => by rw [hw3]; exact (((HR.out x hx).below HK2.out).set HY2.out (by decide) 2 _).set (HY2.out.set 2 _) (by decide) 1 _)
            have HX3 := Lib.hid (show RowX (R + 1) w3 _ gn from by rw [hw3]; exact row_set (row_set (HX.out.made HK2.out) HY2.out (by decide) 2 _) (HY2.out.set 2 _) (by decide) 1 _)
            have HBC3 := Lib.hid (show Below M w w3 from by rw [hw3]; exact ((HBC.out.trans (HK2.out.mono (Nat.le_of_lt HM.out.lt))).setCell (Nat.le_of_lt hMY) _).setCell (Nat.le_of_lt hMY) _)
            have hRs3 : R + 1 ≤ w3.heap.size := by rw [hw3]; have := HK2.out.size; simp; omega
            have HRXC := Lib.hid (show RefT lo w3 (canT k xv) from ((show RefT lo w3 xv from by rw [hw3]; exact ((HRX.out.below HK2.out).set HY2.out (by decide) 2 _).set (HY2.out.set 2 _) (by decide) 1 _)).can k)
            clear hw3 HK2 HY2 HOTH; have hvl2 : vs.length < maxLen := by rw [HPM.out.length_eq, List.length_map]; unfold maxLen; omega
            obtain ⟨w4, hrun4, hm4, ht4⟩ := HM3.out.put (canT k xv) (by show xv.1.uid.size ≤ maxLen; rw [HUN.out]; exact hus) hvl2
            rw [show (canT k xv).1.uid = u from HUN.out, show evT (canT k xv) = .agg #[.string ey.uid, .int .i64 k, .bool true, .int .i64 ey.days.first, .int .i64 ey.days.last, .int .i64 ey.days.every, .int .i64 ey.days.wd, .slice p ey.days.ex.length cc, .slice p2 ey.days.xt.length cc2, .int .i64 ey.start, .int .i64 ey.mins, .string ey.summ, .string ey.loc] from by rw [HXF.out, HEY.out]; rfl] at hrun4
            have HM4 := Lib.hid hm4; have HR4 := Lib.hid (show ∀ x ∈ putM vs (canT k xv), RefT lo w4 x from fun x hx => by
              rcases List.mem_cons.1 hx with e | hx
              · rw [e]; exact HRXC.out.turned HM3.out.obj ht4
              · exact (HR3.out x (List.mem_filter.1 hx).1).turned HM3.out.obj ht4)
            have HX4 := Lib.hid (HX3.out.turned HM3.out.obj ht4)
            have HBC4 := Lib.hid (HBC3.out.trans (turned_below ht4 (Nat.le_refl _)))
            have hRs4 : R + 1 ≤ w4.heap.size := by rw [turned_size ht4]; exact hRs3
            have HPM4 := Lib.hid (show (putM vs (canT k xv)).Perm (us.map (canF k (gn.take (j + 1)))) from by
              rw [HTK.out, HCC.out, ← HXU.out]
              exact (putM_perm HPM.out _).trans (can_step k HA.out.map.one HX0.out))
            have y0 : w3.cell? ⟨Y, 0, none⟩ = some (.string ey.uid) := HY3.out.cell 0
            have y1 : w3.cell? ⟨Y, 1, none⟩ = some (.int .i64 k) := HY3.out.cell 1
            have y2 : w3.cell? ⟨Y, 2, none⟩ = some (.bool true) := HY3.out.cell 2
            have y3 : w3.cell? ⟨Y, 3, none⟩ = some (.int .i64 ey.days.first) := HY3.out.cell 3
            have y4 : w3.cell? ⟨Y, 4, none⟩ = some (.int .i64 ey.days.last) := HY3.out.cell 4
            have y5 : w3.cell? ⟨Y, 5, none⟩ = some (.int .i64 ey.days.every) := HY3.out.cell 5
            have y6 : w3.cell? ⟨Y, 6, none⟩ = some (.int .i64 ey.days.wd) := HY3.out.cell 6
            have y7 : w3.cell? ⟨Y, 7, none⟩ = some (.slice p ey.days.ex.length cc) := HY3.out.cell 7
            have y8 : w3.cell? ⟨Y, 8, none⟩ = some (.slice p2 ey.days.xt.length cc2) := HY3.out.cell 8
            have y9 : w3.cell? ⟨Y, 9, none⟩ = some (.int .i64 ey.start) := HY3.out.cell 9
            have y10 : w3.cell? ⟨Y, 10, none⟩ = some (.int .i64 ey.mins) := HY3.out.cell 10
            have y11 : w3.cell? ⟨Y, 11, none⟩ = some (.string ey.summ) := HY3.out.cell 11
            have y12 : w3.cell? ⟨Y, 12, none⟩ = some (.string ey.loc) := HY3.out.cell 12
            clear hm4 ht4; go_wp2_with fail
            go_roundw
            case rel => exact ⟨j + 1, _, by go_num, by omega, HM4, HR4, HPM4, HX4, HBC4, hRs4⟩
            case measure => simp [intOf]; omega
        · intro x ce cv cv2 kl y1 y2 w2 cnt2 hkey hlk hRv hat hrg2 hlt2 hgr2 hsz2 hen; obtain ⟨q, hq, hqk⟩ := HLF.out.no kl hlk
          obtain ⟨x2, hx2, hkx⟩ := keyS_inv hkey
          have hxq : x = q.1.uid := by
            have e1 : x = x2 := by injection hx2
            rw [e1]; exact keyL_inj (hkx.symm.trans hqk)
          have hqu : q ∈ us := HPM.out.mem_iff.1 (List.mem_append_right dn hq)
          have hcv : evT (ce, cv, cv2) = evT q := by
            have h1 := hat (.lit (.bool false))
            rw [hqk, at_yes HA.out.map.one HPE.out hqu] at h1
            have h2 := (rev_inv hRv).2
            simp only [Prod.mk.injEq] at h2
            rw [h2.1] at h1
            injection h1 with h1
            exact h1.symm
          subst hxq; rw [hcv] at hen ⊢
          rw [hqk] at hrg2
          obtain ⟨p, p2, cc, cc2, hqf⟩ := (HA.out.ref q hqu).form
          have hqe : evT q = .agg #[.string q.1.uid, .int .i64 q.1.seq, .bool q.1.canc, .int .i64 q.1.days.first, .int .i64 q.1.days.last, .int .i64 q.1.days.every, .int .i64 q.1.days.wd, .slice p q.1.days.ex.length cc, .slice p2 q.1.days.xt.length cc2, .int .i64 q.1.start, .int .i64 q.1.mins, .string q.1.summ, .string q.1.loc] := by rw [hqf]; rfl
          rw [hqe] at hen ⊢
          have HQ := Lib.hid hq; have HQU := Lib.hid hqu; have HRG2 := Lib.hid hrg2; have HLT2 := Lib.hid hlt2; have HMEAS := Lib.hid (show w2.rangeLeft M R < wr.rangeLeft M R from by rw [hrg2.left_eq, HRG.out.left_eq]; exact hlt2)
          have HX2 := Lib.hid (HX.out.stepped hgr2 (Nat.lt_succ_self R))
          have HBW2 := Lib.hid (HBW.out.trans (stepped_below hgr2 (Nat.le_of_eq HRW.out.symm) (by omega)))
          have hRs2 : R + 1 ≤ w2.heap.size := by rw [hsz2]; exact hRs
          clear hcv hqe hqf hat hRv hkey hlk hqk hx2 hkx hrg2 hlt2 hgr2 hsz2 hq HX HBW hRs HRG; obtain ⟨ex, hex⟩ : ∃ e, e = q.1 := ⟨_, rfl⟩
          rw [← hex] at hen ⊢
          have HEX := Lib.hid hex; clear hex; have hcl := HEX.out; clear hcl; obtain ⟨X, hXX⟩ : ∃ z, z = w2.heap.size := ⟨_, rfl⟩
          obtain ⟨w3, hw3⟩ : ∃ z, z = w2.alloc (.cells #[.string ex.uid, .int .i64 ex.seq, .bool ex.canc, .int .i64 ex.days.first, .int .i64 ex.days.last, .int .i64 ex.days.every, .int .i64 ex.days.wd, .slice p ex.days.ex.length cc, .slice p2 ex.days.xt.length cc2, .int .i64 ex.start, .int .i64 ex.mins, .string ex.summ, .string ex.loc] 104) := ⟨_, rfl⟩
          have HK3 := Lib.hid (show Below w2.heap.size w2 w3 from by rw [hw3]; exact below_box w2 _)
          have HX3 := Lib.hid (show Blk X #[.string ex.uid, .int .i64 ex.seq, .bool ex.canc, .int .i64 ex.days.first, .int .i64 ex.days.last, .int .i64 ex.days.every, .int .i64 ex.days.wd, .slice p ex.days.ex.length cc, .slice p2 ex.days.xt.length cc2, .int .i64 ex.start, .int .i64 ex.mins, .string ex.summ, .string ex.loc] 104 w3 from by rw [hw3, hXX]; exact Blk.new w2 _ _)
          have HRG3 := Lib.hid (show w3.ranges Tryz.prog 9 Rev M R us.length (.map ents) _ cnt2 from by rw [hw3]; exact HRG2.out.alloc _)
          have HXR3 := Lib.hid (HX2.out.made HK3.out)
          have HBW3 := Lib.hid (HBW2.out.trans (HK3.out.mono HBW2.out.size))
          have hRs3 : R + 1 ≤ w3.heap.size := Nat.le_trans hRs2 HK3.out.size
          go_upto_region 16 with (fail)
          rw [← hw3, ← hXX]; clear hw3 hXX HK3 HX2 HBW2 hRs2 hen; have HLF3 := Lib.hid (HLF.out.step q)
          have HPM3 := Lib.hid (show ((dn ++ [q]) ++ rs.filter (fun u => !decide (u.1.uid = q.1.uid))).Perm us from by
            rw [List.append_assoc]
            exact (List.Perm.append_left dn (split_one (uids_apart HA.out.map.one HPM.out) HQ.out).symm).trans HPM.out)
          have HMS3 := Lib.hid (show w3.rangeLeft M R < wr.rangeLeft M R from by rw [HRG3.out.left_eq, ← HRG2.out.left_eq]; exact HMEAS.out)
          have HGS := Lib.hid (gone_snoc here dn q)
          have hqs : ex.uid.size ≤ maxLen := by have := (HA.out.ref q hqu).1.uid; rw [HEX.out]; unfold maxLen; omega
          have hrun := (HH.out.block (HBW3.out.block H (by have := HHR.out; have := HRW.out; omega))).look ex.uid hqs
          obtain ⟨b1, hb1⟩ : ∃ b, b = memB ex.uid here := ⟨_, rfl⟩
          obtain ⟨b2, hb2⟩ : ∃ b, b = ex.canc := ⟨_, rfl⟩
          have HGT := Lib.hid (show goneT here q = (!b1 && !b2) from by rw [hb1, hb2, HEX.out]; rfl)
          rw [← hb1] at hrun
          have cx2 : w3.cell? ⟨X, 2, none⟩ = some (.bool ex.canc) := HX3.out.cell 2
          rw [← hb2] at cx2
          have HUL := Lib.hid (show ((dn.filter (goneT here)).map (fun q => q.1.uid)).length ≤ 1100000 from by
            have h1 := HPM.out.length_eq; rw [List.length_append] at h1
            rw [List.length_map]
            have h2 := List.length_filter_le (goneT here) dn
            omega)
          clear hb1 hb2 HLF HPM HRG2 HMEAS hqs hqu; rw [← HEX.out] at HGS
          cases b1
          rotate_left
          · have HXN := Lib.hid (show RowX (R + 1) w3 u17 (((dn ++ [q]).filter (goneT here)).map (fun q => q.1.uid)) from by rw [HGS.out, HGT.out]; simpa using HXR3.out)
            go_wp2_with fail
            go_roundw
            case rel => exact ⟨_, cnt2, _, dn ++ [q], HRG3, HLF3, HPM3, HXN, HBW3, hRs3⟩
            case measure => exact HMS3.out
          cases b2
          rotate_left
          · have HXN := Lib.hid (show RowX (R + 1) w3 u17 (((dn ++ [q]).filter (goneT here)).map (fun q => q.1.uid)) from by rw [HGS.out, HGT.out]; simpa using HXR3.out)
            go_wp2_with fail
            go_roundw
            case rel => exact ⟨_, cnt2, _, dn ++ [q], HRG3, HLF3, HPM3, HXN, HBW3, hRs3⟩
            case measure => exact HMS3.out
          obtain ⟨pg, cg, hgv⟩ := HXR3.out.slice
          subst hgv; obtain ⟨gl, hgl⟩ : ∃ l, l = (dn.filter (goneT here)).map (fun q => q.1.uid) := ⟨_, rfl⟩
          rw [← hgl] at HXR3 HGS HUL ⊢
          have hgll := HUL.out; clear hgl; go_wp2_with (at_builtin; refine wpList_append_own_at _ rfl (.tmp 79) (.tmp 81) 143 rfl (R + 1) 9 i9 (.string ⟨#[]⟩) 1 16 Tryz.underlying143 hi9 hz0 hz1 hz2 rfl (by decide) _ _ _ rfl (World.ownsRow.alloc HXR3.out _) ⟨w3.heap.size, 0, none⟩ 1 1 [.string ex.uid] rfl rfl (cell_one _ _ _) (by intro u hu; simp at hu; subst hu; rfl) (by unfold maxLen; omega) (by omega) (by simp; omega) ?_)
          intro v' x8 hown8 hgrow _ hat8; have HRG8 := Lib.hid ((HRG3.out.alloc _).kept hgrow (by intro e; have h1 := (World.ownsRow.lt HXR3.out _ e.symm).1; have h2 := HMR.out; omega) (by intro e; have h1 := (World.ownsRow.lt HXR3.out _ e.symm).1; omega))
          have HBW8 := Lib.hid (below_grownBy (HBW3.out.trans ((below_box w3 _).mono HBW3.out.size)) (World.ownsRow.alloc HXR3.out _) (by have := HRW.out; omega) (by simp; have := HBW3.out.size; omega) hgrow)
          have HXN := Lib.hid (show RowX (R + 1) x8 v' (((dn ++ [q]).filter (goneT here)).map (fun q => q.1.uid)) from by rw [HGS.out, HGT.out]; exact RowX.snoc hown8)
          have hRs8 : R + 1 ≤ x8.heap.size := by have := hgrow.size; simp at this; omega
          have HMS8 := Lib.hid (show x8.rangeLeft M R < wr.rangeLeft M R from by rw [HRG8.out.left_eq, ← HRG3.out.left_eq]; exact HMS3.out)
          clear hgrow hown8 hat8; go_wp2_with fail
          go_roundw
          case rel => exact ⟨_, cnt2, _, dn ++ [q], HRG8, HLF3, HPM3, HXN, HBW8, hRs8⟩
          case measure => exact HMS8.out
    have hki : (i : Int) < (ls.length : Int) := by omega
    have hi0 : (0 : Int) ≤ (i : Int) := by omega
    obtain ⟨b, o, ha, hbl, hev⟩ := HS.out.form (by omega)
    subst ha; obtain ⟨s, hs⟩ : ∃ s, ls[i]? = some s := ⟨_, List.getElem?_eq_getElem hlt⟩
    have Hs := Lib.hid hs; have x0 : wr.cell? ⟨b, o + i * 6, none⟩ = some (.string s.cls) := (HB.out.cell (p := ⟨b, o + i * 6, none⟩) hbl).trans (hev i 0 s _ hs rfl)
    have x1 : wr.cell? ⟨b, o + i * 6 + 1, none⟩ = some (.int .i64 s.tim.weeks) := (HB.out.cell (p := ⟨b, o + i * 6 + 1, none⟩) hbl).trans (hev i 1 s _ hs rfl)
    have x2 : wr.cell? ⟨b, o + i * 6 + 2, none⟩ = some (.int .i64 s.tim.day) := (HB.out.cell (p := ⟨b, o + i * 6 + 2, none⟩) hbl).trans (hev i 2 s _ hs rfl)
    have x3 : wr.cell? ⟨b, o + i * 6 + 3, none⟩ = some (.int .i64 s.tim.start) := (HB.out.cell (p := ⟨b, o + i * 6 + 3, none⟩) hbl).trans (hev i 3 s _ hs rfl)
    have x4 : wr.cell? ⟨b, o + i * 6 + 4, none⟩ = some (.int .i64 s.tim.len) := (HB.out.cell (p := ⟨b, o + i * 6 + 4, none⟩) hbl).trans (hev i 4 s _ hs rfl)
    have x5 : wr.cell? ⟨b, o + i * 6 + 5, none⟩ = some (.string s.room) := (HB.out.cell (p := ⟨b, o + i * 6 + 5, none⟩) hbl).trans (hev i 5 s _ hs rfl)
    have HTK := Lib.hid (show sesEs g t k (ls.take (i + 1)) = sesEs g t k (ls.take i) ++ (if evB g t s = true then [evIs g t s k] else []) from by rw [List.take_add_one, hs, Option.toList_some, sesEs_snoc])
    clear hev hs; obtain ⟨fs, hfs⟩ : ∃ f, f = sesEs g t k (ls.take i) := ⟨_, rfl⟩
    rw [← hfs] at HA HH HTK
    have HFS := Lib.hid hfs.symm
    clear hfs; obtain ⟨ei, hei⟩ : ∃ e, e = fs.foldl (advS k) es := ⟨_, rfl⟩
    rw [← hei] at HA
    have HEI := Lib.hid hei; clear hei; obtain ⟨S, hSS⟩ : ∃ x, x = wr.heap.size := ⟨_, rfl⟩
    obtain ⟨w2, hw2⟩ : ∃ x, x = wr.alloc (.cells #[.string s.cls, .int .i64 s.tim.weeks, .int .i64 s.tim.day, .int .i64 s.tim.start, .int .i64 s.tim.len, .string s.room] 110) := ⟨_, rfl⟩
    have HS2 := Lib.hid (show Blk S #[.string s.cls, .int .i64 s.tim.weeks, .int .i64 s.tim.day, .int .i64 s.tim.start, .int .i64 s.tim.len, .string s.room] 110 w2 from by rw [hw2, hSS]; exact Blk.new wr _ _)
    have HK2 := Lib.hid (show Below wr.heap.size wr w2 from by rw [hw2]; exact below_box wr _)
    have HA2 := Lib.hid (HA.out.below HK2.out)
    have HH2 := Lib.hid (HH.out.block (HK2.out.block H HH.out.lt))
    have HG2 := Lib.hid (HG.out.below HK2.out HG.out.lt)
    have HT2 := Lib.hid (HT.out.below HK2.out HT.out.lt)
    have hMr : M ≤ wr.heap.size := Nat.le_of_lt HA.out.map.lt
    have HB2 := Lib.hid (HB.out.trans (HK2.out.mono hMr))
    have hsz2 : w1.heap.size ≤ w2.heap.size := Nat.le_trans hsz HK2.out.size
    go_upto_region 5 with (fail)
    rw [← hw2, ← hSS]; clear hw2 hSS x0 x1 x2 x3 x4 x5 HA HH HG HT HB HK2 hsz hMr; have x0 : w2.cell? ⟨G, 0, none⟩ = some (.int .i64 g.days) := HG2.out.cell 0
    have x1 : w2.cell? ⟨G, 1, none⟩ = some (.int .i64 g.slots) := HG2.out.cell 1
    have x2 : w2.cell? ⟨G, 2, none⟩ = some (.int .i64 g.begin_) := HG2.out.cell 2
    have x3 : w2.cell? ⟨G, 3, none⟩ = some (.int .i64 g.mins) := HG2.out.cell 3
    have y0 : w2.cell? ⟨T, 0, none⟩ = some (.int .i64 t.first) := HT2.out.cell 0
    have y1 : w2.cell? ⟨T, 1, none⟩ = some (.int .i64 t.weeks) := HT2.out.cell 1
    have y2 : w2.cell? ⟨T, 2, none⟩ = some (.slice ao t.hols.length c) := HT2.out.cell 2
    have z0 : w2.cell? ⟨S, 0, none⟩ = some (.string s.cls) := HS2.out.cell 0
    have z1 : w2.cell? ⟨S, 1, none⟩ = some (.int .i64 s.tim.weeks) := HS2.out.cell 1
    have z2 : w2.cell? ⟨S, 2, none⟩ = some (.int .i64 s.tim.day) := HS2.out.cell 2
    have z3 : w2.cell? ⟨S, 3, none⟩ = some (.int .i64 s.tim.start) := HS2.out.cell 3
    have z4 : w2.cell? ⟨S, 4, none⟩ = some (.int .i64 s.tim.len) := HS2.out.cell 4
    have z5 : w2.cell? ⟨S, 5, none⟩ = some (.string s.room) := HS2.out.cell 5
    have hMs : M ≤ w2.heap.size := Nat.le_of_lt HA2.out.map.lt
    have H69 := Lib.hid (ev69 g t s k ao c M w2 hMs (HI.out.below HB2.out) hn (HP.out.below h6 HB2.out) (Nat.lt_of_lt_of_le h6 hMs))
    unfold grdVal trmVal sesVal sesCells at H69
    obtain ⟨E, hE⟩ : ∃ e, e = evOf g t s k := ⟨_, rfl⟩
    obtain ⟨ok, hok⟩ : ∃ e, e = evB g t s := ⟨_, rfl⟩
    rw [← hE, ← hok] at H69
    rw [← hok] at HTK
    have HE := Lib.hid hE; have HOK := Lib.hid hok; clear hE hok; go_wp2_with fail
    refine H69.out.mono ?_
    clear H69 x0 x1 x2 x3 y0 y1 y2 z0 z1 z2 z3 z4 z5; rintro e w3 ⟨p, p2, cc, cc2, rfl, hp, hp2, hb⟩; unfold evVal evCells
    obtain ⟨D, hD⟩ : ∃ x, x = w3.heap.size := ⟨_, rfl⟩
    have hHD : H < D := by have := HH2.out.lt; have := hb.size; omega
    obtain ⟨w4, hw4⟩ : ∃ x, x = w3.alloc (.cells #[.string E.uid, .int .i64 E.seq, .bool E.canc, .int .i64 E.days.first, .int .i64 E.days.last, .int .i64 E.days.every, .int .i64 E.days.wd, .slice p E.days.ex.length cc, .slice p2 E.days.xt.length cc2, .int .i64 E.start, .int .i64 E.mins, .string E.summ, .string E.loc] 104) := ⟨_, rfl⟩
    have HK4 := Lib.hid (show Below w2.heap.size w2 w4 from by rw [hw4]; exact hb.alloc hb.size _)
    have HD4 := Lib.hid (show Blk D #[.string E.uid, .int .i64 E.seq, .bool E.canc, .int .i64 E.days.first, .int .i64 E.days.last, .int .i64 E.days.every, .int .i64 E.days.wd, .slice p E.days.ex.length cc, .slice p2 E.days.xt.length cc2, .int .i64 E.start, .int .i64 E.mins, .string E.summ, .string E.loc] 104 w4 from by rw [hw4, hD]; exact Blk.new w3 _ _)
    have HA4 := Lib.hid (HA2.out.below HK4.out)
    have HH4 := Lib.hid (HH2.out.block (HK4.out.block H HH2.out.lt))
    have HG4 := Lib.hid (HG2.out.below HK4.out HG2.out.lt)
    have HT4 := Lib.hid (HT2.out.below HK4.out HT2.out.lt)
    have HB4 := Lib.hid (HB2.out.trans (HK4.out.mono hMs))
    have HX4 := Lib.hid (show RowI lo w4 (.slice p E.days.ex.length cc) E.days.ex from by rw [hw4]; exact World.ownsRow.alloc (ownsRow_mono hp (Nat.le_trans hlo1 hsz2)) _)
    have HY4 := Lib.hid (show RowI lo w4 (.slice p2 E.days.xt.length cc2) E.days.xt from by rw [hw4]; exact World.ownsRow.alloc (ownsRow_mono hp2 (Nat.le_trans hlo1 hsz2)) _)
    have hsz4 : w1.heap.size ≤ w4.heap.size := Nat.le_trans hsz2 HK4.out.size
    go_upto_region 6 with (fail)
    rw [← hw4, ← hD]; clear hw4 hD hp hp2 hb HA2 HH2 HG2 HT2 HB2 HK4 hMs; cases ok
    · have HF := Lib.hid (show sesEs g t k (ls.take (i + 1)) = fs from by rw [HTK.out, if_neg (by decide), List.append_nil])
      go_wp2_with fail
      go_roundw
      case rel => exact ⟨i + 1, us, by go_num, by omega, by omega, by rw [HF.out, ← HEI.out]; exact HA4, by rw [HF.out]; exact HH4, HG4, HT4, HB4, hsz4⟩
      case measure => simp [intOf]; omega
    have HPS := Lib.hid ((evB_iff _ _ _).1 HOK.out.symm)
    have HEI2 := Lib.hid (show E = evIs g t s k from by rw [HE.out, evOf_yes HOK.out.symm])
    have HEB := Lib.hid (show EvB E from by rw [HEI2.out]; exact evIs_b HPS.out k)
    have HSQ := Lib.hid (show E.seq = k from by rw [HEI2.out]; rfl)
    have HF := Lib.hid (show sesEs g t k (ls.take (i + 1)) = fs ++ [E] from by rw [HTK.out, if_pos rfl, HEI2.out])
    have HUS := Lib.hid (show E.uid.size ≤ maxLen from by have := HEB.out.uid; unfold maxLen; omega)
    have HFL := Lib.hid (show fs.length ≤ 100000 from by rw [← HFS.out]; exact Nat.le_trans (sesEs_len g t k _) (by rw [List.length_take]; omega))
    obtain ⟨w5, hrun5, hh5, ht5⟩ := HH4.out.put E.uid HUS.out (by rw [List.length_map]; have := HFL.out; unfold maxLen; omega)
    have HH5 := Lib.hid hh5; have HRT := Lib.hid (show RefT lo w4 (E, .slice p E.days.ex.length cc, .slice p2 E.days.xt.length cc2) from ⟨HEB.out, HX4.out, HY4.out⟩)
    have HR5 := Lib.hid (HRT.out.turned HH4.out.obj ht5)
    have hMHn : M ≠ H := Nat.ne_of_lt hMH
    have HA5 := Lib.hid (HA4.out.turned hMHn HH4.out.obj ht5)
    have hHG : G ≠ H := by omega
    have hHT : T ≠ H := by omega
    have HG5 := Lib.hid (show Blk G #[.int .i64 g.days, .int .i64 g.slots, .int .i64 g.begin_, .int .i64 g.mins] 91 w5 from (turned_other ht5 hHG).trans HG4.out)
    have HT5 := Lib.hid (show Blk T #[.int .i64 t.first, .int .i64 t.weeks, .slice ao t.hols.length c] 94 w5 from (turned_other ht5 hHT).trans HT4.out)
    have hDH : D ≠ H := by omega
    have HD5 := Lib.hid (show Blk D #[.string E.uid, .int .i64 E.seq, .bool E.canc, .int .i64 E.days.first, .int .i64 E.days.last, .int .i64 E.days.every, .int .i64 E.days.wd, .slice p E.days.ex.length cc, .slice p2 E.days.xt.length cc2, .int .i64 E.start, .int .i64 E.mins, .string E.summ, .string E.loc] 104 w5 from (turned_other ht5 hDH).trans HD4.out)
    have HB5 := Lib.hid (HB4.out.trans (turned_below ht5 (Nat.le_of_lt hMH)))
    have hsz5 : w1.heap.size ≤ w5.heap.size := by rw [turned_size ht5]; exact hsz4
    clear hh5 ht5; have d0 : w4.cell? ⟨D, 0, none⟩ = some (.string E.uid) := HD4.out.cell 0
    have d1 : w4.cell? ⟨D, 1, none⟩ = some (.int .i64 E.seq) := HD4.out.cell 1
    have d2 : w4.cell? ⟨D, 2, none⟩ = some (.bool E.canc) := HD4.out.cell 2
    have d3 : w4.cell? ⟨D, 3, none⟩ = some (.int .i64 E.days.first) := HD4.out.cell 3
    have d4 : w4.cell? ⟨D, 4, none⟩ = some (.int .i64 E.days.last) := HD4.out.cell 4
    have d5 : w4.cell? ⟨D, 5, none⟩ = some (.int .i64 E.days.every) := HD4.out.cell 5
    have d6 : w4.cell? ⟨D, 6, none⟩ = some (.int .i64 E.days.wd) := HD4.out.cell 6
    have d7 : w4.cell? ⟨D, 7, none⟩ = some (.slice p E.days.ex.length cc) := HD4.out.cell 7
    have d8 : w4.cell? ⟨D, 8, none⟩ = some (.slice p2 E.days.xt.length cc2) := HD4.out.cell 8
    have d9 : w4.cell? ⟨D, 9, none⟩ = some (.int .i64 E.start) := HD4.out.cell 9
    have d10 : w4.cell? ⟨D, 10, none⟩ = some (.int .i64 E.mins) := HD4.out.cell 10
    have d11 : w4.cell? ⟨D, 11, none⟩ = some (.string E.summ) := HD4.out.cell 11
    have d12 : w4.cell? ⟨D, 12, none⟩ = some (.string E.loc) := HD4.out.cell 12
    go_upto_region 8 with (fail)
    clear d0 d1 d2 d3 d4 d5 d6 d7 d8 d9 d10 d11 d12; clear hrun5 HA4 HH4 HG4 HT4 HB4 hsz4 HD4 HX4 HY4 HRT; by_cases hex : ∃ x ∈ us, x.1.uid = E.uid
    rotate_left
    · have hno : ∀ x ∈ us, x.1.uid ≠ E.uid := fun x hx e => hex ⟨x, hx, e⟩
      have HES := Lib.hid (show advS k ei E = putE E ei from advS_no HA5.out.perm k hno)
      have hrun7 := HA5.out.map.look_no hno HUS.out
      rw [show evT zeroT = .agg #[.string ⟨#[]⟩, .int .i64 0, .bool false, .int .i64 0, .int .i64 0, .int .i64 0, .int .i64 0, .slice none 0 0, .slice none 0 0, .int .i64 0, .int .i64 0, .string ⟨#[]⟩, .string ⟨#[]⟩] from rfl] at hrun7
      clear hex hno; have d0 : w5.cell? ⟨D, 0, none⟩ = some (.string E.uid) := HD5.out.cell 0
      have d1 : w5.cell? ⟨D, 1, none⟩ = some (.int .i64 E.seq) := HD5.out.cell 1
      have d2 : w5.cell? ⟨D, 2, none⟩ = some (.bool E.canc) := HD5.out.cell 2
      have d3 : w5.cell? ⟨D, 3, none⟩ = some (.int .i64 E.days.first) := HD5.out.cell 3
      have d4 : w5.cell? ⟨D, 4, none⟩ = some (.int .i64 E.days.last) := HD5.out.cell 4
      have d5 : w5.cell? ⟨D, 5, none⟩ = some (.int .i64 E.days.every) := HD5.out.cell 5
      have d6 : w5.cell? ⟨D, 6, none⟩ = some (.int .i64 E.days.wd) := HD5.out.cell 6
      have d7 : w5.cell? ⟨D, 7, none⟩ = some (.slice p E.days.ex.length cc) := HD5.out.cell 7
      have d8 : w5.cell? ⟨D, 8, none⟩ = some (.slice p2 E.days.xt.length cc2) := HD5.out.cell 8
      have d9 : w5.cell? ⟨D, 9, none⟩ = some (.int .i64 E.start) := HD5.out.cell 9
      have d10 : w5.cell? ⟨D, 10, none⟩ = some (.int .i64 E.mins) := HD5.out.cell 10
      have d11 : w5.cell? ⟨D, 11, none⟩ = some (.string E.summ) := HD5.out.cell 11
      have d12 : w5.cell? ⟨D, 12, none⟩ = some (.string E.loc) := HD5.out.cell 12
      obtain ⟨O, hO⟩ : ∃ x, x = w5.heap.size := ⟨_, rfl⟩
      obtain ⟨w6, hw6⟩ : ∃ x, x = w5.alloc (.cells #[.string ⟨#[]⟩, .int .i64 0, .bool false, .int .i64 0, .int .i64 0, .int .i64 0, .int .i64 0, .slice none 0 0, .slice none 0 0, .int .i64 0, .int .i64 0, .string ⟨#[]⟩, .string ⟨#[]⟩] 104) := ⟨_, rfl⟩
      have HK6 := Lib.hid (show Below w5.heap.size w5 w6 from by rw [hw6]; exact below_box w5 _)
      have HO6 := Lib.hid (show Blk O #[.string ⟨#[]⟩, .int .i64 0, .bool false, .int .i64 0, .int .i64 0, .int .i64 0, .int .i64 0, .slice none 0 0, .slice none 0 0, .int .i64 0, .int .i64 0, .string ⟨#[]⟩, .string ⟨#[]⟩] 104 w6 from by rw [hw6, hO]; exact Blk.new w5 _ _)
      have HA6 := Lib.hid (HA5.out.below HK6.out)
      have HH6 := Lib.hid (HH5.out.block (HK6.out.block H HH5.out.lt))
      have HG6 := Lib.hid (HG5.out.below HK6.out HG5.out.lt)
      have HT6 := Lib.hid (HT5.out.below HK6.out HT5.out.lt)
      have HD6 := Lib.hid (HD5.out.below HK6.out HD5.out.lt)
      have HR6 := Lib.hid (HR5.out.below HK6.out)
      have HB6 := Lib.hid (HB5.out.trans (HK6.out.mono (Nat.le_of_lt HA5.out.map.lt)))
      have hsz6 : w1.heap.size ≤ w6.heap.size := Nat.le_trans hsz5 HK6.out.size
      go_upto_region 9 with (fail)
      rw [← hw6, ← hO]; clear hw6 hO hrun7 d0 d1 d2 d3 d4 d5 d6 d7 d8 d9 d10 d11 d12 HA5 HH5 HG5 HT5 HD5 HR5 HB5 hsz5 HK6; have hMG : G ≠ M := Nat.ne_of_gt hGM
      have hMT : T ≠ M := Nat.ne_of_gt hTM
      have hul2 : us.length < maxLen := by unfold maxLen; omega
      obtain ⟨w8, hrun8, hm8, ht8⟩ := HA6.out.map.put (E, .slice p E.days.ex.length cc, .slice p2 E.days.xt.length cc2) HUS.out hul2
      rw [show evT (E, .slice p E.days.ex.length cc, .slice p2 E.days.xt.length cc2) = .agg #[.string E.uid, .int .i64 E.seq, .bool E.canc, .int .i64 E.days.first, .int .i64 E.days.last, .int .i64 E.days.every, .int .i64 E.days.wd, .slice p E.days.ex.length cc, .slice p2 E.days.xt.length cc2, .int .i64 E.start, .int .i64 E.mins, .string E.summ, .string E.loc] from rfl] at hrun8
      have HA8 := Lib.hid (HA6.out.put hm8 ht8 HR6.out)
      have HH8 := Lib.hid (HH6.out.block (turned_other ht8 (Nat.ne_of_gt hMH)))
      have HG8 := Lib.hid (show Blk G #[.int .i64 g.days, .int .i64 g.slots, .int .i64 g.begin_, .int .i64 g.mins] 91 w8 from (turned_other ht8 hMG).trans HG6.out)
      have HT8 := Lib.hid (show Blk T #[.int .i64 t.first, .int .i64 t.weeks, .slice ao t.hols.length c] 94 w8 from (turned_other ht8 hMT).trans HT6.out)
      have HB8 := Lib.hid (HB6.out.trans (turned_below ht8 (Nat.le_refl _)))
      have hsz8 : w1.heap.size ≤ w8.heap.size := by rw [turned_size ht8]; exact hsz6
      have hpl := putM_len us (E, .slice p E.days.ex.length cc, .slice p2 E.days.xt.length cc2)
      clear hm8 ht8; have d0 : w6.cell? ⟨D, 0, none⟩ = some (.string E.uid) := HD6.out.cell 0
      have d1 : w6.cell? ⟨D, 1, none⟩ = some (.int .i64 E.seq) := HD6.out.cell 1
      have d2 : w6.cell? ⟨D, 2, none⟩ = some (.bool E.canc) := HD6.out.cell 2
      have d3 : w6.cell? ⟨D, 3, none⟩ = some (.int .i64 E.days.first) := HD6.out.cell 3
      have d4 : w6.cell? ⟨D, 4, none⟩ = some (.int .i64 E.days.last) := HD6.out.cell 4
      have d5 : w6.cell? ⟨D, 5, none⟩ = some (.int .i64 E.days.every) := HD6.out.cell 5
      have d6 : w6.cell? ⟨D, 6, none⟩ = some (.int .i64 E.days.wd) := HD6.out.cell 6
      have d7 : w6.cell? ⟨D, 7, none⟩ = some (.slice p E.days.ex.length cc) := HD6.out.cell 7
      have d8 : w6.cell? ⟨D, 8, none⟩ = some (.slice p2 E.days.xt.length cc2) := HD6.out.cell 8
      have d9 : w6.cell? ⟨D, 9, none⟩ = some (.int .i64 E.start) := HD6.out.cell 9
      have d10 : w6.cell? ⟨D, 10, none⟩ = some (.int .i64 E.mins) := HD6.out.cell 10
      have d11 : w6.cell? ⟨D, 11, none⟩ = some (.string E.summ) := HD6.out.cell 11
      have d12 : w6.cell? ⟨D, 12, none⟩ = some (.string E.loc) := HD6.out.cell 12
      go_wp2_with fail
      go_roundw
      case rel => exact ⟨i + 1, putM us (E, .slice p E.days.ex.length cc, .slice p2 E.days.xt.length cc2), by go_num, by omega, by omega, by rw [HF.out, List.foldl_append, ← HEI.out]; show Hid (AdvS M lo w8 _ (advS k ei E)); rw [HES.out]; exact HA8, by rw [HF.out, List.map_append]; exact HH8, HG8, HT8, HB8, hsz8⟩
      case measure => simp [intOf]; omega
    obtain ⟨x, hx, hxu⟩ := hex; obtain ⟨po, po2, co, co2, hxf⟩ := (HA5.out.ref x hx).form
    have HXR := Lib.hid (HA5.out.ref x hx)
    have hrun7 := HA5.out.map.look_yes hx (by have := (HA5.out.ref x hx).1.uid; unfold maxLen; omega)
    have HES := Lib.hid (advS_yes HA5.out.perm HA5.out.asc k HSQ.out hx hxu)
    rw [hxf] at hrun7 HXR
    rw [show (x.1, Value.slice po x.1.days.ex.length co, Value.slice po2 x.1.days.xt.length co2).1.uid = E.uid from hxu] at hrun7
    obtain ⟨eo, heo⟩ : ∃ e, e = x.1 := ⟨_, rfl⟩
    rw [← heo] at hrun7 HES HXR
    clear hx hxu hxf heo x; rw [show evT (eo, .slice po eo.days.ex.length co, .slice po2 eo.days.xt.length co2) = .agg #[.string eo.uid, .int .i64 eo.seq, .bool eo.canc, .int .i64 eo.days.first, .int .i64 eo.days.last, .int .i64 eo.days.every, .int .i64 eo.days.wd, .slice po eo.days.ex.length co, .slice po2 eo.days.xt.length co2, .int .i64 eo.start, .int .i64 eo.mins, .string eo.summ, .string eo.loc] from rfl] at hrun7
    have d0 : w5.cell? ⟨D, 0, none⟩ = some (.string E.uid) := HD5.out.cell 0
    have d1 : w5.cell? ⟨D, 1, none⟩ = some (.int .i64 E.seq) := HD5.out.cell 1
    have d2 : w5.cell? ⟨D, 2, none⟩ = some (.bool E.canc) := HD5.out.cell 2
    have d3 : w5.cell? ⟨D, 3, none⟩ = some (.int .i64 E.days.first) := HD5.out.cell 3
    have d4 : w5.cell? ⟨D, 4, none⟩ = some (.int .i64 E.days.last) := HD5.out.cell 4
    have d5 : w5.cell? ⟨D, 5, none⟩ = some (.int .i64 E.days.every) := HD5.out.cell 5
    have d6 : w5.cell? ⟨D, 6, none⟩ = some (.int .i64 E.days.wd) := HD5.out.cell 6
    have d7 : w5.cell? ⟨D, 7, none⟩ = some (.slice p E.days.ex.length cc) := HD5.out.cell 7
    have d8 : w5.cell? ⟨D, 8, none⟩ = some (.slice p2 E.days.xt.length cc2) := HD5.out.cell 8
    have d9 : w5.cell? ⟨D, 9, none⟩ = some (.int .i64 E.start) := HD5.out.cell 9
    have d10 : w5.cell? ⟨D, 10, none⟩ = some (.int .i64 E.mins) := HD5.out.cell 10
    have d11 : w5.cell? ⟨D, 11, none⟩ = some (.string E.summ) := HD5.out.cell 11
    have d12 : w5.cell? ⟨D, 12, none⟩ = some (.string E.loc) := HD5.out.cell 12
    obtain ⟨O, hO⟩ : ∃ x, x = w5.heap.size := ⟨_, rfl⟩
    obtain ⟨w6, hw6⟩ : ∃ x, x = w5.alloc (.cells #[.string eo.uid, .int .i64 eo.seq, .bool eo.canc, .int .i64 eo.days.first, .int .i64 eo.days.last, .int .i64 eo.days.every, .int .i64 eo.days.wd, .slice po eo.days.ex.length co, .slice po2 eo.days.xt.length co2, .int .i64 eo.start, .int .i64 eo.mins, .string eo.summ, .string eo.loc] 104) := ⟨_, rfl⟩
    have HK6 := Lib.hid (show Below w5.heap.size w5 w6 from by rw [hw6]; exact below_box w5 _)
    have HO6 := Lib.hid (show Blk O #[.string eo.uid, .int .i64 eo.seq, .bool eo.canc, .int .i64 eo.days.first, .int .i64 eo.days.last, .int .i64 eo.days.every, .int .i64 eo.days.wd, .slice po eo.days.ex.length co, .slice po2 eo.days.xt.length co2, .int .i64 eo.start, .int .i64 eo.mins, .string eo.summ, .string eo.loc] 104 w6 from by rw [hw6, hO]; exact Blk.new w5 _ _)
    have HA6 := Lib.hid (HA5.out.below HK6.out)
    have HH6 := Lib.hid (HH5.out.block (HK6.out.block H HH5.out.lt))
    have HG6 := Lib.hid (HG5.out.below HK6.out HG5.out.lt)
    have HT6 := Lib.hid (HT5.out.below HK6.out HT5.out.lt)
    have HD6 := Lib.hid (HD5.out.below HK6.out HD5.out.lt)
    have HR6 := Lib.hid (HR5.out.below HK6.out)
    have HB6 := Lib.hid (HB5.out.trans (HK6.out.mono (Nat.le_of_lt HA5.out.map.lt)))
    have hsz6 : w1.heap.size ≤ w6.heap.size := Nat.le_trans hsz5 HK6.out.size
    have HXR6 := Lib.hid (HXR.out.below HK6.out)
    go_upto_region 9 with (fail)
    rw [← hw6, ← hO]; clear hw6 hO hrun7 d0 d1 d2 d3 d4 d5 d6 d7 d8 d9 d10 d11 d12 HA5 HH5 HG5 HT5 HD5 HR5 HB5 hsz5 HK6 HXR; have d0 : w6.cell? ⟨D, 0, none⟩ = some (.string E.uid) := HD6.out.cell 0
    have d1 : w6.cell? ⟨D, 1, none⟩ = some (.int .i64 E.seq) := HD6.out.cell 1
    have d2 : w6.cell? ⟨D, 2, none⟩ = some (.bool E.canc) := HD6.out.cell 2
    have d3 : w6.cell? ⟨D, 3, none⟩ = some (.int .i64 E.days.first) := HD6.out.cell 3
    have d4 : w6.cell? ⟨D, 4, none⟩ = some (.int .i64 E.days.last) := HD6.out.cell 4
    have d5 : w6.cell? ⟨D, 5, none⟩ = some (.int .i64 E.days.every) := HD6.out.cell 5
    have d6 : w6.cell? ⟨D, 6, none⟩ = some (.int .i64 E.days.wd) := HD6.out.cell 6
    have d7 : w6.cell? ⟨D, 7, none⟩ = some (.slice p E.days.ex.length cc) := HD6.out.cell 7
    have d8 : w6.cell? ⟨D, 8, none⟩ = some (.slice p2 E.days.xt.length cc2) := HD6.out.cell 8
    have d9 : w6.cell? ⟨D, 9, none⟩ = some (.int .i64 E.start) := HD6.out.cell 9
    have d10 : w6.cell? ⟨D, 10, none⟩ = some (.int .i64 E.mins) := HD6.out.cell 10
    have d11 : w6.cell? ⟨D, 11, none⟩ = some (.string E.summ) := HD6.out.cell 11
    have d12 : w6.cell? ⟨D, 12, none⟩ = some (.string E.loc) := HD6.out.cell 12
    have q0 : w6.cell? ⟨O, 0, none⟩ = some (.string eo.uid) := HO6.out.cell 0
    have q1 : w6.cell? ⟨O, 1, none⟩ = some (.int .i64 eo.seq) := HO6.out.cell 1
    have q2 : w6.cell? ⟨O, 2, none⟩ = some (.bool eo.canc) := HO6.out.cell 2
    have q3 : w6.cell? ⟨O, 3, none⟩ = some (.int .i64 eo.days.first) := HO6.out.cell 3
    have q4 : w6.cell? ⟨O, 4, none⟩ = some (.int .i64 eo.days.last) := HO6.out.cell 4
    have q5 : w6.cell? ⟨O, 5, none⟩ = some (.int .i64 eo.days.every) := HO6.out.cell 5
    have q6 : w6.cell? ⟨O, 6, none⟩ = some (.int .i64 eo.days.wd) := HO6.out.cell 6
    have q7 : w6.cell? ⟨O, 7, none⟩ = some (.slice po eo.days.ex.length co) := HO6.out.cell 7
    have q8 : w6.cell? ⟨O, 8, none⟩ = some (.slice po2 eo.days.xt.length co2) := HO6.out.cell 8
    have q9 : w6.cell? ⟨O, 9, none⟩ = some (.int .i64 eo.start) := HO6.out.cell 9
    have q10 : w6.cell? ⟨O, 10, none⟩ = some (.int .i64 eo.mins) := HO6.out.cell 10
    have q11 : w6.cell? ⟨O, 11, none⟩ = some (.string eo.summ) := HO6.out.cell 11
    have q12 : w6.cell? ⟨O, 12, none⟩ = some (.string eo.loc) := HO6.out.cell 12
    have H199 := Lib.hid (same199 eo E po po2 p p2 co co2 cc cc2 w6.heap.size w6 (Nat.le_refl _) (RowI.ao HXR6.out.2.1) (RowI.ao HXR6.out.2.2) (RowI.ao HR6.out.2.1) (RowI.ao HR6.out.2.2) HXR6.out.1.ex HXR6.out.1.xt HEB.out.ex HEB.out.xt)
    obtain ⟨b2, hb2⟩ : ∃ b, b = sameQ eo E := ⟨_, rfl⟩
    rw [← hb2] at H199 HES
    clear hb2; go_wp2_with fail
    refine H199.out.mono ?_
    clear H199; rintro e w7 ⟨rfl, hb⟩; have HK7 := Lib.hid hb; clear hb d0 d1 d2 d3 d4 d5 d6 d7 d8 d9 d10 d11 d12 q0 q1 q2 q3 q4 q5 q6 q7 q8 q9 q10 q11 q12; have HA7 := Lib.hid (HA6.out.below HK7.out)
    have HH7 := Lib.hid (HH6.out.block (HK7.out.block H HH6.out.lt))
    have HG7 := Lib.hid (HG6.out.below HK7.out HG6.out.lt)
    have HT7 := Lib.hid (HT6.out.below HK7.out HT6.out.lt)
    have HD7 := Lib.hid (HD6.out.below HK7.out HD6.out.lt)
    have HR7 := Lib.hid (HR6.out.below HK7.out)
    have HB7 := Lib.hid (HB6.out.trans (HK7.out.mono (Nat.le_of_lt HA6.out.map.lt)))
    have hsz7 : w1.heap.size ≤ w7.heap.size := Nat.le_trans hsz6 HK7.out.size
    clear HA6 HH6 HG6 HT6 HD6 HR6 HB6 hsz6 HK7 HXR6 HO6; cases b2
    rotate_left
    · have HES := Lib.hid (show advS k ei E = ei from HES.out)
      go_wp2_with fail
      go_roundw
      case rel => exact ⟨i + 1, us, by go_num, by omega, by omega, by rw [HF.out, List.foldl_append, ← HEI.out]; show Hid (AdvS M lo w7 _ (advS k ei E)); rw [HES.out]; exact HA7, by rw [HF.out, List.map_append]; exact HH7, HG7, HT7, HB7, hsz7⟩
      case measure => simp [intOf]; omega
    have HES := Lib.hid (show advS k ei E = putE E ei from HES.out.trans (if_neg (by decide)))
    have hMG : G ≠ M := Nat.ne_of_gt hGM
    have hMT : T ≠ M := Nat.ne_of_gt hTM
    have hul2 : us.length < maxLen := by unfold maxLen; omega
    obtain ⟨w8, hrun8, hm8, ht8⟩ := HA7.out.map.put (E, .slice p E.days.ex.length cc, .slice p2 E.days.xt.length cc2) HUS.out hul2
    rw [show evT (E, .slice p E.days.ex.length cc, .slice p2 E.days.xt.length cc2) = .agg #[.string E.uid, .int .i64 E.seq, .bool E.canc, .int .i64 E.days.first, .int .i64 E.days.last, .int .i64 E.days.every, .int .i64 E.days.wd, .slice p E.days.ex.length cc, .slice p2 E.days.xt.length cc2, .int .i64 E.start, .int .i64 E.mins, .string E.summ, .string E.loc] from rfl] at hrun8
    have HA8 := Lib.hid (HA7.out.put hm8 ht8 HR7.out)
    have HH8 := Lib.hid (HH7.out.block (turned_other ht8 (Nat.ne_of_gt hMH)))
    have HG8 := Lib.hid (show Blk G #[.int .i64 g.days, .int .i64 g.slots, .int .i64 g.begin_, .int .i64 g.mins] 91 w8 from (turned_other ht8 hMG).trans HG7.out)
    have HT8 := Lib.hid (show Blk T #[.int .i64 t.first, .int .i64 t.weeks, .slice ao t.hols.length c] 94 w8 from (turned_other ht8 hMT).trans HT7.out)
    have HB8 := Lib.hid (HB7.out.trans (turned_below ht8 (Nat.le_refl _)))
    have hsz8 : w1.heap.size ≤ w8.heap.size := by rw [turned_size ht8]; exact hsz7
    have hpl := putM_len us (E, .slice p E.days.ex.length cc, .slice p2 E.days.xt.length cc2)
    clear hm8 ht8; have d0 : w7.cell? ⟨D, 0, none⟩ = some (.string E.uid) := HD7.out.cell 0
    have d1 : w7.cell? ⟨D, 1, none⟩ = some (.int .i64 E.seq) := HD7.out.cell 1
    have d2 : w7.cell? ⟨D, 2, none⟩ = some (.bool E.canc) := HD7.out.cell 2
    have d3 : w7.cell? ⟨D, 3, none⟩ = some (.int .i64 E.days.first) := HD7.out.cell 3
    have d4 : w7.cell? ⟨D, 4, none⟩ = some (.int .i64 E.days.last) := HD7.out.cell 4
    have d5 : w7.cell? ⟨D, 5, none⟩ = some (.int .i64 E.days.every) := HD7.out.cell 5
    have d6 : w7.cell? ⟨D, 6, none⟩ = some (.int .i64 E.days.wd) := HD7.out.cell 6
    have d7 : w7.cell? ⟨D, 7, none⟩ = some (.slice p E.days.ex.length cc) := HD7.out.cell 7
    have d8 : w7.cell? ⟨D, 8, none⟩ = some (.slice p2 E.days.xt.length cc2) := HD7.out.cell 8
    have d9 : w7.cell? ⟨D, 9, none⟩ = some (.int .i64 E.start) := HD7.out.cell 9
    have d10 : w7.cell? ⟨D, 10, none⟩ = some (.int .i64 E.mins) := HD7.out.cell 10
    have d11 : w7.cell? ⟨D, 11, none⟩ = some (.string E.summ) := HD7.out.cell 11
    have d12 : w7.cell? ⟨D, 12, none⟩ = some (.string E.loc) := HD7.out.cell 12
    go_wp2_with fail
    go_roundw
    case rel => exact ⟨i + 1, putM us (E, .slice p E.days.ex.length cc, .slice p2 E.days.xt.length cc2), by go_num, by omega, by omega, by rw [HF.out, List.foldl_append, ← HEI.out]; show Hid (AdvS M lo w8 _ (advS k ei E)); rw [HES.out]; exact HA8, by rw [HF.out, List.map_append]; exact HH8, HG8, HT8, HB8, hsz8⟩
    case measure => simp [intOf]; omega
end Go.Proofs.YtcomifbfldoeiaaGreatDoor
