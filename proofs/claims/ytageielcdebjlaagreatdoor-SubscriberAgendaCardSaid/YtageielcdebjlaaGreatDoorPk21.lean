/- subscriber.Agenda: its contract: the entries of the shown events in a time, in order. Conditions: lists within bounds. Plain facts on the reference's Put: an event laid into a list in the order of the identifiers. No program in sight. Condition: none. Plain facts on the order of identifiers, and on valid lists of events. No program in sight. Condition: none. -/
import Derived.Test.YtageielcdebjlaaGreatDoorSrtA
import Derived.Test.YtageielcdebjlaaGreatDoorPk16
import Derived.Test.YtageielcdebjlaaGreatDoorPk18
import Derived.Test.YtageielcdebjlaaGreatDoorPk20
import Derived.Test.YtageielcdebjlaaGreatDoorPk10
import Derived.Sort.Walk0
namespace Go.Proofs.YtageielcdebjlaaGreatDoor
open Go.RowKit

/-- The entries of an event in a time. -/
def pickE (lo hi : Int) (e : Ev) (l : List Int) : List Ent := Tt.pick lo hi e.mins e.uid l
theorem pick_len (lo hi : Int) (e : Ev) (l : List Int) : (pickE lo hi e l).length ≤ l.length := by
  unfold pickE Tt.pick
  rw [List.length_map]
  exact List.length_filter_le _ _
theorem pick_take (lo hi : Int) (e : Ev) (l : List Int) (j : Nat) (t : Int) (h : l[j]? = some t) : pickE lo hi e (l.take (j + 1)) = pickE lo hi e (l.take j) ++ (if lo ≤ t ∧ t < hi then [⟨t, e.mins, e.uid⟩] else []) := by
  obtain ⟨h1, h2⟩ := List.getElem?_eq_some_iff.1 h
  unfold pickE Tt.pick
  rw [List.take_succ_eq_append_getElem h1, List.filter_append, List.map_append, h2]
  congr 1
  by_cases k : lo ≤ t ∧ t < hi
  · rw [if_pos k]; simp [k.1, k.2]
  · rw [if_neg k, List.filter_cons_of_neg]
    · rfl
    · simpa using k
def agRun (code : Bool) (v : Int) (sh : List (Int × Int)) (lo hi : Int) : List Ev → List Ent → List Ent × Int
  | [], out => (out, 0)
  | e :: r, out => if (startsV code v sh e).2 ≠ 0 then ([], (startsV code v sh e).2) else agRun code v sh lo hi r (out ++ pickE lo hi e (startsV code v sh e).1)
def agendaV (rv : Int) (es : List Ev) (code : Bool) (v : Int) (sh : List (Int × Int)) (lo hi : Int) : List Ent × Int :=
  if rdOk rv es = false then ([], 1)
  else if (agRun code v sh lo hi (shownV rv es) []).2 ≠ 0 then ([], (agRun code v sh lo hi (shownV rv es) []).2)
  else if Tt.zoneV code v sh ≠ 0 then ([], Tt.zoneV code v sh)
  else ((agRun code v sh lo hi (shownV rv es) []).1, 0)

set_option maxHeartbeats 16000000 in
set_option maxRecDepth 100000 in
theorem agenda32g (rv tag : Int) (ar : Option Addr) (cr : Nat) (rs : List (Ev × Value × Value)) (zn : ByteArray) (zv : Int) (az : Option Addr) (cz : Nat) (sh : List (Int × Int)) (lo hi : Int) (w : World) (hR : Seg w.heap.size w ar rs) (hZ : Shs w.heap.size w az sh)
    (hrl : rs.length ≤ 1000000) (hzl : sh.length ≤ 1000000) (hsr : ∀ t ∈ rs, t.1.days.ex.length ≤ 1000000 ∧ t.1.days.xt.length ≤ 1000000) (hsb : ∀ e ∈ shownV rv (rs.map (·.1)), (startsV (Tt.code zn.data.toList) zv sh e).1.length ≤ 1000) :
    Calls Tryz.prog 32 #[.agg #[.int .i64 rv, .int .i64 tag, .slice ar rs.length cr], .agg #[.string zn, .int .i64 zv, .slice az sh.length cz], .int .i64 lo, .int .i64 hi] w fun x w' => ∃ (pa : Option Addr) (ca : Nat) (l l0 : List Ent) (c : Int), x = .returned (.tuple #[.slice pa l.length ca, .int .i64 c]) ∧ (l0, c) = agendaV rv (rs.map (·.1)) (Tt.code zn.data.toList) zv sh lo hi ∧ l0.Perm l ∧ Sort.SortedIn Tt.entLt 0 l.length l.toArray ∧ RowA w.heap.size w' (.slice pa l.length ca) l ∧ Below w.heap.size w w' := by
  obtain ⟨i0, hi0, hz0, hz1, hz2⟩ := info_parts infoEnt
  obtain ⟨w0, hw0⟩ : ∃ w0, w0 = (w.alloc (.cells #[.int .i64 rv, .int .i64 tag, .slice ar rs.length cr] 24)).alloc (.cells #[.string zn, .int .i64 zv, .slice az sh.length cz] 50) := ⟨_, rfl⟩
  have HRB := Lib.hid (show Blk w.heap.size #[.int .i64 rv, .int .i64 tag, .slice ar rs.length cr] 24 w0 from by rw [hw0]; exact (Blk.new w _ _).alloc _)
  have HZB := Lib.hid (show Blk (w.heap.size + 1) #[.string zn, .int .i64 zv, .slice az sh.length cz] 50 w0 from by rw [hw0]; exact Blk.new' (g := w.heap.size + 1) _ _ _ (by simp))
  have HL := Lib.hid (show Below w.heap.size w w0 from by rw [hw0]; exact (below_box w _).alloc (by simp) _)
  have HR := Lib.hid hR; have HZ := Lib.hid hZ; have HSR := Lib.hid hsr; have HB1 := Lib.hid hsb; obtain ⟨m, hm⟩ : ∃ m, m = rs.length := ⟨_, rfl⟩
  obtain ⟨zl, hzl2⟩ : ∃ zl, zl = sh.length := ⟨_, rfl⟩
  obtain ⟨es, hes⟩ : ∃ es, es = rs.map (·.1) := ⟨_, rfl⟩
  have HLM := Lib.hid (show es.length = m from by simp [hm, hes])
  have HZL := Lib.hid hzl2; have Hm := Lib.hid hm; have Hes := Lib.hid hes; have HV1 : Hid (∀ W, Below w.heap.size w W → Calls Tryz.prog 24 #[.agg #[.int .i64 rv, .int .i64 tag, .slice ar m cr]] W fun e w' => e = .returned (.bool (rdOk rv es)) ∧ Below W.heap.size W w') := Lib.hid (fun W hW => by
    have h := valid24 rv tag es ar cr w.heap.size W hW.size (by rw [Hes.out]; exact (HR.out.below hW).evs) (by rw [HLM.out]; omega)
    rw [HLM.out] at h
    exact h)
  have HV2 : Hid (∀ W, Below w.heap.size w W → Calls Tryz.prog 64 #[.agg #[.int .i64 rv, .int .i64 tag, .slice ar m cr]] W fun x w' => ∃ (pu : Option Addr) (cu : Nat) (ts : List (Ev × Value × Value)), x = .returned (.slice pu ts.length cu) ∧ ts.map (·.1) = shownV rv es ∧ RowT W.heap.size w' (.slice pu ts.length cu) ts ∧ Below W.heap.size W w') := Lib.hid (fun W hW => by
    have h := shown64 rv tag ar cr rs W ((HR.out.below hW).mono hW.size) (by rw [← Hm.out]; omega) HSR.out
    rw [← Hm.out, ← Hes.out] at h
    exact h)
  have HV3 : Hid (∀ W, Below w.heap.size w W → Calls Tryz.prog 59 #[.agg #[.string zn, .int .i64 zv, .slice az zl cz]] W fun e w' => e = .returned (.int .i64 (Tt.zoneV (Tt.code zn.data.toList) zv sh)) ∧ Below W.heap.size W w') := Lib.hid (fun W hW => by
    have h := zone59 zn zv sh az cz w.heap.size W hW.size (HZ.out.below hW) (by rw [← HZL.out]; omega)
    rw [← HZL.out] at h
    exact h)
  rw [← hes] at HB1 ⊢
  rw [← hm, ← hzl2] at hw0 ⊢
  rw [← hm] at HRB hrl
  rw [← hzl2] at HZB hzl
  clear hR hZ hsr hsb hm hzl2 hes; have y0 : w0.cell? ⟨w.heap.size, 0, none⟩ = some (.int .i64 rv) := HRB.out.cell 0
  have y1 : w0.cell? ⟨w.heap.size, 1, none⟩ = some (.int .i64 tag) := HRB.out.cell 1
  have y2 : w0.cell? ⟨w.heap.size, 2, none⟩ = some (.slice ar m cr) := HRB.out.cell 2
  go_enter Tryz.func32, Tryz.ntmps32
  go_upto_region 1 with (fail)
  rw [← hw0]; clear hw0; go_wp2_with fail
  refine (HV1.out _ HL.out).mono ?_
  rintro e w1 ⟨rfl, hb1⟩; have HRB1 := Lib.hid (HRB.out.below hb1 HRB.out.lt)
  have HZB1 := Lib.hid (HZB.out.below hb1 HZB.out.lt)
  have HL1 := Lib.hid (HL.out.trans (hb1.mono HL.out.size))
  clear hb1 y0 y1 y2 HRB HZB HL HV1; by_cases hok : rdOk rv es = false
  · have hnk : (!rdOk rv es) = true := by rw [hok]; rfl
    have HAV := Lib.hid (show agendaV rv es (Tt.code zn.data.toList) zv sh lo hi = ([], 1) from by unfold agendaV; rw [if_pos hok])
    go_wp2_with fail
    go_ret2
    exact ⟨none, 0, [], [], 1, rfl, HAV.out.symm, List.Perm.refl _, sorted_nil, World.ownsRow_nil _ _ _ _, HL1.out⟩
  · have hok : rdOk rv es = true := by simpa using hok
    have hnk : (!rdOk rv es) = false := by rw [hok]; rfl
    have HOK := Lib.hid hok; have y0 : w1.cell? ⟨w.heap.size, 0, none⟩ = some (.int .i64 rv) := HRB1.out.cell 0
    have y1 : w1.cell? ⟨w.heap.size, 1, none⟩ = some (.int .i64 tag) := HRB1.out.cell 1
    have y2 : w1.cell? ⟨w.heap.size, 2, none⟩ = some (.slice ar m cr) := HRB1.out.cell 2
    go_wp2_with fail
    refine (HV2.out _ HL1.out).mono ?_
    rintro x w2 ⟨pu, cu, us, rfl, hus, hT2, hb2⟩; have HT2 := Lib.hid (hT2.mono HL1.out.size)
    have HUS0 := Lib.hid hus; have HZB2 := Lib.hid (HZB1.out.below hb2 HZB1.out.lt)
    have HL2 := Lib.hid (HL1.out.trans (hb2.mono HL1.out.size))
    clear hus hT2 hb2 y0 y1 y2 HRB1 HZB1 HL1 HV2 hnk; obtain ⟨ses, hses⟩ : ∃ ses, ses = shownV rv es := ⟨_, rfl⟩
    have HSES := Lib.hid hses.symm
    have HUS := Lib.hid (show us.map (·.1) = ses from by rw [HUS0.out, hses])
    rw [← hses] at HB1
    clear hses HUS0; obtain ⟨n, hn⟩ : ∃ n, n = us.length := ⟨_, rfl⟩
    have Hn := Lib.hid hn; have HLN := Lib.hid (show ses.length = n from by rw [← HUS.out, List.length_map, hn])
    have hnn : n ≤ 1000000 := by
      have h1 := HUS.out; have h2 : ses.length ≤ es.length := by
        rw [← HSES.out]; unfold shownV
        split
        all_goals first | exact List.length_filter_le _ _ | exact Nat.zero_le _
      rw [HLM.out, HLN.out] at h2
      omega
    rw [← hn] at HT2 ⊢
    clear hn; go_wp2_with fail
    go_loopw [10, 24] (fun s10 iv wr => ∃ (k : Nat) (pa : Option Addr) (ca : Nat) (ents : List Ent), s10 = .slice pa ents.length ca ∧ iv = .int .i64 k ∧ k ≤ n ∧ ents.length ≤ 1000 * k ∧ Hid (RowA w.heap.size wr (.slice pa ents.length ca) ents) ∧ Hid (agRun (Tt.code zn.data.toList) zv sh lo hi ses [] = agRun (Tt.code zn.data.toList) zv sh lo hi (ses.drop k) ents) ∧ Hid (RowT w.heap.size wr (.slice pu n cu) us) ∧ Hid (Blk (w.heap.size + 1) #[.string zn, .int .i64 zv, .slice az zl cz] 50 wr) ∧ Hid (Below w.heap.size w wr)) (fun _ iv _ => n - (intOf iv).toNat)
    case atStart => exact ⟨0, none, 0, [], rfl, rfl, Nat.zero_le _, Nat.le_refl _, Lib.hid (World.ownsRow_nil _ _ _ _), Lib.hid rfl, HT2, HZB2, HL2⟩
    case round =>
      clear HT2 HZB2 HL2; obtain ⟨k, pa, ca, ents, rfl, rfl, hk, hek, HA, HREL, HT, HZB, HL⟩ := hrel; have hNr : w.heap.size ≤ wr.heap.size := HL.out.size
      by_cases hlt : k < n
      · have hlti : (k : Int) < n := by omega
        obtain ⟨t, ht⟩ : ∃ t, us[k]? = some t := ⟨_, List.getElem?_eq_getElem (by rw [← Hn.out]; exact hlt)⟩
        obtain ⟨e, va, vb⟩ := t; obtain ⟨bf, hpu⟩ : ∃ g, pu = some ⟨g, 0, none⟩ := by
          rcases HT.out.row.2 with ⟨_, h0⟩ | ⟨g, cap, cur, hv, _⟩
          · rw [← Hn.out] at h0; omega
          · simp only [Value.slice.injEq] at hv; exact ⟨g, hv.1⟩
        subst hpu; have hev := HT.out.ev k _ ht; have hRf := HT.out.ref _ (List.mem_of_getElem? ht)
        obtain ⟨hEB, hja, hjb⟩ := id hRf
        obtain ⟨pe, ke, hva, hia⟩ := hja.ints
        obtain ⟨pf, kf, hvb, hib⟩ := hjb.ints
        clear hja hjb; simp only at hva hvb hia hib
        subst hva; subst hvb; have HFK := Lib.hid (show ses[k]? = some e from by rw [← HUS.out, List.getElem?_map, ht]; rfl)
        obtain ⟨c0, c1, c2, c3, c4, c5, c6, c7, c8, c9, c10, c11, c12⟩ := hev; simp only at c0 c1 c2 c3 c4 c5 c6 c7 c8 c9 c10 c11 c12
        obtain ⟨X, hX⟩ : ∃ X, X = wr.alloc (.cells #[.string e.uid, .int .i64 e.seq, .bool e.canc, .int .i64 e.days.first, .int .i64 e.days.last, .int .i64 e.days.every, .int .i64 e.days.wd, .slice pe e.days.ex.length ke, .slice pf e.days.xt.length kf, .int .i64 e.start, .int .i64 e.mins, .string e.summ, .string e.loc] 82) := ⟨_, rfl⟩
        have HXE := Lib.hid (show Blk wr.heap.size (evCells e (.slice pe e.days.ex.length ke) (.slice pf e.days.xt.length kf)) 82 X from by rw [hX]; exact Blk.new wr _ _)
        have HX := Lib.hid (show Below wr.heap.size wr X from by rw [hX]; exact below_box wr _)
        have hNX : w.heap.size ≤ X.heap.size := by have := HX.out.size; omega
        have HLX := Lib.hid (HL.out.trans (HX.out.mono hNr))
        have HTX := Lib.hid (HT.out.made HX.out)
        have HAX := Lib.hid (row_made HA.out HX.out)
        have HZX := Lib.hid (HZB.out.below HX.out HZB.out.lt)
        have HST := Lib.hid (show Calls Tryz.prog 55 #[.agg #[.string e.uid, .int .i64 e.seq, .bool e.canc, .int .i64 e.days.first, .int .i64 e.days.last, .int .i64 e.days.every, .int .i64 e.days.wd, .slice pe e.days.ex.length ke, .slice pf e.days.xt.length kf, .int .i64 e.start, .int .i64 e.mins, .string e.summ, .string e.loc], .agg #[.string zn, .int .i64 zv, .slice az zl cz]] X fun x w' => ∃ u, x = .returned (.tuple #[u, .int .i64 (startsV (Tt.code zn.data.toList) zv sh e).2]) ∧ w'.ownsRow X.heap.size 3 1 u (startsV (Tt.code zn.data.toList) zv sh e).1.length ((startsV (Tt.code zn.data.toList) zv sh e).1.map (Value.int .i64)) ∧ Below X.heap.size X w' from by
          have h := starts55 zn zv sh az cz e X.heap.size X pe pf ke kf (Nat.le_refl _) ((hia.below HX.out).mono HX.out.size) ((hib.below HX.out).mono HX.out.size) hEB hEB.uid ((HZ.out.below HLX.out).mono hNX) (by rw [← HZL.out]; omega)
          rw [← HZL.out] at h
          exact h)
        clear hEB hia hib hRf ht; go_upto_region 7 with (fail)
        rw [← hX]; clear hX HT HL HA HZB c0 c1 c2 c3 c4 c5 c6 c7 c8 c9 c10 c11 c12; have y0 : X.cell? ⟨wr.heap.size, 0, none⟩ = some (.string e.uid) := HXE.out.cell 0
        have y1 : X.cell? ⟨wr.heap.size, 1, none⟩ = some (.int .i64 e.seq) := HXE.out.cell 1
        have y2 : X.cell? ⟨wr.heap.size, 2, none⟩ = some (.bool e.canc) := HXE.out.cell 2
        have y3 : X.cell? ⟨wr.heap.size, 3, none⟩ = some (.int .i64 e.days.first) := HXE.out.cell 3
        have y4 : X.cell? ⟨wr.heap.size, 4, none⟩ = some (.int .i64 e.days.last) := HXE.out.cell 4
        have y5 : X.cell? ⟨wr.heap.size, 5, none⟩ = some (.int .i64 e.days.every) := HXE.out.cell 5
        have y6 : X.cell? ⟨wr.heap.size, 6, none⟩ = some (.int .i64 e.days.wd) := HXE.out.cell 6
        have y7 : X.cell? ⟨wr.heap.size, 7, none⟩ = some (.slice pe e.days.ex.length ke) := HXE.out.cell 7
        have y8 : X.cell? ⟨wr.heap.size, 8, none⟩ = some (.slice pf e.days.xt.length kf) := HXE.out.cell 8
        have y9 : X.cell? ⟨wr.heap.size, 9, none⟩ = some (.int .i64 e.start) := HXE.out.cell 9
        have y10 : X.cell? ⟨wr.heap.size, 10, none⟩ = some (.int .i64 e.mins) := HXE.out.cell 10
        have y11 : X.cell? ⟨wr.heap.size, 11, none⟩ = some (.string e.summ) := HXE.out.cell 11
        have y12 : X.cell? ⟨wr.heap.size, 12, none⟩ = some (.string e.loc) := HXE.out.cell 12
        have z0 : X.cell? ⟨w.heap.size + 1, 0, none⟩ = some (.string zn) := HZX.out.cell 0
        have z1 : X.cell? ⟨w.heap.size + 1, 1, none⟩ = some (.int .i64 zv) := HZX.out.cell 1
        have z2 : X.cell? ⟨w.heap.size + 1, 2, none⟩ = some (.slice az zl cz) := HZX.out.cell 2
        go_wp2_with fail
        refine HST.out.mono ?_
        rintro x X1 ⟨u, rfl, hu, hb1⟩; obtain ⟨SL, hSL⟩ : ∃ SL, SL = (startsV (Tt.code zn.data.toList) zv sh e).1 := ⟨_, rfl⟩
        obtain ⟨SC, hSC⟩ : ∃ SC, SC = (startsV (Tt.code zn.data.toList) zv sh e).2 := ⟨_, rfl⟩
        have HSL := Lib.hid hSL; have HSC := Lib.hid hSC; rw [← hSL] at hu
        rw [← hSC]; have hu : RowI X.heap.size X1 u SL := hu
        obtain ⟨ps, cs, hus⟩ := hu.slice
        subst hus; have hSn := hu.few; have HU := Lib.hid hu; clear hu hSL hSC; obtain ⟨sn, hsn⟩ : ∃ sn, sn = SL.length := ⟨_, rfl⟩
        have HSN := Lib.hid hsn; rw [← hsn] at hSn ⊢
        clear hsn; have HX1 := Lib.hid (HX.out.trans (hb1.mono HX.out.size))
        have HE1 := Lib.hid (HXE.out.below hb1 HXE.out.lt)
        have HT1 := Lib.hid (HTX.out.made hb1)
        have HA1 := Lib.hid (row_made HAX.out hb1)
        have HZ1 := Lib.hid (HZX.out.below hb1 HZX.out.lt)
        have HL1 := Lib.hid (HLX.out.trans (hb1.mono hNX))
        clear hb1 HXE HTX HAX HZX HLX HX HST z0 z1 z2 y0 y1 y2 y3 y4 y5 y6 y7 y8 y9 y10 y11 y12; obtain ⟨E, hE⟩ : ∃ E, E = wr.heap.size := ⟨_, rfl⟩
        rw [← hE] at HE1 ⊢
        clear hE; have hs1 : sn ≤ 1000 := by have h := HB1.out e (by have := List.mem_of_getElem? HFK.out; exact this); rw [← HSL.out] at h; rw [HSN.out]; exact h
        by_cases hsc : SC ≠ 0
        · have HEND := Lib.hid (show agRun (Tt.code zn.data.toList) zv sh lo hi ses [] = ([], SC) from by rw [HREL.out, List.drop_eq_getElem_cons (List.getElem?_eq_some_iff.1 HFK.out).1, (List.getElem?_eq_some_iff.1 HFK.out).2, agRun, ← HSC.out, if_pos hsc])
          have HAV := Lib.hid (show agendaV rv es (Tt.code zn.data.toList) zv sh lo hi = ([], SC) from by unfold agendaV; rw [if_neg (by rw [HOK.out]; simp), HSES.out, HEND.out, if_pos hsc])
          go_wp2_with fail
          go_ret2
          exact ⟨none, 0, [], [], SC, rfl, HAV.out.symm, List.Perm.refl _, sorted_nil, World.ownsRow_nil _ _ _ _, HL1.out⟩
        · have hsc : SC = 0 := Decidable.of_not_not hsc
          subst hsc; have HSTEP := Lib.hid (show agRun (Tt.code zn.data.toList) zv sh lo hi ses [] = agRun (Tt.code zn.data.toList) zv sh lo hi (ses.drop (k + 1)) (ents ++ pickE lo hi e SL) from by rw [HREL.out, List.drop_eq_getElem_cons (List.getElem?_eq_some_iff.1 HFK.out).1, (List.getElem?_eq_some_iff.1 HFK.out).2, agRun, ← HSC.out, if_neg (by simp), ← HSL.out])
          go_wp2_with fail
          go_loopw [10, 39] (fun s10 jv wr => ∃ (j : Nat) (pn : Option Addr) (cn : Nat) (ns : List Ent), s10 = .slice pn ns.length cn ∧ jv = .int .i64 j ∧ j ≤ sn ∧ Hid (RowA w.heap.size wr (.slice pn ns.length cn) ns) ∧ Hid (ns = ents ++ pickE lo hi e (SL.take j)) ∧ Hid (RowI X.heap.size wr (.slice ps sn cs) SL) ∧ Hid (RowT w.heap.size wr (.slice (some ⟨bf, 0, none⟩) n cu) us) ∧ Hid (Blk (w.heap.size + 1) #[.string zn, .int .i64 zv, .slice az zl cz] 50 wr) ∧ Hid (Blk E (evCells e (.slice pe e.days.ex.length ke) (.slice pf e.days.xt.length kf)) 82 wr) ∧ Hid (Below w.heap.size w wr)) (fun _ jv _ => sn - (intOf jv).toNat)
          case atStart => exact ⟨0, pa, ca, ents, rfl, rfl, Nat.zero_le _, HA1, Lib.hid (by simp [pickE, Tt.pick]), Lib.hid (by rw [HSN.out]; exact HU.out), HT1, HZ1, HE1, HL1⟩
          case round =>
            clear HA1 HU HT1 HZ1 HE1 HL1; obtain ⟨j, pn, cn, ns, rfl, rfl, hj, HA, HNS, HU, HT, HZB, HE, HL⟩ := hrel; by_cases hjl : j < sn
            · have hjli : (j : Int) < sn := by omega
              obtain ⟨T, hT⟩ : ∃ T, SL[j]? = some T := ⟨_, List.getElem?_eq_getElem (by rw [← HSN.out]; exact hjl)⟩
              obtain ⟨ad, had, -, hcT⟩ : ∃ a, ps = some a ∧ a.block < 0 + (a.block + 1) ∧ (a.add j).block = (a.add j).block := by
                obtain ⟨a2, c2, h1, h2⟩ := HU.out.ints
                simp only [Value.slice.injEq] at h1
                obtain ⟨a, ha, _, _⟩ := h2 j T hT
                exact ⟨a, by rw [h1.1, ha], by omega, rfl⟩
              have hcell : wr.cell? (ad.add j) = some (.int .i64 T) := by
                obtain ⟨a2, c2, h1, h2⟩ := HU.out.ints
                simp only [Value.slice.injEq] at h1
                obtain ⟨a, ha, _, h3⟩ := h2 j T hT
                rw [had] at h1
                rw [ha] at h1
                simp only [Option.some.injEq] at h1
                rw [h1.1]; exact h3
              subst had; clear hcT; have HTK := Lib.hid hT; clear hT; have y0 : wr.cell? ⟨E, 0, none⟩ = some (.string e.uid) := HE.out.cell 0
              have y10 : wr.cell? ⟨E, 10, none⟩ = some (.int .i64 e.mins) := HE.out.cell 10
              by_cases h1 : lo ≤ T
              · by_cases h2 : T < hi
                · have hnl : ns.length ≤ 1000 * k + 1000 := by rw [HNS.out, List.length_append]; have h := pick_len lo hi e (SL.take j); rw [List.length_take] at h; omega
                  have hA1 : ns.length + 1 ≤ maxLen := by unfold maxLen; omega
                  have hA2 : (ns.length + 1) * 32 ≤ 140737488355328 := by omega
                  have hNq := HL.out.size; have HK := Lib.hid (And.intro h1 h2)
                  clear hnl; go_wp2_with (at_builtin; refine wpList_append_own_at _ rfl (.tmp 51) (.tmp 58) 53 rfl w.heap.size 57 i0 _ 3 32 Tryz.underlying53 hi0 hz0 hz1 hz2 rfl (by decide) _ _ _ rfl (World.ownsRow.alloc HA.out (.cells #[.int .i64 T, .int .i64 e.mins, .string e.uid] 57)) ⟨wr.heap.size, 0, none⟩ 1 1 [.int .i64 T, .int .i64 e.mins, .string e.uid] rfl rfl (blk_cells (Blk.new wr #[.int .i64 T, .int .i64 e.mins, .string e.uid] 57)) (by intro u hu; simp only [List.mem_cons, List.not_mem_nil, or_false] at hu; rcases hu with rfl | rfl | rfl <;> rfl) hA1 hA2 (by simp; omega) ?_)
                  intro v' x8 hown8 hgrow _ _; obtain ⟨p8, q8, hv8⟩ := ownsRow_len hown8
                  subst hv8; have HA8 := Lib.hid (show RowA w.heap.size x8 (.slice p8 (ns ++ [(⟨T, e.mins, e.uid⟩ : Ent)]).length q8) (ns ++ [(⟨T, e.mins, e.uid⟩ : Ent)]) from by unfold RowA; rw [aCells_snoc, List.length_append]; exact hown8)
                  have HNS8 := Lib.hid (show ns ++ [⟨T, e.mins, e.uid⟩] = ents ++ pickE lo hi e (SL.take (j + 1)) from by rw [HNS.out, pick_take lo hi e SL j T HTK.out, if_pos HK.out, List.append_assoc])
                  have kp : ∀ {lo2 k2 n2 : Nat} {v2 : Value} {xs2 : List Value} {ty : TypeId}, ty ≠ 57 → wr.ownsRow lo2 ty k2 v2 n2 xs2 → x8.ownsRow lo2 ty k2 v2 n2 xs2 := fun hty h => World.ownsRow.kept (World.ownsRow.alloc h (.cells #[.int .i64 T, .int .i64 e.mins, .string e.uid] 57)) hgrow (row_apart_ty (World.ownsRow.alloc h (.cells #[.int .i64 T, .int .i64 e.mins, .string e.uid] 57)) (World.ownsRow.alloc HA.out (.cells #[.int .i64 T, .int .i64 e.mins, .string e.uid] 57)) hty)
                  have HU8 := Lib.hid (show RowI X.heap.size x8 (.slice (some ad) sn cs) SL from kp (by decide) HU.out)
                  have HT8 := Lib.hid (show RowT w.heap.size x8 (.slice (some ⟨bf, 0, none⟩) n cu) us from ⟨kp (by decide) HT.out.row, fun s hs => ⟨(HT.out.ref s hs).1, kp (by decide) (HT.out.ref s hs).2.1, kp (by decide) (HT.out.ref s hs).2.2⟩⟩)
                  have HZ8 := Lib.hid ((HZB.out.alloc (.cells #[.int .i64 T, .int .i64 e.mins, .string e.uid] 57)).grown (World.ownsRow.alloc HA.out (.cells #[.int .i64 T, .int .i64 e.mins, .string e.uid] 57)) hgrow (by decide))
                  have HE8 := Lib.hid ((HE.out.alloc (.cells #[.int .i64 T, .int .i64 e.mins, .string e.uid] 57)).grown (World.ownsRow.alloc HA.out (.cells #[.int .i64 T, .int .i64 e.mins, .string e.uid] 57)) hgrow (by decide))
                  have HL8 := Lib.hid (below_grownBy (HL.out.alloc hNq (.cells #[.int .i64 T, .int .i64 e.mins, .string e.uid] 57)) (World.ownsRow.alloc HA.out (.cells #[.int .i64 T, .int .i64 e.mins, .string e.uid] 57)) (Nat.le_refl _) (by simp; omega) hgrow)
                  clear hown8 hgrow kp HA HU HT HZB HE HL y0 y10 hcell h1 h2; go_wp2_with fail
                  go_roundw
                  case rel => exact ⟨j + 1, p8, q8, ns ++ [⟨T, e.mins, e.uid⟩], by simp, by go_num, by omega, HA8, HNS8, HU8, HT8, HZ8, HE8, HL8⟩
                  case measure => simp [intOf]; omega
                · go_wp2_with fail
                  go_roundw
                  case rel => exact ⟨j + 1, pn, cn, ns, rfl, by go_num, by omega, HA, Lib.hid (by rw [HNS.out, pick_take lo hi e SL j T HTK.out, if_neg (by omega), List.append_nil]), HU, HT, HZB, HE, HL⟩
                  case measure => simp [intOf]; omega
              · go_wp2_with fail
                go_roundw
                case rel => exact ⟨j + 1, pn, cn, ns, rfl, by go_num, by omega, HA, Lib.hid (by rw [HNS.out, pick_take lo hi e SL j T HTK.out, if_neg (by omega), List.append_nil]), HU, HT, HZB, HE, HL⟩
                case measure => simp [intOf]; omega
            · have hjli : ¬ (j : Int) < sn := by omega
              have hjn : j = sn := by omega
              have HNS2 := Lib.hid (show ns = ents ++ pickE lo hi e SL from by rw [HNS.out, hjn, HSN.out, List.take_length])
              clear hjn; go_wp2_with fail
              go_roundw
              case rel => exact ⟨k + 1, pn, cn, ns, rfl, by go_num, by omega, by rw [HNS2.out, List.length_append]; have h := pick_len lo hi e SL; have := HSN.out; omega, HA, Lib.hid (by rw [HSTEP.out, HNS2.out]), HT, HZB, HL⟩
              case measure => simp [intOf]; omega
      · have hlti : ¬ (k : Int) < n := by omega
        have hkn : k = n := by omega
        have HEND := Lib.hid (show agRun (Tt.code zn.data.toList) zv sh lo hi ses [] = (ents, 0) from by rw [HREL.out, List.drop_eq_nil_of_le (by rw [HLN.out]; omega)]; rfl)
        have hel : ents.length ≤ 1000000000 := by omega
        clear hkn; have z0 : wr.cell? ⟨w.heap.size + 1, 0, none⟩ = some (.string zn) := HZB.out.cell 0
        have z1 : wr.cell? ⟨w.heap.size + 1, 1, none⟩ = some (.int .i64 zv) := HZB.out.cell 1
        have z2 : wr.cell? ⟨w.heap.size + 1, 2, none⟩ = some (.slice az zl cz) := HZB.out.cell 2
        go_wp2_with fail
        refine (HV3.out _ HL.out).mono ?_
        rintro x w3 ⟨rfl, hb3⟩; obtain ⟨ZV, hZV⟩ : ∃ ZV, ZV = Tt.zoneV (Tt.code zn.data.toList) zv sh := ⟨_, rfl⟩
        have HZV := Lib.hid hZV; rw [← hZV]; have HA3 := Lib.hid (row_made HA.out hb3)
        have HL3 := Lib.hid (HL.out.trans (hb3.mono hNr))
        clear hZV hb3 z0 z1 z2 HA HT HZB HL; by_cases hzv : ZV ≠ 0
        · have HAV := Lib.hid (show agendaV rv es (Tt.code zn.data.toList) zv sh lo hi = ([], ZV) from by unfold agendaV; rw [if_neg (by rw [HOK.out]; simp), HSES.out, HEND.out, if_neg (by simp), ← HZV.out, if_pos hzv])
          go_wp2_with fail
          go_ret2
          exact ⟨none, 0, [], [], ZV, rfl, HAV.out.symm, List.Perm.refl _, sorted_nil, World.ownsRow_nil _ _ _ _, HL3.out⟩
        · have hzv : ZV = 0 := Decidable.of_not_not hzv
          subst hzv; have HAV := Lib.hid (show agendaV rv es (Tt.code zn.data.toList) zv sh lo hi = (ents, 0) from by unfold agendaV; rw [if_neg (by rw [HOK.out]; simp), HSES.out, HEND.out, if_neg (by simp), ← HZV.out, if_neg (by simp)])
          have HSO := Lib.hid (sort87 w.heap.size pa ca ents w3 HA3.out HL3.out.size hel)
          clear hel; go_wp2_with fail
          refine HSO.out.mono ?_
          rintro x w4 ⟨rfl, l1, hp, hso, hA4, hb4⟩; have HP := Lib.hid hp; have HSS := Lib.hid hso; have hlen : ents.length = l1.length := hp.length_eq
          have HA4 := Lib.hid (show RowA w.heap.size w4 (.slice pa l1.length ca) l1 from by rw [← hlen]; exact hA4)
          have HL4 := Lib.hid (HL3.out.trans hb4)
          rw [hlen]
          clear hp hso hA4 hb4 hlen HA3 HL3 HSO; go_wp2_with fail
          go_ret2
          exact ⟨pa, ca, l1, ents, 0, rfl, HAV.out.symm, HP.out, HSS.out, HA4.out, HL4.out⟩

theorem agRun_zero (code : Bool) (v : Int) (sh : List (Int × Int)) (lo hi : Int) : ∀ (es : List Ev) (out : List Ent), (∀ e ∈ es, (startsV code v sh e).2 = 0) → agRun code v sh lo hi es out = (out ++ Tt.picks lo hi (es.map fun e => (e.mins, e.uid, (startsV code v sh e).1)), 0)
  | [], out, _ => by simp [agRun, Tt.picks]
  | e :: r, out, h => by
    rw [agRun, if_neg (by simp [h e (by simp)]), agRun_zero code v sh lo hi r _ (fun x hx => h x (List.mem_cons_of_mem _ hx)), List.map_cons]
    rw [show Tt.picks lo hi ((e.mins, e.uid, (startsV code v sh e).1) :: r.map fun e => (e.mins, e.uid, (startsV code v sh e).1)) = pickE lo hi e (startsV code v sh e).1 ++ Tt.picks lo hi (r.map fun e => (e.mins, e.uid, (startsV code v sh e).1)) from List.flatMap_cons, List.append_assoc]

theorem agRun_few (code : Bool) (v : Int) (sh : List (Int × Int)) (lo hi : Int) : ∀ (es : List Ev), es.length ≤ 1 → (∀ e ∈ es, (startsV code v sh e).1.length ≤ 1) → (agRun code v sh lo hi es []).1.length ≤ 1
  | [], _, _ => Nat.zero_le _
  | [e], _, h => by
    rw [agRun]
    split
    · exact Nat.zero_le _
    · rw [agRun, List.nil_append]; exact Nat.le_trans (pick_len lo hi e _) (h e (by simp))
  | _ :: _ :: _, h, _ => by simp at h

set_option maxHeartbeats 2000000 in
theorem agenda32 (rv tag : Int) (ar : Option Addr) (cr : Nat) (rs : List (Ev × Value × Value)) (zn : ByteArray) (zv : Int) (az : Option Addr) (cz : Nat) (sh : List (Int × Int)) (lo hi : Int) (w : World) (hR : Seg w.heap.size w ar rs) (hZ : Shs w.heap.size w az sh)
    (hrl : rs.length ≤ 1000000) (hzl : sh.length ≤ 1000000) (hsr : ∀ t ∈ rs, t.1.days.ex.length ≤ 1000000 ∧ t.1.days.xt.length ≤ 1000000) (hsm : (shownV rv (rs.map (·.1))).length ≤ 1) (hsb : ∀ e ∈ shownV rv (rs.map (·.1)), (startsV (Tt.code zn.data.toList) zv sh e).1.length ≤ 1) :
    Calls Tryz.prog 32 #[.agg #[.int .i64 rv, .int .i64 tag, .slice ar rs.length cr], .agg #[.string zn, .int .i64 zv, .slice az sh.length cz], .int .i64 lo, .int .i64 hi] w fun x w' => ∃ (pa : Option Addr) (ca : Nat) (l : List Ent) (c : Int), x = .returned (.tuple #[.slice pa l.length ca, .int .i64 c]) ∧ (l, c) = agendaV rv (rs.map (·.1)) (Tt.code zn.data.toList) zv sh lo hi ∧ RowA w.heap.size w' (.slice pa l.length ca) l ∧ Below w.heap.size w w' := by
  refine (agenda32g rv tag ar cr rs zn zv az cz sh lo hi w hR hZ hrl hzl hsr (fun e he => Nat.le_trans (hsb e he) (by omega))).mono ?_
  rintro x w' ⟨pa, ca, l, l0, c, rfl, h0, hp, _, hA, hb⟩; have h1 : l0.length ≤ 1 := by
    have e : l0 = (agendaV rv (rs.map (·.1)) (Tt.code zn.data.toList) zv sh lo hi).1 := congrArg (·.1) h0
    rw [e]
    have hf := agRun_few (Tt.code zn.data.toList) zv sh lo hi (shownV rv (rs.map (·.1))) hsm hsb
    unfold agendaV
    repeat' split
    all_goals first | exact Nat.zero_le _ | exact hf
  have e : l0 = l := by
    match l0, l, hp, h1 with
    | [], _, hp, _ => exact (List.nil_perm.1 hp).symm
    | [a], l, hp, _ => exact List.singleton_perm.1 hp
    | _ :: _ :: _, _, _, h => simp at h
  exact ⟨pa, ca, l, c, rfl, by rw [← e]; exact h0, hA, hb⟩
end Go.Proofs.YtageielcdebjlaaGreatDoor
namespace Go.Proofs.YtageielcdebjlaaGreatDoor
open Go.RowKit

/-- Is an identifier ahead of another? -/
def lessU (a b : ByteArray) : Bool := Op.bytesLess a.toList b.toList

/-- An event laid into a list: in the place of the event with its identifier, or where it belongs. -/
def putT (t : Ev × Value × Value) : List (Ev × Value × Value) → List (Ev × Value × Value)
  | [] => [t]
  | s :: r => if lessU s.1.uid t.1.uid = true then s :: putT t r else if s.1.uid = t.1.uid then t :: r else t :: s :: r

/-- The same on events alone. -/
def putE (e : Ev) : List Ev → List Ev
  | [] => [e]
  | s :: r => if lessU s.uid e.uid = true then s :: putE e r else if s.uid = e.uid then e :: r else e :: s :: r

theorem putT_map (t : Ev × Value × Value) : ∀ ts : List (Ev × Value × Value), (putT t ts).map (·.1) = putE t.1 (ts.map (·.1))
  | [] => rfl
  | s :: r => by
    unfold putT
    rw [List.map_cons]
    unfold putE
    by_cases h1 : lessU s.1.uid t.1.uid = true
    · rw [if_pos h1, if_pos h1, List.map_cons, putT_map t r]
    · rw [if_neg h1, if_neg h1]
      by_cases h2 : s.1.uid = t.1.uid
      · rw [if_pos h2, if_pos h2]; rfl
      · rw [if_neg h2, if_neg h2]; rfl

/-- All ahead of k are ahead of the event. -/
def AheadT (t : Ev × Value × Value) (ts : List (Ev × Value × Value)) (k : Nat) : Prop := ∀ j s, j < k → ts[j]? = some s → lessU s.1.uid t.1.uid = true

theorem putT_end (t : Ev × Value × Value) : ∀ (ts : List (Ev × Value × Value)), AheadT t ts ts.length → putT t ts = ts ++ [t]
  | [], _ => rfl
  | s :: r, h => by
    unfold putT
    rw [if_pos (h 0 s (by simp) (by simp))]
    rw [putT_end t r (fun j u hj hu => h (j + 1) u (by simp; omega) (by simpa using hu))]
    rfl
theorem putT_same (t : Ev × Value × Value) : ∀ (ts : List (Ev × Value × Value)) (k : Nat) (s : Ev × Value × Value), AheadT t ts k → ts[k]? = some s → lessU s.1.uid t.1.uid = false → s.1.uid = t.1.uid → putT t ts = ts.take k ++ t :: ts.drop (k + 1)
  | [], _, _, _, h, _, _ => by simp at h
  | s0 :: r, 0, s, _, h, hl, he => by
    simp at h; subst h
    unfold putT
    rw [if_neg (by rw [hl]; simp), if_pos he]
    rfl
  | s0 :: r, k + 1, s, ha, h, hl, he => by
    unfold putT
    rw [if_pos (ha 0 s0 (by omega) (by simp))]
    rw [putT_same t r k s (fun j u hj hu => ha (j + 1) u (by omega) (by simpa using hu)) (by simpa using h) hl he]
    rfl
theorem putT_new (t : Ev × Value × Value) : ∀ (ts : List (Ev × Value × Value)) (k : Nat) (s : Ev × Value × Value), AheadT t ts k → ts[k]? = some s → lessU s.1.uid t.1.uid = false → ¬ s.1.uid = t.1.uid → putT t ts = ts.take k ++ t :: ts.drop k
  | [], _, _, _, h, _, _ => by simp at h
  | s0 :: r, 0, s, _, h, hl, he => by
    simp at h; subst h
    unfold putT
    rw [if_neg (by rw [hl]; simp), if_neg he]
    rfl
  | s0 :: r, k + 1, s, ha, h, hl, he => by
    unfold putT
    rw [if_pos (ha 0 s0 (by omega) (by simp))]
    rw [putT_new t r k s (fun j u hj hu => ha (j + 1) u (by omega) (by simpa using hu)) (by simpa using h) hl he]
    rfl
end Go.Proofs.YtageielcdebjlaaGreatDoor
namespace Go.Proofs.YtageielcdebjlaaGreatDoor
open Go.RowKit

theorem lessU_iff (a b : ByteArray) : lessU a b = true ↔ a.toList < b.toList := by unfold lessU; rw [bytesLess_eq]; simp
theorem lessU_trans {a b c : ByteArray} (h : lessU a b = true) (k : lessU b c = true) : lessU a c = true := by
  rw [lessU_iff] at *; exact List.lt_trans h k
theorem lessU_irrefl (a : ByteArray) : lessU a a = false := by
  rw [← Bool.not_eq_true, lessU_iff]; exact List.lt_irrefl _
theorem late_less {p u : ByteArray} (h : lateU (some p) u = false) : lessU p u = true := by
  have h : (Op.bytesLess u.toList p.toList || u.toList == p.toList) = false := h
  rw [Bool.or_eq_false_iff] at h
  obtain ⟨h1, h2⟩ := h; rw [bytesLess_eq, decide_eq_false_iff_not] at h1
  rw [beq_eq_false_iff_ne] at h2
  rw [lessU_iff]
  exact Std.lt_of_le_of_ne (List.not_lt.1 h1) (fun e => h2 e.symm)

/-- Do the identifiers ascend? -/
def UpU (es : List Ev) : Prop := ∀ (i j : Nat) (a b : Ev), i < j → es[i]? = some a → es[j]? = some b → lessU a.uid b.uid = true
theorem evsV_head (v : Int) (p : ByteArray) (es : List Ev) (h : evsV v (some p) es = 0) : ∀ (j : Nat) (b : Ev), es[j]? = some b → lessU p b.uid = true := by
  induction es generalizing p with
  | nil => intro j b hb; simp at hb
  | cons e r ih =>
    intro j b hb; unfold evsV at h
    split at h
    · cases h
    · split at h
      · cases h
      · rename_i h2
        have hp := late_less (by simpa using h2)
        split at h
        · rename_i h3; exact absurd h h3
        · cases j with
          | zero => simp at hb; subst hb; exact hp
          | succ j => exact lessU_trans hp (ih e.uid h j b (by simpa using hb))
theorem evsV_up (v : Int) (p : Option ByteArray) (es : List Ev) (h : evsV v p es = 0) : UpU es := by
  induction es generalizing p with
  | nil => intro i j a b _ ha; simp at ha
  | cons e r ih =>
    unfold evsV at h
    split at h
    · cases h
    · split at h
      · cases h
      · split at h
        · rename_i h3; exact absurd h h3
        · intro i j a b hij ha hb; cases j with
          | zero => omega
          | succ j =>
            have hb : r[j]? = some b := by simpa using hb
            cases i with
            | zero => simp at ha; subst ha; exact evsV_head v e.uid r h j b hb
            | succ i => exact ih (some e.uid) h i j a b (by omega) (by simpa using ha) hb

theorem less_late {p u : ByteArray} (h : lessU p u = true) : lateU (some p) u = false := by
  rw [lessU_iff] at h
  show (Op.bytesLess u.toList p.toList || u.toList == p.toList) = false
  rw [Bool.or_eq_false_iff, bytesLess_eq, decide_eq_false_iff_not, beq_eq_false_iff_ne]
  exact ⟨fun k => List.lt_irrefl _ (List.lt_trans h k), fun e => by rw [e] at h; exact List.lt_irrefl _ h⟩
theorem not_less_late {s u : ByteArray} (h : lessU s u = false) (hne : ¬ s = u) : lateU (some u) s = false := by
  show (Op.bytesLess s.toList u.toList || s.toList == u.toList) = false
  rw [Bool.or_eq_false_iff]
  exact ⟨h, text_ne hne⟩
theorem evsV_cons (v : Int) (p : Option ByteArray) (e : Ev) (r : List Ev) : evsV v p (e :: r) = 0 ↔ rightB e.uid.data.toList = true ∧ lateU p e.uid = false ∧ checkV e v = 0 ∧ evsV v (some e.uid) r = 0 := by
  rw [evsV]
  constructor
  · intro h; split at h
    · cases h
    · rename_i h1
      split at h
      · cases h
      · rename_i h2
        split at h
        · rename_i h3; exact absurd h h3
        · rename_i h3; exact ⟨by simpa using h1, by simpa using h2, by simpa using h3, h⟩
  · rintro ⟨h1, h2, h3, h4⟩; rw [if_neg (by rw [h1]; simp), if_neg (by rw [h2]; simp), if_neg (by rw [h3]; simp)]
    exact h4

/-- A sound event laid into a valid list leaves a valid list. -/
theorem evsV_put (v : Int) (e : Ev) (hr : rightB e.uid.data.toList = true) (hc : checkV e v = 0) : ∀ (es : List Ev) (p : Option ByteArray), lateU p e.uid = false → evsV v p es = 0 → evsV v p (putE e es) = 0
  | [], p, hp, _ => by
    show evsV v p [e] = 0
    exact (evsV_cons v p e []).2 ⟨hr, hp, hc, by rw [evsV]⟩
  | s :: r, p, hp, h => by
    obtain ⟨h1, h2, h3, h4⟩ := (evsV_cons v p s r).1 h
    unfold putE
    by_cases k1 : lessU s.uid e.uid = true
    · rw [if_pos k1]
      exact (evsV_cons v p s _).2 ⟨h1, h2, h3, evsV_put v e hr hc r (some s.uid) (less_late k1) h4⟩
    · rw [if_neg k1]
      by_cases k2 : s.uid = e.uid
      · rw [if_pos k2]
        exact (evsV_cons v p e r).2 ⟨hr, hp, hc, by rw [← k2]; exact h4⟩
      · rw [if_neg k2]
        exact (evsV_cons v p e _).2 ⟨hr, hp, hc, (evsV_cons v _ s r).2 ⟨h1, not_less_late (by simpa using k1) k2, h3, h4⟩⟩
theorem checkV_mono {e : Ev} {v v' : Int} (h : checkV e v = 0) (hv : v ≤ v') : checkV e v' = 0 := by
  unfold checkV at h ⊢
  by_cases h1 : e.seq < 1 ∨ v < e.seq
  · rw [if_pos h1] at h; cases h
  · rw [if_neg h1] at h
    rw [if_neg (by omega)]
    exact h
theorem evsV_mono {v v' : Int} (hv : v ≤ v') : ∀ (es : List Ev) (p : Option ByteArray), evsV v p es = 0 → evsV v' p es = 0
  | [], _, _ => by rw [evsV]
  | s :: r, p, h => by
    obtain ⟨h1, h2, h3, h4⟩ := (evsV_cons v p s r).1 h
    exact (evsV_cons v' p s r).2 ⟨h1, h2, checkV_mono h3 hv, evsV_mono hv r _ h4⟩

/-- Where the identifiers ascend, the events ahead of an identifier come first. -/
theorem UpU.first {es : List Ev} (h : UpU es) {i j : Nat} {a b : Ev} {u : ByteArray} (hij : i ≤ j) (ha : es[i]? = some a) (hb : es[j]? = some b) (hl : lessU b.uid u = true) : lessU a.uid u = true := by
  rcases Nat.lt_or_eq_of_le hij with k | k
  · exact lessU_trans (h i j a b k ha hb) hl
  · subst k; rw [ha] at hb
    cases hb
    exact hl
theorem UpU.one {es : List Ev} (h : UpU es) {i j : Nat} {a b : Ev} (ha : es[i]? = some a) (hb : es[j]? = some b) (he : a.uid = b.uid) : i = j := by
  rcases Nat.lt_trichotomy i j with k | k | k
  · have := h i j a b k ha hb; rw [he, lessU_irrefl] at this; cases this
  · exact k
  · have := h j i b a k hb ha; rw [he, lessU_irrefl] at this; cases this
end Go.Proofs.YtageielcdebjlaaGreatDoor
