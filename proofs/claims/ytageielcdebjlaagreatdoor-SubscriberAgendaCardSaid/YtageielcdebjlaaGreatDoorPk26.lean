/- SubscriberAgenda: the walk of the law. An event that comes in as data: what its value is, and what lies in memory. -/
import Derived.Test.YtageielcdebjlaaGreatDoorPk24
import Derived.Test.YtageielcdebjlaaGreatDoorGenZV
import Derived.BigQuiet
import Derived.Test.YtageielcdebjlaaGreatDoorPk7
import Derived.ProofKit
import Derived.OpenShut
import Derived.Deep.DeepHandedRow
namespace Go.Proofs.YtageielcdebjlaaGreatDoor
open Go.RowKit

/-- What is left of an agenda: entries in order in a row of one's own. -/
def AgG (E : List (Int × ByteArray × List Int)) (lo hi : Int) (W : World) (x : Ending) (w' : World) : Prop :=
  ∃ (pa : Option Addr) (ca : Nat) (l : List Ent), x = .returned (.tuple #[.slice pa l.length ca, .int .i64 0]) ∧ (Tt.picks lo hi E).Perm l ∧ Sort.SortedIn Tt.entLt 0 l.length l.toArray ∧ RowA W.heap.size w' (.slice pa l.length ca) l ∧ Below W.heap.size W w'
theorem rowA_below {lo : Nat} {w w' : World} {v : Value} {l : List Ent} (h : RowA lo w v l) (hb : Below w.heap.size w w') : RowA lo w' v l := row_made h hb
/-- What is seen of one entry in a row of one's own. -/
theorem rowA_cell {lo n c g : Nat} {w : World} {l : List Ent} (h : RowA lo w (.slice (some ⟨g, 0, none⟩) n c) l) (i : Nat) (e : Ent) (he : l[i]? = some e) : w.cell? ⟨g, i * 3, none⟩ = some (.int .i64 e.inst) ∧ w.cell? ⟨g, i * 3 + 1, none⟩ = some (.int .i64 e.mins) ∧ w.cell? ⟨g, i * 3 + 2, none⟩ = some (.string e.uid) := by
  have hi := (List.getElem?_eq_some_iff.1 he).1
  have hn : n = l.length := by
    rcases h.2 with ⟨h1, _⟩ | ⟨g', cap, cur, hv, _⟩
    · cases h1
    · simp only [Value.slice.injEq] at hv; exact hv.2.1
  subst hn; obtain ⟨c0, c1, c2⟩ := aCells_at l i e he
  exact ⟨(h.cellAt _ (by omega)).trans c0, (h.cellAt _ (by omega)).trans c1, (h.cellAt _ (by omega)).trans c2⟩
theorem rowA_spot {lo n c : Nat} {w : World} {p : Option Addr} {l : List Ent} (h : RowA lo w (.slice p n c) l) (hl : 0 < l.length) : ∃ g, p = some ⟨g, 0, none⟩ := by
  rcases h.2 with ⟨_, h0⟩ | ⟨g, cap, cur, hv, _⟩
  · omega
  · simp only [Value.slice.injEq] at hv; exact ⟨g, hv.1⟩
theorem shs_of {lo n c : Nat} {w : World} {ao : Option Addr} {xs : List (Int × Int)} (h : RowZ lo w (.slice ao n c) xs) : Shs w.heap.size w ao xs := by
  obtain ⟨a, c', hv, hi⟩ := h.shs
  have : a = ao := by injection hv with h1; exact h1.symm
  subst this; exact hi
theorem guard57 : Tryz.prog.eqGuardType Tryz.prog.depth 57 = false := by kernel_rfl
theorem stood57 : Tryz.prog.stoodInHeld 57 = false := by kernel_rfl
theorem under57 : Tryz.prog.underlying 57 = some (.struct (Tryz.prog.fieldsOf 57)) := by kernel_rfl
theorem fields57 : (Tryz.prog.fieldsOf 57).toList.map (fun f => (f.name == "_", f.type, f.offset)) = [(false, 3, 0), (false, 3, 1), (false, 9, 2)] := by kernel_rfl
theorem eq_ent (x y : Int) (s : ByteArray) (w : World) : (Op.equalIn 10000 57 (.agg #[.int .i64 x, .int .i64 y, .string s]) (.agg #[.int .i64 x, .int .i64 y, .string s])).run Tryz.prog w = .ok true w := by
  rw [show (10000 : Nat) = 9999 + 1 from rfl, run_equalIn_struct w 9999 57 _ _ under57 stood57]
  have h := fields57; generalize (Tryz.prog.fieldsOf 57).toList = fs at h
  rcases fs with _ | ⟨f, _ | ⟨g, _ | ⟨k, _ | ⟨z, r⟩⟩⟩⟩
  · simp at h
  · simp at h
  · simp at h
  · simp only [List.map_cons, List.map_nil, List.cons.injEq, Prod.mk.injEq, and_true] at h
    obtain ⟨⟨f1, f2, f3⟩, ⟨g1, g2, g3⟩, k1, k2, k3⟩ := h
    have n1 : f.name ≠ "_" := by simpa using f1
    have n2 : g.name ≠ "_" := by simpa using g1
    have n3 : k.name ≠ "_" := by simpa using k1
    simp only [Op.eqFields, if_pos n1, if_pos n2, if_pos n3, f2, f3, g2, g3, k2, k3]
    have e : (9999 : Nat) = 9998 + 1 := rfl
    simp [go_sem, part, e]
  · simp at h
theorem neq_ent (x y : Int) (s : ByteArray) (w : World) : (binOp .neq 57 (.agg #[.int .i64 x, .int .i64 y, .string s]) (.agg #[.int .i64 x, .int .i64 y, .string s])).run Tryz.prog w = .ok (.bool false) w := by
  rw [run_neq_struct, eq_ent]; rfl
set_option maxHeartbeats 16000000 in
set_option maxRecDepth 100000 in
theorem law5 (ao : Option Addr) (len cap : Nat) (at' : Int) (w : World) (hn : Nums w ao len) :
    Calls Tryz.prog 5 #[.slice ao len cap, .int .i64 at'] w fun e w' => e = .returned (.bool true) ∧ Below w.heap.size w w' := by
  have HN := Lib.hid hn; clear hn; by_cases hlen : (len : Int) ≤ 400
  · have hd1 : decide ((len : Int) ≤ 400) = true := decide_eq_true hlen
    go_enter Tryz.func5, Tryz.ntmps5
    go_wp2_with fail
    refine (light_any _ _ _ _).mono ?_
    rintro e w1 ⟨rfl, hw⟩; rw [hw, hd1]
    clear hw w1 hd1; go_wp2_with fail
    refine (roll_any ao len cap w (by omega) HN.out).mono ?_
    rintro e w1 ⟨rfl, hd, hb1, hs1⟩; obtain ⟨b, hbd⟩ : ∃ b, b = w.heap.size := ⟨_, rfl⟩
    have HB1 := Lib.hid hb1; rw [← hbd] at hd hs1 ⊢
    have HD1 := Lib.hid hd; have hb0 : b ≤ w.heap.size := by omega
    have hb9 : w.heap.size ≤ b := by omega
    clear hd hb1 hbd; go_wp2_with fail
    refine (zone30v b w1 HD1.out).mono ?_
    rintro e w2 ⟨zn, zv, pz, cz, sh, rfl, hzv, hzl, hE, hd2, ho2⟩; have HZV := Lib.hid hzv; have hs1b : b < w1.heap.size := HD1.out.lt
    have hs2 := ho2.size; have HE2 := Lib.hid hE; have HL2 := Lib.hid (show Below w.heap.size w w2 from HB1.out.trans (ho2.below hb9 (by omega)))
    have HD2 := Lib.hid hd2; clear hzv hE ho2 hd2 HB1 HD1; obtain ⟨Z, hZ⟩ : ∃ x, x = w2.heap.size := ⟨_, rfl⟩
    obtain ⟨w3, hw3⟩ : ∃ X, X = w2.alloc (.cells #[.string zn, .int .i64 zv, .slice pz sh.length cz] 50) := ⟨_, rfl⟩
    have HZ3 := Lib.hid (show Blk Z #[.string zn, .int .i64 zv, .slice pz sh.length cz] 50 w3 from by rw [hw3, hZ]; exact Blk.new w2 _ _)
    have HD3 := Lib.hid (show Dice b w3 from by rw [hw3]; exact dice_alloc HD2.out _)
    have HE3 := Lib.hid (show RowZ w1.heap.size w3 (.slice pz sh.length cz) sh from by rw [hw3]; exact World.ownsRow.alloc HE2.out _)
    have HL3 := Lib.hid (show Below w.heap.size w w3 from by rw [hw3]; exact HL2.out.alloc (by omega) _)
    have hs3 : w3.heap.size = w2.heap.size + 1 := by rw [hw3]; simp
    go_upto_region 5 with (fail)
    rw [← hw3, ← hZ]; have HZz := Lib.hid hZ; clear hw3 HD2 HE2 HL2 hZ; go_wp2_with fail
    refine (feed20v b w3 HD3.out).mono ?_
    rintro e w4 ⟨n1, v1, p1, c1, us1, rfl, hn1, hv10, hv11, hl1, hE1, hSG, hco1, hz1, hd4, ho4⟩; have hs4 := ho4.size; have HV1 := Lib.hid (feed_zero hco1 hv10 hv11 hl1 hz1)
    have HSG := Lib.hid hSG; have HE4 := Lib.hid hE1; have HL4 := Lib.hid (show Below w.heap.size w w4 from HL3.out.trans (ho4.below hb9 (by omega)))
    have HZ4 := Lib.hid (show Blk Z #[.string zn, .int .i64 zv, .slice pz sh.length cz] 50 w4 from HZ3.out.but ho4 (by have := HZz.out; omega))
    have HR4 := Lib.hid (show RowZ w1.heap.size w4 (.slice pz sh.length cz) sh from row_but HE3.out (by omega) ho4)
    clear hE1 hSG hco1 hz1 hd4 ho4 HZ3 HD3 HE3 HL3; obtain ⟨R, hR⟩ : ∃ x, x = w4.heap.size + 1 := ⟨_, rfl⟩
    obtain ⟨X, hX⟩ : ∃ X, X = (w4.alloc (.cells #[.string n1, .int .i64 v1, .slice p1 us1.length c1] 26)).alloc (.cells #[.int .i64 v1, .int .i64 0, .slice p1 us1.length c1] 24) := ⟨_, rfl⟩
    have HRX := Lib.hid (show Blk R #[.int .i64 v1, .int .i64 0, .slice p1 us1.length c1] 24 X from by rw [hX, hR]; exact Blk.new' _ _ _ (by simp))
    have HZX := Lib.hid (show Blk Z #[.string zn, .int .i64 zv, .slice pz sh.length cz] 50 X from by rw [hX]; exact (HZ4.out.alloc _).alloc _)
    have HEX := Lib.hid (show RowE w3.heap.size X (.slice p1 us1.length c1) us1 from by rw [hX]; exact (HE4.out.alloc _).alloc _)
    have HSX := Lib.hid (show Shs X.heap.size X pz sh from by rw [hX]; exact shs_of (World.ownsRow.alloc (World.ownsRow.alloc HR4.out _) _))
    have HLX := Lib.hid (show Below w.heap.size w X from by rw [hX]; exact (HL4.out.alloc (by omega) _).alloc (by simp; omega) _)
    have hsX : w.heap.size ≤ X.heap.size := HLX.out.size
    go_upto_region 7 with (fail)
    rw [← hX, ← hR]; clear hX hR HZ4 HR4 HE4 HL4 hs1b hs2 hs3 hs4 HZz; have HM := Lib.hid (HEX.out.rdm (by omega))
    obtain ⟨E, hE⟩ : ∃ E, E = shownE (Tt.code zn.data.toList) zv sh (us1.map (·.1)) := ⟨_, rfl⟩
    have hfa := feed_ag HV1.out (fun e he => by obtain ⟨t, ht, rfl⟩ := List.mem_map.1 he; exact HSG.out t ht) HZV.out
    have HFA := Lib.hid hfa; rw [← hE] at hfa
    have HAA := Lib.hid hfa.2.2.1
    have HAU := Lib.hid hfa.2.2.2
    have HAG : Hid (∀ (W : World) (lo hi : Int), Below X.heap.size X W → Calls Tryz.prog 32 #[.agg #[.int .i64 v1, .int .i64 0, .slice p1 us1.length c1], .agg #[.string zn, .int .i64 zv, .slice pz sh.length cz], .int .i64 lo, .int .i64 hi] W (AgG E lo hi W)) := Lib.hid (fun W lo hi hW => by
      refine (agenda32g v1 0 p1 c1 us1 zn zv pz cz sh lo hi W ((HM.out.seg.below hW).mono hW.size) ((HSX.out.below hW).mono hW.size) (by omega) (by omega) HM.out.ex HFA.out.2.1).mono ?_
      rintro x w' ⟨pa, ca, l, l0, c, rfl, h0, hp, hso, hA, hb⟩; rw [HFA.out.1 lo hi] at h0
      simp only [Prod.mk.injEq] at h0
      obtain ⟨e1, e2⟩ := h0; subst e1 e2
      rw [hE]
      exact ⟨pa, ca, l, rfl, hp, hso, hA, hb⟩)
    clear hE hfa HV1 HSG HZV HEX HFA HM HSX; go_wp2_with fail
    refine (mod_any _ _ _ (by omega)).mono ?_
    rintro e wm ⟨rfl, hwm⟩; rw [hwm]
    clear hwm wm; obtain ⟨k, hk⟩ : ∃ k, k = 10080 + modI at' 43488000 := ⟨_, rfl⟩
    have hk0 : 0 ≤ k := by have := modI_lo at' 43488000; omega
    have hk1 : k ≤ 52596000 := by have := modI_hi at' 43488000 (by omega); omega
    go_upto_region 8 with (fail)
    rw [← hk]; clear hk; have r0 : X.cell? ⟨R, 0, none⟩ = some (.int .i64 v1) := HRX.out.cell 0
    have r1 : X.cell? ⟨R, 1, none⟩ = some (.int .i64 0) := HRX.out.cell 1
    have r2 : X.cell? ⟨R, 2, none⟩ = some (.slice p1 us1.length c1) := HRX.out.cell 2
    have z0 : X.cell? ⟨Z, 0, none⟩ = some (.string zn) := HZX.out.cell 0
    have z1 : X.cell? ⟨Z, 1, none⟩ = some (.int .i64 zv) := HZX.out.cell 1
    have z2 : X.cell? ⟨Z, 2, none⟩ = some (.slice pz sh.length cz) := HZX.out.cell 2
    go_wp2_with fail
    refine (HAG.out X 0 52596000 (Below.refl _ _)).mono ?_
    rintro x1 wA ⟨pa, ca, A, rfl, hp, hso, hA, hb⟩; have HPA := Lib.hid hp; have HSA := Lib.hid hso; have HRA := Lib.hid hA; have HBA := Lib.hid hb; have HXA := Lib.hid (show Below X.heap.size X wA from hb)
    have HNA := Lib.hid (show Below X.heap.size X wA from hb)
    clear hp hso hA hb r0 r1 r2 z0 z1 z2; have r0 : wA.cell? ⟨R, 0, none⟩ = some (.int .i64 v1) := (HRX.out.below HXA.out HRX.out.lt).cell 0
    have r1 : wA.cell? ⟨R, 1, none⟩ = some (.int .i64 0) := (HRX.out.below HXA.out HRX.out.lt).cell 1
    have r2 : wA.cell? ⟨R, 2, none⟩ = some (.slice p1 us1.length c1) := (HRX.out.below HXA.out HRX.out.lt).cell 2
    have z0 : wA.cell? ⟨Z, 0, none⟩ = some (.string zn) := (HZX.out.below HXA.out HZX.out.lt).cell 0
    have z1 : wA.cell? ⟨Z, 1, none⟩ = some (.int .i64 zv) := (HZX.out.below HXA.out HZX.out.lt).cell 1
    have z2 : wA.cell? ⟨Z, 2, none⟩ = some (.slice pz sh.length cz) := (HZX.out.below HXA.out HZX.out.lt).cell 2
    go_wp2_with fail
    refine (HAG.out wA 0 k HXA.out).mono ?_
    rintro x1 wB ⟨pb, cb, B, rfl, hp, hso, hA, hb⟩; have HPB := Lib.hid hp; have HSB := Lib.hid hso; have HRB := Lib.hid hA; have HBB := Lib.hid hb; have HXB := Lib.hid (show Below X.heap.size X wB from HXA.out.trans (hb.mono HXA.out.size))
    have HNB := Lib.hid (show Below wA.heap.size wA wB from hb)
    clear hp hso hA hb r0 r1 r2 z0 z1 z2; have r0 : wB.cell? ⟨R, 0, none⟩ = some (.int .i64 v1) := (HRX.out.below HXB.out HRX.out.lt).cell 0
    have r1 : wB.cell? ⟨R, 1, none⟩ = some (.int .i64 0) := (HRX.out.below HXB.out HRX.out.lt).cell 1
    have r2 : wB.cell? ⟨R, 2, none⟩ = some (.slice p1 us1.length c1) := (HRX.out.below HXB.out HRX.out.lt).cell 2
    have z0 : wB.cell? ⟨Z, 0, none⟩ = some (.string zn) := (HZX.out.below HXB.out HZX.out.lt).cell 0
    have z1 : wB.cell? ⟨Z, 1, none⟩ = some (.int .i64 zv) := (HZX.out.below HXB.out HZX.out.lt).cell 1
    have z2 : wB.cell? ⟨Z, 2, none⟩ = some (.slice pz sh.length cz) := (HZX.out.below HXB.out HZX.out.lt).cell 2
    go_wp2_with fail
    refine (HAG.out wB k 52596000 HXB.out).mono ?_
    rintro x1 wC ⟨pc, cc, C, rfl, hp, hso, hA, hb⟩; have HPC := Lib.hid hp; have HSC := Lib.hid hso; have HRC := Lib.hid hA; have HBC := Lib.hid hb; have HXC := Lib.hid (show Below X.heap.size X wC from HXB.out.trans (hb.mono HXB.out.size))
    have HNC := Lib.hid (show Below wB.heap.size wB wC from hb)
    clear hp hso hA hb r0 r1 r2 z0 z1 z2; have r0 : wC.cell? ⟨R, 0, none⟩ = some (.int .i64 v1) := (HRX.out.below HXC.out HRX.out.lt).cell 0
    have r1 : wC.cell? ⟨R, 1, none⟩ = some (.int .i64 0) := (HRX.out.below HXC.out HRX.out.lt).cell 1
    have r2 : wC.cell? ⟨R, 2, none⟩ = some (.slice p1 us1.length c1) := (HRX.out.below HXC.out HRX.out.lt).cell 2
    have z0 : wC.cell? ⟨Z, 0, none⟩ = some (.string zn) := (HZX.out.below HXC.out HZX.out.lt).cell 0
    have z1 : wC.cell? ⟨Z, 1, none⟩ = some (.int .i64 zv) := (HZX.out.below HXC.out HZX.out.lt).cell 1
    have z2 : wC.cell? ⟨Z, 2, none⟩ = some (.slice pz sh.length cz) := (HZX.out.below HXC.out HZX.out.lt).cell 2
    clear r0 r1 r2 z0 z1 z2 HAG; have hAB := Tt.agenda_parts 0 k 52596000 E hk0 hk1 HAA.out HAU.out A B C HPA.out HPB.out HPC.out HSA.out HSB.out HSC.out
    obtain ⟨hABC, hAsc⟩ := hAB; have HABC := Lib.hid hABC; have HASC := Lib.hid hAsc; have hlen3 : A.length = B.length + C.length := by rw [hABC, List.length_append]
    have HRA' := Lib.hid (show RowA X.heap.size wC (.slice pa A.length ca) A from rowA_below (rowA_below HRA.out HNB.out) HNC.out)
    have HRB' := Lib.hid (show RowA wA.heap.size wC (.slice pb B.length cb) B from rowA_below HRB.out HNC.out)
    have HLC := Lib.hid (show Below w.heap.size w wC from HLX.out.trans (HXC.out.mono HLX.out.size))
    obtain ⟨la, hla⟩ : ∃ la, la = A.length := ⟨_, rfl⟩
    obtain ⟨lb, hlb⟩ : ∃ lb, lb = B.length := ⟨_, rfl⟩
    obtain ⟨lc, hlc⟩ : ∃ lc, lc = C.length := ⟨_, rfl⟩
    have HLA := Lib.hid hla; have HLB := Lib.hid hlb; have HL3 := Lib.hid (show la = lb + lc by rw [hla, hlb, hlc, hlen3])
    have HLCC := Lib.hid hlc; rw [← hla] at HRA' ⊢
    rw [← hlb] at HRB' ⊢
    rw [← hlc] at HRC ⊢
    have hne : ((la : Int) != (lb : Int) + (lc : Int)) = false := by have := HL3.out; simp; omega
    have hlm : la ≤ 9223372036854775807 := by
      rcases HRA'.out.2 with ⟨_, h0⟩ | ⟨g, cap, cur, _, _, _, h1, h2, _⟩
      · rw [HLA.out]; omega
      · unfold maxLen at h2; rw [HLA.out]; omega
    clear hABC hAsc hlen3 hla hlb hlc HPA HPB HPC HSA HSB HSC HRA HRB HNA HNB HNC HBA HBB HBC HXA HXB HAA HAU HRX HZX hk0 hk1; have hlb0 : lb ≤ la := by have := HL3.out; omega
    have hlc0 : lc ≤ la := by have := HL3.out; omega
    have hsum : (lb : Int) + (lc : Int) ≤ 9223372036854775807 := by have := HL3.out; omega
    go_wp2_with fail
    go_loopw [16] (fun iv wr => ∃ (i : Nat), iv = .int .i64 i ∧ i ≤ la ∧ Hid (Below wC.heap.size wC wr)) (fun iv _ => la - (intOf iv).toNat)
    case atStart => exact ⟨0, rfl, Nat.zero_le _, Lib.hid (Below.refl _ _)⟩
    case round =>
      obtain ⟨i, rfl, hi, HB⟩ := hrel; have HRA := Lib.hid (rowA_below HRA'.out HB.out)
      have HRB := Lib.hid (rowA_below HRB'.out HB.out)
      have HRC2 := Lib.hid (rowA_below HRC.out HB.out)
      by_cases hlt : i < la
      · have hlti : (i : Int) < la := by omega
        obtain ⟨e, he⟩ : ∃ e, A[i]? = some e := ⟨_, List.getElem?_eq_getElem (by rw [← HLA.out]; exact hlt)⟩
        obtain ⟨ga, hga⟩ := rowA_spot HRA.out (by rw [← HLA.out]; omega)
        subst hga; obtain ⟨a0, a1, a2⟩ := rowA_cell HRA.out i e he
        have HE := Lib.hid he; obtain ⟨V, hV⟩ : ∃ V, V = wr.alloc (.cells #[.int .i64 e.inst, .int .i64 e.mins, .string e.uid] 57) := ⟨_, rfl⟩
        obtain ⟨K, hK⟩ : ∃ q, q = wr.heap.size := ⟨_, rfl⟩
        have HVB := Lib.hid (show Below wr.heap.size wr V from by rw [hV]; exact below_box wr _)
        have HBX := Lib.hid (show Blk K #[.int .i64 e.inst, .int .i64 e.mins, .string e.uid] 57 V from by rw [hV, hK]; exact Blk.new wr _ _)
        have HNX := Lib.hid (show Below wC.heap.size wC V from HB.out.trans (HVB.out.mono HB.out.size))
        have HVA := Lib.hid (rowA_below HRA.out HVB.out)
        have HVR := Lib.hid (rowA_below HRB.out HVB.out)
        have HVC := Lib.hid (rowA_below HRC2.out HVB.out)
        go_upto_region 17 with (fail)
        rw [← hV, ← hK]; clear hV hK a0 a1 a2 HRA HRB HRC2 HVB HB; have x0 : V.cell? ⟨K, 0, none⟩ = some (.int .i64 e.inst) := HBX.out.cell 0
        have x1 : V.cell? ⟨K, 1, none⟩ = some (.int .i64 e.mins) := HBX.out.cell 1
        have x2 : V.cell? ⟨K, 2, none⟩ = some (.string e.uid) := HBX.out.cell 2
        have hq1 := neq_ent e.inst e.mins e.uid
        have hq2 := eq_ent e.inst e.mins e.uid
        have hq3 := guard57; have hi0 : (0 : Int) ≤ i := by omega
        have hi1 : (i : Int).toNat = i := by omega
        clear he; by_cases hib : i < lb
        · have hibi : (i : Int) < lb := by omega
          have hb : B[i]? = some e := by have h := HE.out; rw [HABC.out, List.getElem?_append_left (by rw [← HLB.out]; exact hib)] at h; exact h
          obtain ⟨gb, hgb⟩ := rowA_spot HVR.out (by rw [← HLB.out]; omega)
          subst hgb; obtain ⟨b0, b1, b2⟩ := rowA_cell HVR.out i e hb
          have hge : ¬ ((lb : Int) ≤ (i : Int)) := by omega
          clear hb; by_cases hz : i = 0
          · have hip : (0 < i) = False := eq_false (by omega)
            clear hz; simp only [List.append_eq, List.cons_append, List.nil_append]
            go_big_quiet (fail)
            go_wp2_with fail
            go_roundw
            case rel => exact ⟨i + 1, by go_num, by omega, Lib.hid (by first | exact HNX.out | exact below_drew HNX.out)⟩
            case measure => simp [intOf]; omega
          · obtain ⟨m, f, hm, hf, hpl⟩ : ∃ (m : Nat) (f : Ent), i = m + 1 ∧ A[m]? = some f ∧ Tt.entLt f e = true := by
              obtain ⟨h1, h2⟩ := List.getElem?_eq_some_iff.1 HE.out
              have hp := List.pairwise_iff_getElem.1 HASC.out (i - 1) i (by omega) h1 (by omega)
              exact ⟨i - 1, A[i - 1], by omega, List.getElem?_eq_getElem (by omega), by rw [← h2]; exact hp⟩
            obtain ⟨f0, f1, f2⟩ := rowA_cell HVA.out m f hf
            have hm1 : (i : Int) - 1 = (m : Int) := by omega
            have hm2 : (m : Int) < la := by omega
            have hm3 : (0 : Int) ≤ m := by omega
            have hip : (0 < i) = True := eq_true (by omega)
            clear f1 hf hm; by_cases hin : f.inst = e.inst
            · obtain ⟨y, hy⟩ : ∃ y, y = e.inst := ⟨_, rfl⟩
              have hby : Op.bytesLess f.uid.toList e.uid.toList = true := by unfold Tt.entLt at hpl; rw [if_pos hin] at hpl; exact hpl
              have hgt : ¬ (f.inst > e.inst) := by omega
              have heq : (f.inst == e.inst) = true := by simp [hin]
              simp only [List.append_eq, List.cons_append, List.nil_append]
              go_big_quiet (fail)
              go_wp2_with fail
              go_roundw
              case rel => exact ⟨i + 1, by go_num, by omega, Lib.hid (by first | exact HNX.out | exact below_drew HNX.out)⟩
              case measure => simp [intOf]; omega
            · have hlt2 : f.inst < e.inst := by unfold Tt.entLt at hpl; rw [if_neg hin] at hpl; simpa using hpl
              have hgt : ¬ (f.inst > e.inst) := by omega
              have heq : (f.inst == e.inst) = false := by simp [hin]
              simp only [List.append_eq, List.cons_append, List.nil_append]
              go_big_quiet (fail)
              go_wp2_with fail
              go_roundw
              case rel => exact ⟨i + 1, by go_num, by omega, Lib.hid (by first | exact HNX.out | exact below_drew HNX.out)⟩
              case measure => simp [intOf]; omega
        · have hibi : ¬ ((i : Int) < lb) := by omega
          obtain ⟨q, hq⟩ : ∃ q, q = i - lb := ⟨_, rfl⟩
          have hc : C[q]? = some e := by have h := HE.out; rw [HABC.out, List.getElem?_append_right (by rw [← HLB.out]; omega), ← HLB.out, ← hq] at h; exact h
          have hqc : q < lc := by rw [HLCC.out]; exact (List.getElem?_eq_some_iff.1 hc).1
          obtain ⟨gc, hgc⟩ := rowA_spot HVC.out (by rw [← HLCC.out]; omega)
          subst hgc; obtain ⟨b0, b1, b2⟩ := rowA_cell HVC.out q e hc
          have hge : (lb : Int) ≤ (i : Int) := by omega
          have hqa : (i : Int) - (lb : Int) = (q : Int) := by omega
          have hqb : (q : Int) < lc := by omega
          have hqd : (0 : Int) ≤ q := by omega
          clear hc hq; by_cases hz : i = 0
          · have hip : (0 < i) = False := eq_false (by omega)
            clear hz; simp only [List.append_eq, List.cons_append, List.nil_append]
            go_big_quiet (fail)
            go_wp2_with fail
            go_roundw
            case rel => exact ⟨i + 1, by go_num, by omega, Lib.hid (by first | exact HNX.out | exact below_drew HNX.out)⟩
            case measure => simp [intOf]; omega
          · obtain ⟨m, f, hm, hf, hpl⟩ : ∃ (m : Nat) (f : Ent), i = m + 1 ∧ A[m]? = some f ∧ Tt.entLt f e = true := by
              obtain ⟨h1, h2⟩ := List.getElem?_eq_some_iff.1 HE.out
              have hp := List.pairwise_iff_getElem.1 HASC.out (i - 1) i (by omega) h1 (by omega)
              exact ⟨i - 1, A[i - 1], by omega, List.getElem?_eq_getElem (by omega), by rw [← h2]; exact hp⟩
            obtain ⟨f0, f1, f2⟩ := rowA_cell HVA.out m f hf
            have hm1 : (i : Int) - 1 = (m : Int) := by omega
            have hm2 : (m : Int) < la := by omega
            have hm3 : (0 : Int) ≤ m := by omega
            have hip : (0 < i) = True := eq_true (by omega)
            clear f1 hf hm; by_cases hin : f.inst = e.inst
            · obtain ⟨y, hy⟩ : ∃ y, y = e.inst := ⟨_, rfl⟩
              have hby : Op.bytesLess f.uid.toList e.uid.toList = true := by unfold Tt.entLt at hpl; rw [if_pos hin] at hpl; exact hpl
              have hgt : ¬ (f.inst > e.inst) := by omega
              have heq : (f.inst == e.inst) = true := by simp [hin]
              simp only [List.append_eq, List.cons_append, List.nil_append]
              go_big_quiet (fail)
              go_wp2_with fail
              go_roundw
              case rel => exact ⟨i + 1, by go_num, by omega, Lib.hid (by first | exact HNX.out | exact below_drew HNX.out)⟩
              case measure => simp [intOf]; omega
            · have hlt2 : f.inst < e.inst := by unfold Tt.entLt at hpl; rw [if_neg hin] at hpl; simpa using hpl
              have hgt : ¬ (f.inst > e.inst) := by omega
              have heq : (f.inst == e.inst) = false := by simp [hin]
              simp only [List.append_eq, List.cons_append, List.nil_append]
              go_big_quiet (fail)
              go_wp2_with fail
              go_roundw
              case rel => exact ⟨i + 1, by go_num, by omega, Lib.hid (by first | exact HNX.out | exact below_drew HNX.out)⟩
              case measure => simp [intOf]; omega
      · have hlti : ¬ (i : Int) < la := by omega
        have HL9 := Lib.hid (HLC.out.trans (HB.out.mono HLC.out.size))
        go_wp2_with fail
        refine (awake17 wr).mono ?_
        rintro e w9 ⟨rfl, hb⟩; have HW := Lib.hid (HL9.out.trans (hb.mono HL9.out.size))
        clear hb; go_wp2_with fail
        go_ret; exact ⟨rfl, HW.out⟩
  · have hd1 : decide ((len : Int) ≤ 400) = false := decide_eq_false hlen
    go_enter Tryz.func5, Tryz.ntmps5
    go_wp2_with fail
    refine (light_any _ _ _ _).mono ?_
    rintro e w1 ⟨rfl, hw⟩; rw [hw, hd1]
    clear hw w1 hd1; go_wp2_with fail
    refine (awake17 w).mono ?_
    rintro e w2 ⟨rfl, hb⟩; go_wp2_with fail
    go_ret; exact ⟨rfl, hb⟩
end Go.Proofs.YtageielcdebjlaaGreatDoor
namespace Go.Proofs.YtageielcdebjlaaGreatDoor
open Go Go.ChangeShapes Go.WideShapes Go.ChangeAt Go.RowKit

theorem rw_cells3 : Tryz.prog.cellsOf 3 = 1 := by kernel_rfl
end Go.Proofs.YtageielcdebjlaaGreatDoor
