/- The days of a line, read: the program's (*parser).days for the text of some days with one time. -/
import Derived.Test.YtageielcdebjlaaGreatDoorPk14
import Derived.Test.YtageielcdebjlaaGreatDoorPk7
import Derived.Test.YtageielcdebjlaaGreatDoorCondAll
namespace Go.Proofs.YtageielcdebjlaaGreatDoor
open Go.RowKit

theorem stamp_parts (d start : Int) (q : ByteArray) (hq : q.data.toList = Tt.stampL d start) : (q.extract 0 4).data.toList = Tt.d4 (Tt.yOf d).toNat ∧ (q.extract 4 6).data.toList = Tt.d2 (Tt.mOf d).toNat ∧ (q.extract 6 8).data.toList = Tt.d2 (Tt.dOf d).toNat ∧ (q.extract 9 11).data.toList = Tt.d2 (start / 60).toNat ∧ (q.extract 11 13).data.toList = Tt.d2 (start % 60).toNat := by
  refine ⟨?_, ?_, ?_, ?_, ?_⟩
  all_goals (rw [Lib.extract_data, hq]; rfl)

theorem par_grown {b g o cap lo n : Nat} {xs : List ByteArray} {z : ByteArray} {bad : Bool} {W W' : World} {v : Value} {ys : List Value} (h : Par b g o cap xs z bad W) (ho : W.ownsRow lo 3 1 v n ys) (hb : b < lo) (hg : g < lo) (hlo : lo ≤ W.heap.size) (u : Obj) (hgr : (W.alloc u).grownBy W' v.ownBlock) : Par b g o cap xs z bad W' := by
  have hq : ∀ k, k < lo → W'.heap[k]? = W.heap[k]? := fun k hk => by
    rw [hgr.block k (by simp; omega) (fun e => by have := (ho.lt k e.symm).1; omega), Lib.alloc_old W _ k (by omega)]
  exact h.other (hq b hb) (hq g hg)

set_option maxRecDepth 100000 in
set_option maxHeartbeats 16000000 in
theorem days178 (b g o cap : Nat) (xs : List ByteArray) (z s : ByteArray) (ds : List Int) (start m : Int) (w : World) (hpar : Par b g o cap xs z false w) (hg : g < w.heap.size) (hb3 : 3 < b) (hL : Lens w) (hm : w.cell? ⟨0, 0, none⟩ = some (.int .i64 m))
    (hs : s.data.toList = Tt.stampsL start ds) (hne : ds ≠ []) (hd : ∀ d ∈ ds, 0 ≤ d ∧ d ≤ 36524) (h0 : 0 ≤ start) (h1 : start < 1440) (hn : ds.length ≤ 140) :
    Calls Tryz.prog 178 #[.pointer (some ⟨b, 0, none⟩), .string s] w fun e w' => ∃ v, e = .returned (.tuple #[v, .int .i64 start]) ∧ w'.ownsRow w.heap.size 3 1 v ds.length (ds.map fun d => .int .i64 d) ∧ Par b g o cap xs z false w' ∧ But b w.heap.size w w' := by
  obtain ⟨i0, hi, hz0, hz1, hz2⟩ := info_parts infoInt
  have hbw := hpar.lt; have zs : s.size ≤ 3000 := by
    have h2 := Tt.stampsL_len start ds; rw [← hs, ← Lib.size_eq] at h2
    omega
  have HSP := Lib.hid (splitB_stamps hs hne hd h0 h1)
  have HSA := Lib.hid (Lib.splitB_all ⟨#[44]⟩ (by decide) 0 (Lib.countB s ⟨#[44]⟩) s rfl)
  have HC := Lib.hid (show Lib.countB s ⟨#[44]⟩ + 1 = ds.length from by rw [← HSA.out, HSP.out, List.length_map])
  have HD := Lib.hid hd; have hn0 : 0 < ds.length := List.length_pos_iff.2 hne
  obtain ⟨n, hnn⟩ : ∃ n, n = ds.length := ⟨_, rfl⟩
  have HN := Lib.hid hnn; have HPAR := Lib.hid hpar; have HL := Lib.hid hL; clear hs hd hne hpar hL; go_enter Tryz.func178, Tryz.ntmps178
  go_wp2_with fail
  refine (Tryz.strings_Split s ⟨#[44]⟩ m w (by omega) hm (by decide)).mono ?_
  rintro e w1 ⟨rfl, hw⟩; rw [HSP.out] at hw
  rw [HC.out, ← hnn]
  rw [← hnn] at hn hn0
  obtain ⟨G, hG⟩ : ∃ G, G = w.heap.size := ⟨_, rfl⟩
  have HG1 := Lib.hid (show Blk G ((ds.map fun d => str (Tt.stampL d start)).map Value.string).toArray 9 w1 from by rw [hw, hG]; exact Blk.new w _ 9)
  have hb1 : Below w.heap.size w w1 := by rw [hw]; exact below_box w _
  have HP1 := Lib.hid (HPAR.out.below hb1 hg)
  have HK1 := Lib.hid (But.of_below (b := b) hb1)
  have HO1 := Lib.hid (show w1.ownsRow w.heap.size 3 1 (.slice none 0 0) 0 (((ds.take 0).map fun d => Value.int .i64 d)) from ⟨rfl, .inl ⟨rfl, rfl⟩⟩)
  have hGb : b < G := by omega
  rw [← hG]; clear hw hb1 HSP HSA HC HPAR hnn hG; go_wp2_with fail
  go_loopw [4, 5, 13] (fun v t i wr => ∃ (k : Nat) (st : Int), i = .int .i64 k ∧ k ≤ n ∧ t = .int .i64 st ∧ (k = 0 ∨ st = start) ∧ Hid (wr.ownsRow w.heap.size 3 1 v k ((ds.take k).map fun d => Value.int .i64 d)) ∧ Hid (Blk G ((ds.map fun d => str (Tt.stampL d start)).map Value.string).toArray 9 wr) ∧ Hid (Par b g o cap xs z false wr) ∧ Hid (But b w.heap.size w wr)) (fun _ _ i _ => n - (intOf i).toNat)
  case atStart => exact ⟨0, 0, rfl, Nat.zero_le _, rfl, .inl rfl, HO1, HG1, HP1, HK1⟩
  case round =>
    clear HO1 HG1 HP1 HK1; obtain ⟨k, st, rfl, hk, rfl, hst, HO, HGB, HP, HK⟩ := hrel; have hsr := HK.out.size; by_cases hlt : k < n
    · have hx : k < ds.length := by rw [← HN.out]; exact hlt
      have hlti : (k : Int) < n := by omega
      obtain ⟨d, hdd⟩ : ∃ d, d = ds[k] := ⟨_, rfl⟩
      have hdr := HD.out d (by rw [hdd]; exact List.getElem_mem hx)
      have HT := Lib.hid (show ds.take (k + 1) = ds.take k ++ [d] from by rw [List.take_succ_eq_append_getElem hx, hdd])
      obtain ⟨q, hq⟩ : ∃ q, q = str (Tt.stampL d start) := ⟨_, rfl⟩
      have hcell : wr.cell? ⟨G, k, none⟩ = some (.string q) := by rw [HGB.out.cell k, hq, hdd]; simp [hx]
      have zq : q.size = 15 := by rw [hq]; exact str_size (Tt.stampL_len _ _)
      obtain ⟨p1, p2, p3, p4, p5⟩ := stamp_parts d start q (by rw [hq]; rfl)
      obtain ⟨y0, y1, m0, m1, d0, d1⟩ := Tt.date_toNat hdr.1 hdr.2
      have hdv := (Tt.date_some hdr.1 hdr.2).day
      obtain ⟨Y, hY⟩ : ∃ Y : Int, Y = Tt.yOf d := ⟨_, rfl⟩
      obtain ⟨M, hM⟩ : ∃ M : Int, M = Tt.mOf d := ⟨_, rfl⟩
      obtain ⟨D, hD⟩ : ∃ D : Int, D = Tt.dOf d := ⟨_, rfl⟩
      rw [← hY, ← hM, ← hD] at hdv
      rw [← hY] at y0 y1 p1
      rw [← hM] at m0 m1 p2
      rw [← hD] at d0 d1 p3
      obtain ⟨H, hH⟩ : ∃ H : Int, H = start / 60 := ⟨_, rfl⟩
      obtain ⟨N, hNN⟩ : ∃ N : Int, N = start % 60 := ⟨_, rfl⟩
      rw [← hH] at p4
      rw [← hNN] at p5
      have hHN : 60 * H + N = start := by omega
      have hHr : 0 ≤ H ∧ H < 24 ∧ 0 ≤ N ∧ N < 60 := by omega
      have HDV := Lib.hid hdv; have HA1 := Lib.hid (show Lib.atoi (q.extract 0 4).data.toList = some Y from by rw [p1, Tt.atoi_d4 (by omega) (by omega)]; congr 1; omega)
      have HA2 := Lib.hid (show Lib.atoi (q.extract 4 6).data.toList = some M from by rw [p2, Tt.atoi_d2 _ (by omega)]; congr 1; omega)
      have HA3 := Lib.hid (show Lib.atoi (q.extract 6 8).data.toList = some D from by rw [p3, Tt.atoi_d2 _ (by omega)]; congr 1; omega)
      have HA4 := Lib.hid (show Lib.atoi (q.extract 9 11).data.toList = some H from by rw [p4, Tt.atoi_d2 _ (by omega)]; congr 1; omega)
      have HA5 := Lib.hid (show Lib.atoi (q.extract 11 13).data.toList = some N from by rw [p5, Tt.atoi_d2 _ (by omega)]; congr 1; omega)
      have zT1 : (q.extract 0 4).size ≤ 18 := by rw [bs_extract_size q 0 4 (by omega)]; decide
      have zT2 : (q.extract 4 6).size ≤ 18 := by rw [bs_extract_size q 4 6 (by omega)]; decide
      have zT3 : (q.extract 6 8).size ≤ 18 := by rw [bs_extract_size q 6 8 (by omega)]; decide
      have zT4 : (q.extract 9 11).size ≤ 18 := by rw [bs_extract_size q 9 11 (by omega)]; decide
      have zT5 : (q.extract 11 13).size ≤ 18 := by rw [bs_extract_size q 11 13 (by omega)]; decide
      have HBZ := Lib.hid (show b < wr.heap.size from by omega)
      have HGZ := Lib.hid (show g < wr.heap.size from by omega)
      have HPZ := HP; have HLZ := Lib.hid (HL.out.below hb3 (HK.out.below (Nat.le_refl b) (Nat.le_of_lt hbw)))
      clear hdd hq p1 p2 p3 p4 p5 hdv hY hM hD hH hNN hdr; go_upto_region 7 with (fail)
      refine wp_region_tail 17 (by kernel_rfl) (fun listed a x => ∃ (l0 l1 l2 l3 l4 l5 l6 l7 l8 l9 l10 l11 l12 l13 l14 l15 l16 : Bool) (t8 t24 t25 t26 t27 t28 t29 t30 t31 t32 t33 t34 t35 t36 t37 t38 t39 : Value), listed = #[l0, l1, l2, l3, l4, l5, l6, l7, l8, l9, l10, l11, l12, l13, l14, l15, l16, false] ∧ a = ⟨(.pointer (some ⟨b, 0, none⟩) :: .string s :: undef :: undef :: u4 :: .int .i64 st :: .int .i64 k :: .string q :: t8 :: u9 :: .string s :: .slice (some ⟨G, 0, none⟩) n n :: .int .i64 n :: .int .i64 k :: .bool true :: .int .i64 k :: .pointer (some ⟨G, k, none⟩) :: .string q :: .string q :: .int .i64 15 :: .bool false :: u21 :: u22 :: u23 :: t24 :: t25 :: t26 :: t27 :: t28 :: t29 :: t30 :: t31 :: t32 :: t33 :: t34 :: t35 :: t36 :: t37 :: t38 :: t39 :: u40 :: u41 :: u42 :: u43 :: u44 :: u45 :: u46 :: u47 :: u48 :: u49 :: u50 :: u51 :: u52 :: u53 :: u54 :: u55 :: u56 :: u57 :: u58 :: u59 :: u60 :: u61 :: u62 :: u63 :: u64 :: u65 :: u66 :: u67 :: undef :: undef :: []).toArray, []⟩ ∧ Hid (l0 = true → t25 = .pointer (some ⟨b, 0, none⟩)) ∧ Hid (l1 = true → t26 = .string q) ∧ Hid (l2 = true → t27 = .string (q.extract 0 4)) ∧ Hid (l3 = true → t28 = .int .i64 Y) ∧ Hid (l4 = true → t29 = .pointer (some ⟨b, 0, none⟩)) ∧ Hid (l5 = true → t30 = .string q) ∧ Hid (l6 = true → t31 = .string (q.extract 4 6)) ∧ Hid (l7 = true → t32 = .int .i64 M) ∧ Hid (l8 = true → t33 = .pointer (some ⟨b, 0, none⟩)) ∧ Hid (l9 = true → t34 = .string q) ∧ Hid (l10 = true → t35 = .string (q.extract 6 8)) ∧ Hid (l11 = true → t36 = .int .i64 D) ∧ Hid (l12 = true → t37 = .tuple #[.int .i64 d, .int .i64 0]) ∧ Hid (l13 = true → t24 = .tuple #[.int .i64 d, .int .i64 0]) ∧ Hid (l14 = true → t38 = .int .i64 d) ∧ Hid (l15 = true → t39 = .int .i64 0) ∧ Hid (l16 = true → t8 = .int .i64 d) ∧ Hid (Par b g o cap xs z false x ∧ But b wr.heap.size wr x)) (by decide) (by kernel_rfl) (by kernel_rfl) ?_ ?_ ?_ ?_
      · exact ⟨false, false, false, false, false, false, false, false, false, false, false, false, false, false, false, false, false, _, _, _, _, _, _, _, _, _, _, _, _, _, _, _, _, _, rfl, rfl, Lib.hid (fun h => by cases h), Lib.hid (fun h => by cases h), Lib.hid (fun h => by cases h), Lib.hid (fun h => by cases h), Lib.hid (fun h => by cases h), Lib.hid (fun h => by cases h), Lib.hid (fun h => by cases h), Lib.hid (fun h => by cases h), Lib.hid (fun h => by cases h), Lib.hid (fun h => by cases h), Lib.hid (fun h => by cases h), Lib.hid (fun h => by cases h), Lib.hid (fun h => by cases h), Lib.hid (fun h => by cases h), Lib.hid (fun h => by cases h), Lib.hid (fun h => by cases h), Lib.hid (fun h => by cases h), Lib.hid (show Par b g o cap xs z false wr.drew ∧ But b wr.heap.size wr wr.drew from ⟨HPZ.out.below (below_drw (Below.refl _ wr)) HGZ.out, But.of_below (below_drw (Below.refl _ wr))⟩)⟩
      · intro listed a x hj; obtain ⟨l0, hj⟩ := hj
        obtain ⟨l1, hj⟩ := hj; obtain ⟨l2, hj⟩ := hj; obtain ⟨l3, hj⟩ := hj; obtain ⟨l4, hj⟩ := hj; obtain ⟨l5, hj⟩ := hj; obtain ⟨l6, hj⟩ := hj; obtain ⟨l7, hj⟩ := hj; obtain ⟨l8, hj⟩ := hj; obtain ⟨l9, hj⟩ := hj; obtain ⟨l10, hj⟩ := hj; obtain ⟨l11, hj⟩ := hj; obtain ⟨l12, hj⟩ := hj; obtain ⟨l13, hj⟩ := hj; obtain ⟨l14, hj⟩ := hj; obtain ⟨l15, hj⟩ := hj; obtain ⟨l16, hj⟩ := hj; obtain ⟨t8, hj⟩ := hj; obtain ⟨t24, hj⟩ := hj; obtain ⟨t25, hj⟩ := hj; obtain ⟨t26, hj⟩ := hj; obtain ⟨t27, hj⟩ := hj; obtain ⟨t28, hj⟩ := hj; obtain ⟨t29, hj⟩ := hj; obtain ⟨t30, hj⟩ := hj; obtain ⟨t31, hj⟩ := hj; obtain ⟨t32, hj⟩ := hj; obtain ⟨t33, hj⟩ := hj; obtain ⟨t34, hj⟩ := hj; obtain ⟨t35, hj⟩ := hj; obtain ⟨t36, hj⟩ := hj; obtain ⟨t37, hj⟩ := hj; obtain ⟨t38, hj⟩ := hj; obtain ⟨t39, hj⟩ := hj; obtain ⟨h1, -⟩ := hj; subst h1; exact ⟨rfl, fun k h1 h2 => by (have h2 : k < 18 := h2); obtain rfl : k = 17 := (by omega); rfl⟩
      · intro listed a x i hj hlt hu haf; obtain ⟨l0, hj⟩ := hj
        obtain ⟨l1, hj⟩ := hj; obtain ⟨l2, hj⟩ := hj; obtain ⟨l3, hj⟩ := hj; obtain ⟨l4, hj⟩ := hj; obtain ⟨l5, hj⟩ := hj; obtain ⟨l6, hj⟩ := hj; obtain ⟨l7, hj⟩ := hj; obtain ⟨l8, hj⟩ := hj; obtain ⟨l9, hj⟩ := hj; obtain ⟨l10, hj⟩ := hj; obtain ⟨l11, hj⟩ := hj; obtain ⟨l12, hj⟩ := hj; obtain ⟨l13, hj⟩ := hj; obtain ⟨l14, hj⟩ := hj; obtain ⟨l15, hj⟩ := hj; obtain ⟨l16, hj⟩ := hj; obtain ⟨t8, hj⟩ := hj; obtain ⟨t24, hj⟩ := hj; obtain ⟨t25, hj⟩ := hj; obtain ⟨t26, hj⟩ := hj; obtain ⟨t27, hj⟩ := hj; obtain ⟨t28, hj⟩ := hj; obtain ⟨t29, hj⟩ := hj; obtain ⟨t30, hj⟩ := hj; obtain ⟨t31, hj⟩ := hj; obtain ⟨t32, hj⟩ := hj; obtain ⟨t33, hj⟩ := hj; obtain ⟨t34, hj⟩ := hj; obtain ⟨t35, hj⟩ := hj; obtain ⟨t36, hj⟩ := hj; obtain ⟨t37, hj⟩ := hj; obtain ⟨t38, hj⟩ := hj; obtain ⟨t39, hj⟩ := hj; obtain ⟨hl_, hj⟩ := hj; obtain ⟨ha_, hj⟩ := hj; obtain ⟨H0, hj⟩ := hj; obtain ⟨H1, hj⟩ := hj; obtain ⟨H2, hj⟩ := hj; obtain ⟨H3, hj⟩ := hj; obtain ⟨H4, hj⟩ := hj; obtain ⟨H5, hj⟩ := hj; obtain ⟨H6, hj⟩ := hj; obtain ⟨H7, hj⟩ := hj; obtain ⟨H8, hj⟩ := hj; obtain ⟨H9, hj⟩ := hj; obtain ⟨H10, hj⟩ := hj; obtain ⟨H11, hj⟩ := hj; obtain ⟨H12, hj⟩ := hj; obtain ⟨H13, hj⟩ := hj; obtain ⟨H14, hj⟩ := hj; obtain ⟨H15, hj⟩ := hj; obtain ⟨H16, hj⟩ := hj; have HS := hj; clear hj; subst hl_; subst ha_; rcases (show ∀ i : Nat, i < 17 → (i = 0 ∨ i = 1 ∨ i = 2 ∨ i = 3 ∨ i = 4 ∨ i = 5 ∨ i = 6 ∨ i = 7 ∨ i = 8 ∨ i = 9 ∨ i = 10 ∨ i = 11 ∨ i = 12 ∨ i = 13 ∨ i = 14 ∨ i = 15 ∨ i = 16) by decide) i hlt with rfl | rfl | rfl | rfl | rfl | rfl | rfl | rfl | rfl | rfl | rfl | rfl | rfl | rfl | rfl | rfl | rfl
        · have haf := haf _ rfl; clear haf
          have hu : l0 = false := hu
          refine wpOp_of_list_any rfl fun QQ hQ => ?_
          have hQQ := Lib.hid hQ; clear hQ; simp only [List.getElem_toArray, List.getElem_cons_zero]
          go_wp2_with fail
          exact hQQ.out _ _ ⟨true, l1, l2, l3, l4, l5, l6, l7, l8, l9, l10, l11, l12, l13, l14, l15, l16, _, _, _, _, _, _, _, _, _, _, _, _, _, _, _, _, _, rfl, rfl, Lib.hid (fun _ => rfl), H1, H2, H3, H4, H5, H6, H7, H8, H9, H10, H11, H12, H13, H14, H15, H16, HS⟩
        · have haf := haf _ rfl; clear haf
          have hu : l1 = false := hu
          refine wpOp_of_list_any rfl fun QQ hQ => ?_
          have hQQ := Lib.hid hQ; clear hQ; simp only [List.getElem_toArray, List.getElem_cons_zero, List.getElem_cons_succ]
          go_wp2_with fail
          exact hQQ.out _ _ ⟨l0, true, l2, l3, l4, l5, l6, l7, l8, l9, l10, l11, l12, l13, l14, l15, l16, _, _, _, _, _, _, _, _, _, _, _, _, _, _, _, _, _, rfl, rfl, H0, Lib.hid (fun _ => rfl), H2, H3, H4, H5, H6, H7, H8, H9, H10, H11, H12, H13, H14, H15, H16, HS⟩
        · have haf := haf _ rfl; have q1 : l1 = true := haf ⟨1, Go.Ground.data⟩ (by simp) rfl
          clear haf; have hu : l2 = false := hu
          have e1 := (H1.out q1)
          subst e1; clear H1; refine wpOp_of_list_any rfl fun QQ hQ => ?_
          have hQQ := Lib.hid hQ; clear hQ; simp only [List.getElem_toArray, List.getElem_cons_zero, List.getElem_cons_succ]
          go_wp2_with fail
          exact hQQ.out _ _ ⟨l0, l1, true, l3, l4, l5, l6, l7, l8, l9, l10, l11, l12, l13, l14, l15, l16, _, _, _, _, _, _, _, _, _, _, _, _, _, _, _, _, _, rfl, rfl, H0, Lib.hid (fun _ => rfl), Lib.hid (fun _ => rfl), H3, H4, H5, H6, H7, H8, H9, H10, H11, H12, H13, H14, H15, H16, HS⟩
        · have haf := haf _ rfl; have q0 : l0 = true := haf ⟨0, Go.Ground.data⟩ (by simp) rfl
          have q2 : l2 = true := haf ⟨2, Go.Ground.data⟩ (by simp) rfl
          clear haf; have hu : l3 = false := hu
          have e0 := (H0.out q0)
          subst e0; clear H0; have e2 := (H2.out q2)
          subst e2; clear H2; refine wpOp_of_list_any rfl fun QQ hQ => ?_
          have hQQ := Lib.hid hQ; clear hQ; simp only [List.getElem_toArray, List.getElem_cons_zero, List.getElem_cons_succ]
          go_wp2_with fail
          refine (number_any b g o cap xs z (q.extract 0 4) Y zT1 HA1.out x HS.out.1 (Nat.lt_of_lt_of_le HGZ.out HS.out.2.size)).mono ?_
          rintro y1 x1 ⟨rfl, hp1, hb1⟩; have hk := Kept.but (B := wr.heap.size) hb1 HBZ.out
          have HS1 := Lib.hid (show Par b g o cap xs z false x1 ∧ But b wr.heap.size wr x1 from ⟨hp1, but_then HS.out.2 hb1 HS.out.2.size⟩)
          clear hb1 hp1; go_wp2_with fail
          exact hQQ.out _ _ ⟨l0, l1, l2, true, l4, l5, l6, l7, l8, l9, l10, l11, l12, l13, l14, l15, l16, _, _, _, _, _, _, _, _, _, _, _, _, _, _, _, _, _, rfl, rfl, Lib.hid (fun _ => rfl), H1, Lib.hid (fun _ => rfl), Lib.hid (fun _ => rfl), H4, H5, H6, H7, H8, H9, H10, H11, H12, H13, H14, H15, H16, HS1⟩
        · have haf := haf _ rfl; clear haf
          have hu : l4 = false := hu
          refine wpOp_of_list_any rfl fun QQ hQ => ?_
          have hQQ := Lib.hid hQ; clear hQ; simp only [List.getElem_toArray, List.getElem_cons_zero, List.getElem_cons_succ]
          go_wp2_with fail
          exact hQQ.out _ _ ⟨l0, l1, l2, l3, true, l5, l6, l7, l8, l9, l10, l11, l12, l13, l14, l15, l16, _, _, _, _, _, _, _, _, _, _, _, _, _, _, _, _, _, rfl, rfl, H0, H1, H2, H3, Lib.hid (fun _ => rfl), H5, H6, H7, H8, H9, H10, H11, H12, H13, H14, H15, H16, HS⟩
        · have haf := haf _ rfl; clear haf
          have hu : l5 = false := hu
          refine wpOp_of_list_any rfl fun QQ hQ => ?_
          have hQQ := Lib.hid hQ; clear hQ; simp only [List.getElem_toArray, List.getElem_cons_zero, List.getElem_cons_succ]
          go_wp2_with fail
          exact hQQ.out _ _ ⟨l0, l1, l2, l3, l4, true, l6, l7, l8, l9, l10, l11, l12, l13, l14, l15, l16, _, _, _, _, _, _, _, _, _, _, _, _, _, _, _, _, _, rfl, rfl, H0, H1, H2, H3, H4, Lib.hid (fun _ => rfl), H6, H7, H8, H9, H10, H11, H12, H13, H14, H15, H16, HS⟩
        · have haf := haf _ rfl; have q5 : l5 = true := haf ⟨5, Go.Ground.data⟩ (by simp) rfl
          clear haf; have hu : l6 = false := hu
          have e5 := (H5.out q5)
          subst e5; clear H5; refine wpOp_of_list_any rfl fun QQ hQ => ?_
          have hQQ := Lib.hid hQ; clear hQ; simp only [List.getElem_toArray, List.getElem_cons_zero, List.getElem_cons_succ]
          go_wp2_with fail
          exact hQQ.out _ _ ⟨l0, l1, l2, l3, l4, l5, true, l7, l8, l9, l10, l11, l12, l13, l14, l15, l16, _, _, _, _, _, _, _, _, _, _, _, _, _, _, _, _, _, rfl, rfl, H0, H1, H2, H3, H4, Lib.hid (fun _ => rfl), Lib.hid (fun _ => rfl), H7, H8, H9, H10, H11, H12, H13, H14, H15, H16, HS⟩
        · have haf := haf _ rfl; have q4 : l4 = true := haf ⟨4, Go.Ground.data⟩ (by simp) rfl
          have q6 : l6 = true := haf ⟨6, Go.Ground.data⟩ (by simp) rfl
          clear haf; have hu : l7 = false := hu
          have e4 := (H4.out q4)
          subst e4; clear H4; have e6 := (H6.out q6)
          subst e6; clear H6; refine wpOp_of_list_any rfl fun QQ hQ => ?_
          have hQQ := Lib.hid hQ; clear hQ; simp only [List.getElem_toArray, List.getElem_cons_zero, List.getElem_cons_succ]
          go_wp2_with fail
          refine (number_any b g o cap xs z (q.extract 4 6) M zT2 HA2.out x HS.out.1 (Nat.lt_of_lt_of_le HGZ.out HS.out.2.size)).mono ?_
          rintro y1 x1 ⟨rfl, hp1, hb1⟩; have hk := Kept.but (B := wr.heap.size) hb1 HBZ.out
          have HS1 := Lib.hid (show Par b g o cap xs z false x1 ∧ But b wr.heap.size wr x1 from ⟨hp1, but_then HS.out.2 hb1 HS.out.2.size⟩)
          clear hb1 hp1; go_wp2_with fail
          exact hQQ.out _ _ ⟨l0, l1, l2, l3, l4, l5, l6, true, l8, l9, l10, l11, l12, l13, l14, l15, l16, _, _, _, _, _, _, _, _, _, _, _, _, _, _, _, _, _, rfl, rfl, H0, H1, H2, H3, Lib.hid (fun _ => rfl), H5, Lib.hid (fun _ => rfl), Lib.hid (fun _ => rfl), H8, H9, H10, H11, H12, H13, H14, H15, H16, HS1⟩
        · have haf := haf _ rfl; clear haf
          have hu : l8 = false := hu
          refine wpOp_of_list_any rfl fun QQ hQ => ?_
          have hQQ := Lib.hid hQ; clear hQ; simp only [List.getElem_toArray, List.getElem_cons_zero, List.getElem_cons_succ]
          go_wp2_with fail
          exact hQQ.out _ _ ⟨l0, l1, l2, l3, l4, l5, l6, l7, true, l9, l10, l11, l12, l13, l14, l15, l16, _, _, _, _, _, _, _, _, _, _, _, _, _, _, _, _, _, rfl, rfl, H0, H1, H2, H3, H4, H5, H6, H7, Lib.hid (fun _ => rfl), H9, H10, H11, H12, H13, H14, H15, H16, HS⟩
        · have haf := haf _ rfl; clear haf
          have hu : l9 = false := hu
          refine wpOp_of_list_any rfl fun QQ hQ => ?_
          have hQQ := Lib.hid hQ; clear hQ; simp only [List.getElem_toArray, List.getElem_cons_zero, List.getElem_cons_succ]
          go_wp2_with fail
          exact hQQ.out _ _ ⟨l0, l1, l2, l3, l4, l5, l6, l7, l8, true, l10, l11, l12, l13, l14, l15, l16, _, _, _, _, _, _, _, _, _, _, _, _, _, _, _, _, _, rfl, rfl, H0, H1, H2, H3, H4, H5, H6, H7, H8, Lib.hid (fun _ => rfl), H10, H11, H12, H13, H14, H15, H16, HS⟩
        · have haf := haf _ rfl; have q9 : l9 = true := haf ⟨9, Go.Ground.data⟩ (by simp) rfl
          clear haf; have hu : l10 = false := hu
          have e9 := (H9.out q9)
          subst e9; clear H9; refine wpOp_of_list_any rfl fun QQ hQ => ?_
          have hQQ := Lib.hid hQ; clear hQ; simp only [List.getElem_toArray, List.getElem_cons_zero, List.getElem_cons_succ]
          go_wp2_with fail
          exact hQQ.out _ _ ⟨l0, l1, l2, l3, l4, l5, l6, l7, l8, l9, true, l11, l12, l13, l14, l15, l16, _, _, _, _, _, _, _, _, _, _, _, _, _, _, _, _, _, rfl, rfl, H0, H1, H2, H3, H4, H5, H6, H7, H8, Lib.hid (fun _ => rfl), Lib.hid (fun _ => rfl), H11, H12, H13, H14, H15, H16, HS⟩
        · have haf := haf _ rfl; have q8 : l8 = true := haf ⟨8, Go.Ground.data⟩ (by simp) rfl
          have q10 : l10 = true := haf ⟨10, Go.Ground.data⟩ (by simp) rfl
          clear haf; have hu : l11 = false := hu
          have e8 := (H8.out q8)
          subst e8; clear H8; have e10 := (H10.out q10)
          subst e10; clear H10; refine wpOp_of_list_any rfl fun QQ hQ => ?_
          have hQQ := Lib.hid hQ; clear hQ; simp only [List.getElem_toArray, List.getElem_cons_zero, List.getElem_cons_succ]
          go_wp2_with fail
          refine (number_any b g o cap xs z (q.extract 6 8) D zT3 HA3.out x HS.out.1 (Nat.lt_of_lt_of_le HGZ.out HS.out.2.size)).mono ?_
          rintro y1 x1 ⟨rfl, hp1, hb1⟩; have hk := Kept.but (B := wr.heap.size) hb1 HBZ.out
          have HS1 := Lib.hid (show Par b g o cap xs z false x1 ∧ But b wr.heap.size wr x1 from ⟨hp1, but_then HS.out.2 hb1 HS.out.2.size⟩)
          clear hb1 hp1; go_wp2_with fail
          exact hQQ.out _ _ ⟨l0, l1, l2, l3, l4, l5, l6, l7, l8, l9, l10, true, l12, l13, l14, l15, l16, _, _, _, _, _, _, _, _, _, _, _, _, _, _, _, _, _, rfl, rfl, H0, H1, H2, H3, H4, H5, H6, H7, Lib.hid (fun _ => rfl), H9, Lib.hid (fun _ => rfl), Lib.hid (fun _ => rfl), H12, H13, H14, H15, H16, HS1⟩
        · have haf := haf _ rfl; have q3 : l3 = true := haf ⟨3, Go.Ground.data⟩ (by simp) rfl
          have q7 : l7 = true := haf ⟨7, Go.Ground.data⟩ (by simp) rfl
          have q11 : l11 = true := haf ⟨11, Go.Ground.data⟩ (by simp) rfl
          clear haf; have hu : l12 = false := hu
          have e3 := (H3.out q3)
          subst e3; clear H3; have e7 := (H7.out q7)
          subst e7; clear H7; have e11 := (H11.out q11)
          subst e11; clear H11; refine wpOp_of_list_any rfl fun QQ hQ => ?_
          have hQQ := Lib.hid hQ; clear hQ; simp only [List.getElem_toArray, List.getElem_cons_zero, List.getElem_cons_succ]
          go_wp2_with fail
          refine (day255 Y M D x (HLZ.out.below hb3 (HS.out.2.below (Nat.le_refl b) (Nat.le_of_lt HBZ.out))) (by omega) (by omega)).mono ?_
          rintro y1 x1 ⟨rfl, rfl⟩; rw [HDV.out]
          go_wp2_with fail
          exact hQQ.out _ _ ⟨l0, l1, l2, l3, l4, l5, l6, l7, l8, l9, l10, l11, true, l13, l14, l15, l16, _, _, _, _, _, _, _, _, _, _, _, _, _, _, _, _, _, rfl, rfl, H0, H1, H2, Lib.hid (fun _ => rfl), H4, H5, H6, Lib.hid (fun _ => rfl), H8, H9, H10, Lib.hid (fun _ => rfl), Lib.hid (fun _ => rfl), H13, H14, H15, H16, HS⟩
        · have haf := haf _ rfl; have q12 : l12 = true := haf ⟨12, Go.Ground.data⟩ (by simp) rfl
          clear haf; have hu : l13 = false := hu
          have e12 := (H12.out q12)
          subst e12; clear H12; refine wpOp_of_list_any rfl fun QQ hQ => ?_
          have hQQ := Lib.hid hQ; clear hQ; simp only [List.getElem_toArray, List.getElem_cons_zero, List.getElem_cons_succ]
          go_wp2_with fail
          exact hQQ.out _ _ ⟨l0, l1, l2, l3, l4, l5, l6, l7, l8, l9, l10, l11, l12, true, l14, l15, l16, _, _, _, _, _, _, _, _, _, _, _, _, _, _, _, _, _, rfl, rfl, H0, H1, H2, H3, H4, H5, H6, H7, H8, H9, H10, H11, Lib.hid (fun _ => rfl), Lib.hid (fun _ => rfl), H14, H15, H16, HS⟩
        · have haf := haf _ rfl; have q13 : l13 = true := haf ⟨13, Go.Ground.data⟩ (by simp) rfl
          clear haf; have hu : l14 = false := hu
          have e13 := (H13.out q13)
          subst e13; clear H13; refine wpOp_of_list_any rfl fun QQ hQ => ?_
          have hQQ := Lib.hid hQ; clear hQ; simp only [List.getElem_toArray, List.getElem_cons_zero, List.getElem_cons_succ]
          go_wp2_with fail
          exact hQQ.out _ _ ⟨l0, l1, l2, l3, l4, l5, l6, l7, l8, l9, l10, l11, l12, l13, true, l15, l16, _, _, _, _, _, _, _, _, _, _, _, _, _, _, _, _, _, rfl, rfl, H0, H1, H2, H3, H4, H5, H6, H7, H8, H9, H10, H11, H12, Lib.hid (fun _ => rfl), Lib.hid (fun _ => rfl), H15, H16, HS⟩
        · have haf := haf _ rfl; have q13 : l13 = true := haf ⟨13, Go.Ground.data⟩ (by simp) rfl
          clear haf; have hu : l15 = false := hu
          have e13 := (H13.out q13)
          subst e13; clear H13; refine wpOp_of_list_any rfl fun QQ hQ => ?_
          have hQQ := Lib.hid hQ; clear hQ; simp only [List.getElem_toArray, List.getElem_cons_zero, List.getElem_cons_succ]
          go_wp2_with fail
          exact hQQ.out _ _ ⟨l0, l1, l2, l3, l4, l5, l6, l7, l8, l9, l10, l11, l12, l13, l14, true, l16, _, _, _, _, _, _, _, _, _, _, _, _, _, _, _, _, _, rfl, rfl, H0, H1, H2, H3, H4, H5, H6, H7, H8, H9, H10, H11, H12, Lib.hid (fun _ => rfl), H14, Lib.hid (fun _ => rfl), H16, HS⟩
        · have haf := haf _ rfl; have q14 : l14 = true := haf ⟨14, Go.Ground.data⟩ (by simp) rfl
          clear haf; have hu : l16 = false := hu
          have e14 := (H14.out q14)
          subst e14; clear H14; refine wpOp_of_list_any rfl fun QQ hQ => ?_
          have hQQ := Lib.hid hQ; clear hQ; simp only [List.getElem_toArray, List.getElem_cons_zero, List.getElem_cons_succ]
          go_wp2_with fail
          exact hQQ.out _ _ ⟨l0, l1, l2, l3, l4, l5, l6, l7, l8, l9, l10, l11, l12, l13, l14, l15, true, _, _, _, _, _, _, _, _, _, _, _, _, _, _, _, _, _, rfl, rfl, H0, H1, H2, H3, H4, H5, H6, H7, H8, H9, H10, H11, H12, H13, Lib.hid (fun _ => rfl), H15, Lib.hid (fun _ => rfl), HS⟩
      · intro listed a x hj hall; obtain ⟨l0, hj⟩ := hj
        obtain ⟨l1, hj⟩ := hj; obtain ⟨l2, hj⟩ := hj; obtain ⟨l3, hj⟩ := hj; obtain ⟨l4, hj⟩ := hj; obtain ⟨l5, hj⟩ := hj; obtain ⟨l6, hj⟩ := hj; obtain ⟨l7, hj⟩ := hj; obtain ⟨l8, hj⟩ := hj; obtain ⟨l9, hj⟩ := hj; obtain ⟨l10, hj⟩ := hj; obtain ⟨l11, hj⟩ := hj; obtain ⟨l12, hj⟩ := hj; obtain ⟨l13, hj⟩ := hj; obtain ⟨l14, hj⟩ := hj; obtain ⟨l15, hj⟩ := hj; obtain ⟨l16, hj⟩ := hj; obtain ⟨t8, hj⟩ := hj; obtain ⟨t24, hj⟩ := hj; obtain ⟨t25, hj⟩ := hj; obtain ⟨t26, hj⟩ := hj; obtain ⟨t27, hj⟩ := hj; obtain ⟨t28, hj⟩ := hj; obtain ⟨t29, hj⟩ := hj; obtain ⟨t30, hj⟩ := hj; obtain ⟨t31, hj⟩ := hj; obtain ⟨t32, hj⟩ := hj; obtain ⟨t33, hj⟩ := hj; obtain ⟨t34, hj⟩ := hj; obtain ⟨t35, hj⟩ := hj; obtain ⟨t36, hj⟩ := hj; obtain ⟨t37, hj⟩ := hj; obtain ⟨t38, hj⟩ := hj; obtain ⟨t39, hj⟩ := hj; obtain ⟨hl_, hj⟩ := hj; obtain ⟨ha_, hj⟩ := hj; obtain ⟨H0, hj⟩ := hj; obtain ⟨H1, hj⟩ := hj; obtain ⟨H2, hj⟩ := hj; obtain ⟨H3, hj⟩ := hj; obtain ⟨H4, hj⟩ := hj; obtain ⟨H5, hj⟩ := hj; obtain ⟨H6, hj⟩ := hj; obtain ⟨H7, hj⟩ := hj; obtain ⟨H8, hj⟩ := hj; obtain ⟨H9, hj⟩ := hj; obtain ⟨H10, hj⟩ := hj; obtain ⟨H11, hj⟩ := hj; obtain ⟨H12, hj⟩ := hj; obtain ⟨H13, hj⟩ := hj; obtain ⟨H14, hj⟩ := hj; obtain ⟨H15, hj⟩ := hj; obtain ⟨H16, hj⟩ := hj; have HS := hj; clear hj; subst hl_; subst ha_; have q15 : l15 = true := hall 15 (by omega)
        have q16 : l16 = true := hall 16 (by omega)
        clear hall; have e15 := (H15.out q15)
        subst e15; have e16 := (H16.out q16)
        subst e16; refine tail_any (fun a x => ∃ (t8 t9 t24 t25 t26 t27 t28 t29 t30 t31 t32 t33 t34 t35 t36 t37 t38 t39 : Value), a = ⟨(.pointer (some ⟨b, 0, none⟩) :: .string s :: undef :: undef :: u4 :: .int .i64 st :: .int .i64 k :: .string q :: t8 :: t9 :: .string s :: .slice (some ⟨G, 0, none⟩) n n :: .int .i64 n :: .int .i64 k :: .bool true :: .int .i64 k :: .pointer (some ⟨G, k, none⟩) :: .string q :: .string q :: .int .i64 15 :: .bool false :: u21 :: u22 :: u23 :: t24 :: t25 :: t26 :: t27 :: t28 :: t29 :: t30 :: t31 :: t32 :: t33 :: t34 :: t35 :: t36 :: t37 :: t38 :: t39 :: u40 :: u41 :: u42 :: u43 :: u44 :: u45 :: u46 :: u47 :: u48 :: u49 :: u50 :: u51 :: u52 :: u53 :: u54 :: u55 :: u56 :: u57 :: u58 :: u59 :: u60 :: u61 :: u62 :: u63 :: u64 :: u65 :: u66 :: u67 :: undef :: undef :: []).toArray, []⟩ ∧ t8 = .int .i64 d ∧ t9 = .int .i64 0 ∧ Par b g o cap xs z false x ∧ But b wr.heap.size wr x) ?_ fun QQ hQ => ?_
        · intro a x hpost; obtain ⟨t8, hpost⟩ := hpost
          obtain ⟨t9, hpost⟩ := hpost; obtain ⟨t24, hpost⟩ := hpost; obtain ⟨t25, hpost⟩ := hpost; obtain ⟨t26, hpost⟩ := hpost; obtain ⟨t27, hpost⟩ := hpost; obtain ⟨t28, hpost⟩ := hpost; obtain ⟨t29, hpost⟩ := hpost; obtain ⟨t30, hpost⟩ := hpost; obtain ⟨t31, hpost⟩ := hpost; obtain ⟨t32, hpost⟩ := hpost; obtain ⟨t33, hpost⟩ := hpost; obtain ⟨t34, hpost⟩ := hpost; obtain ⟨t35, hpost⟩ := hpost; obtain ⟨t36, hpost⟩ := hpost; obtain ⟨t37, hpost⟩ := hpost; obtain ⟨t38, hpost⟩ := hpost; obtain ⟨t39, hpost⟩ := hpost; obtain ⟨ha_, hpost⟩ := hpost; subst ha_; obtain ⟨rfl, rfl, hp, hk⟩ := hpost; have HOx := Lib.hid (row_kept HO.out (Kept.but (B := w.heap.size) hk hbw))
          have HGx := Lib.hid (HGB.out.but hk (by omega))
          have HKx := Lib.hid (but_then HK.out hk hsr)
          have c2 := hp.c2; have f2 := hp.f0 2; have hsx := HKx.out.size; clear HO HGB HP HK hk; go_upto_region 9 with (fail)
          obtain ⟨W8, hW8⟩ : ∃ W, W = x.setCell ⟨b, 2, none⟩ (.bool false) := ⟨_, rfl⟩
          rw [← hW8]; have hon : Only b x W8 := by rw [hW8]; exact only_set x b 2 _
          have HP8 := Lib.hid (show Par b g o cap xs z false W8 from by rw [hW8]; exact hp.set2 false)
          have HO8 := Lib.hid (row_kept HOx.out (Kept.only (B := w.heap.size) hon hbw))
          have HG8 := Lib.hid (HGx.out.only hon (by omega))
          have HK8 := Lib.hid (HKx.out.trans hon.but)
          have hs8 := HK8.out.size; clear hW8 hon hp c2 f2 HOx HGx HKx; go_wp2_with (at_builtin; refine wpList_append_own_at _ rfl (.tmp 51) (.tmp 53) 27 rfl w.heap.size 3 i0 (.int .i64 0) 1 8 Tryz.underlying27 hi hz0 hz1 hz2 rfl (by decide) _ _ _ rfl (HO8.out.alloc _) ⟨W8.heap.size, 0, none⟩ 1 1 [.int .i64 d] rfl rfl (cell_one _ _ _) (by intro u hu; simp at hu; subst hu; rfl) (by unfold maxLen; omega) (by omega) (by simp; omega) ?_)
          intro v9 W9 hown hgrow _ hat; have HO9 := Lib.hid (show W9.ownsRow w.heap.size 3 1 v9 (k + 1) ((ds.take (k + 1)).map fun d => Value.int .i64 d) from by rw [HT.out, List.map_append, List.map_take]; exact hown)
          have HG9 := Lib.hid ((HG8.out.alloc _).grown (HO8.out.alloc _) hgrow (by decide))
          have HP9 := Lib.hid (par_grown HP8.out HO8.out hbw hg hs8 _ hgrow)
          have HK9 := Lib.hid (but_grown (HK8.out.trans (But.of_below ((below_box W8 _).mono hs8))) (HO8.out.alloc _) (by simp; omega) hgrow)
          clear hown hgrow hat HO8 HG8 HP8 HK8 HA1 HA2 HA3 HDV HT; have hs9 := HK9.out.size; by_cases hk0 : k = 0
          · have q0 : ((k : Int) == 0) = true := by rw [hk0]; rfl
            clear hk0; have HBZ := Lib.hid (show b < W9.heap.size from by omega)
            have HGZ := Lib.hid (show g < W9.heap.size from by omega)
            have HPZ := HP9; go_upto_region 11 with (fail)
            refine wp_region_tail 9 (by kernel_rfl) (fun listed a x => ∃ (l0 l1 l2 l3 l4 l5 l6 l7 l8 : Bool) (t57 t58 t59 t60 t61 t62 t63 t64 t65 : Value), listed = #[l0, l1, l2, l3, l4, l5, l6, l7, l8, false, false] ∧ a = ⟨(.pointer (some ⟨b, 0, none⟩) :: .string s :: undef :: undef :: v9 :: .int .i64 st :: .int .i64 k :: .string q :: .int .i64 d :: .int .i64 0 :: .string s :: .slice (some ⟨G, 0, none⟩) n n :: .int .i64 n :: .int .i64 k :: .bool true :: .int .i64 k :: .pointer (some ⟨G, k, none⟩) :: .string q :: .string q :: .int .i64 15 :: .bool false :: u21 :: u22 :: u23 :: t24 :: t25 :: t26 :: t27 :: t28 :: t29 :: t30 :: t31 :: t32 :: t33 :: t34 :: t35 :: t36 :: t37 :: t38 :: t39 :: .pointer (some ⟨b, 0, none⟩) :: .pointer (some ⟨b, 0, none⟩) :: .pointer (some ⟨b, 0, none⟩) :: .pointer (some ⟨b, 2, none⟩) :: .bool false :: .bool false :: .int .i64 0 :: .bool false :: .bool false :: .pointer (some ⟨b, 0, none⟩) :: .pointer (some ⟨b, 2, none⟩) :: u4 :: .int .i64 d :: .slice (some ⟨W8.heap.size, 0, none⟩) 1 1 :: v9 :: .int .i64 k :: .bool true :: t57 :: t58 :: t59 :: t60 :: t61 :: t62 :: t63 :: t64 :: t65 :: u66 :: u67 :: undef :: undef :: []).toArray, []⟩ ∧ Hid (l0 = true → t57 = .pointer (some ⟨b, 0, none⟩)) ∧ Hid (l1 = true → t58 = .string q) ∧ Hid (l2 = true → t59 = .string (q.extract 9 11)) ∧ Hid (l3 = true → t60 = .int .i64 H) ∧ Hid (l4 = true → t61 = .int .i64 (60 * H)) ∧ Hid (l5 = true → t62 = .pointer (some ⟨b, 0, none⟩)) ∧ Hid (l6 = true → t63 = .string q) ∧ Hid (l7 = true → t64 = .string (q.extract 11 13)) ∧ Hid (l8 = true → t65 = .int .i64 N) ∧ Hid (Par b g o cap xs z false x ∧ But b W9.heap.size W9 x)) (by decide) (by kernel_rfl) (by kernel_rfl) ?_ ?_ ?_ ?_
            · exact ⟨false, false, false, false, false, false, false, false, false, _, _, _, _, _, _, _, _, _, rfl, rfl, Lib.hid (fun h => by cases h), Lib.hid (fun h => by cases h), Lib.hid (fun h => by cases h), Lib.hid (fun h => by cases h), Lib.hid (fun h => by cases h), Lib.hid (fun h => by cases h), Lib.hid (fun h => by cases h), Lib.hid (fun h => by cases h), Lib.hid (fun h => by cases h), Lib.hid (show Par b g o cap xs z false W9.drew ∧ But b W9.heap.size W9 W9.drew from ⟨HPZ.out.below (below_drw (Below.refl _ W9)) HGZ.out, But.of_below (below_drw (Below.refl _ W9))⟩)⟩
            · intro listed a x hj; obtain ⟨l0, hj⟩ := hj
              obtain ⟨l1, hj⟩ := hj; obtain ⟨l2, hj⟩ := hj; obtain ⟨l3, hj⟩ := hj; obtain ⟨l4, hj⟩ := hj; obtain ⟨l5, hj⟩ := hj; obtain ⟨l6, hj⟩ := hj; obtain ⟨l7, hj⟩ := hj; obtain ⟨l8, hj⟩ := hj; obtain ⟨t57, hj⟩ := hj; obtain ⟨t58, hj⟩ := hj; obtain ⟨t59, hj⟩ := hj; obtain ⟨t60, hj⟩ := hj; obtain ⟨t61, hj⟩ := hj; obtain ⟨t62, hj⟩ := hj; obtain ⟨t63, hj⟩ := hj; obtain ⟨t64, hj⟩ := hj; obtain ⟨t65, hj⟩ := hj; obtain ⟨h1, -⟩ := hj; subst h1; exact ⟨rfl, fun k h1 h2 => by (have h2 : k < 11 := h2); rcases (show k = 9 ∨ k = 10 by omega) with rfl | rfl <;> rfl⟩
            · intro listed a x i hj hlt hu haf; obtain ⟨l0, hj⟩ := hj
              obtain ⟨l1, hj⟩ := hj; obtain ⟨l2, hj⟩ := hj; obtain ⟨l3, hj⟩ := hj; obtain ⟨l4, hj⟩ := hj; obtain ⟨l5, hj⟩ := hj; obtain ⟨l6, hj⟩ := hj; obtain ⟨l7, hj⟩ := hj; obtain ⟨l8, hj⟩ := hj; obtain ⟨t57, hj⟩ := hj; obtain ⟨t58, hj⟩ := hj; obtain ⟨t59, hj⟩ := hj; obtain ⟨t60, hj⟩ := hj; obtain ⟨t61, hj⟩ := hj; obtain ⟨t62, hj⟩ := hj; obtain ⟨t63, hj⟩ := hj; obtain ⟨t64, hj⟩ := hj; obtain ⟨t65, hj⟩ := hj; obtain ⟨hl_, hj⟩ := hj; obtain ⟨ha_, hj⟩ := hj; obtain ⟨H0, hj⟩ := hj; obtain ⟨H1, hj⟩ := hj; obtain ⟨H2, hj⟩ := hj; obtain ⟨H3, hj⟩ := hj; obtain ⟨H4, hj⟩ := hj; obtain ⟨H5, hj⟩ := hj; obtain ⟨H6, hj⟩ := hj; obtain ⟨H7, hj⟩ := hj; obtain ⟨H8, hj⟩ := hj; have HS := hj; clear hj; subst hl_; subst ha_; rcases (show ∀ i : Nat, i < 9 → (i = 0 ∨ i = 1 ∨ i = 2 ∨ i = 3 ∨ i = 4 ∨ i = 5 ∨ i = 6 ∨ i = 7 ∨ i = 8) by decide) i hlt with rfl | rfl | rfl | rfl | rfl | rfl | rfl | rfl | rfl
              · have haf := haf _ rfl; clear haf
                have hu : l0 = false := hu
                refine wpOp_of_list_any rfl fun QQ hQ => ?_
                have hQQ := Lib.hid hQ; clear hQ; simp only [List.getElem_toArray, List.getElem_cons_zero]
                go_wp2_with fail
                exact hQQ.out _ _ ⟨true, l1, l2, l3, l4, l5, l6, l7, l8, _, _, _, _, _, _, _, _, _, rfl, rfl, Lib.hid (fun _ => rfl), H1, H2, H3, H4, H5, H6, H7, H8, HS⟩
              · have haf := haf _ rfl; clear haf
                have hu : l1 = false := hu
                refine wpOp_of_list_any rfl fun QQ hQ => ?_
                have hQQ := Lib.hid hQ; clear hQ; simp only [List.getElem_toArray, List.getElem_cons_zero, List.getElem_cons_succ]
                go_wp2_with fail
                exact hQQ.out _ _ ⟨l0, true, l2, l3, l4, l5, l6, l7, l8, _, _, _, _, _, _, _, _, _, rfl, rfl, H0, Lib.hid (fun _ => rfl), H2, H3, H4, H5, H6, H7, H8, HS⟩
              · have haf := haf _ rfl; have q1 : l1 = true := haf ⟨1, Go.Ground.data⟩ (by simp) rfl
                clear haf; have hu : l2 = false := hu
                have e1 := (H1.out q1)
                subst e1; clear H1; refine wpOp_of_list_any rfl fun QQ hQ => ?_
                have hQQ := Lib.hid hQ; clear hQ; simp only [List.getElem_toArray, List.getElem_cons_zero, List.getElem_cons_succ]
                go_wp2_with fail
                exact hQQ.out _ _ ⟨l0, l1, true, l3, l4, l5, l6, l7, l8, _, _, _, _, _, _, _, _, _, rfl, rfl, H0, Lib.hid (fun _ => rfl), Lib.hid (fun _ => rfl), H3, H4, H5, H6, H7, H8, HS⟩
              · have haf := haf _ rfl; have q0 : l0 = true := haf ⟨0, Go.Ground.data⟩ (by simp) rfl
                have q2 : l2 = true := haf ⟨2, Go.Ground.data⟩ (by simp) rfl
                clear haf; have hu : l3 = false := hu
                have e0 := (H0.out q0)
                subst e0; clear H0; have e2 := (H2.out q2)
                subst e2; clear H2; refine wpOp_of_list_any rfl fun QQ hQ => ?_
                have hQQ := Lib.hid hQ; clear hQ; simp only [List.getElem_toArray, List.getElem_cons_zero, List.getElem_cons_succ]
                go_wp2_with fail
                refine (number_any b g o cap xs z (q.extract 9 11) H zT4 HA4.out x HS.out.1 (Nat.lt_of_lt_of_le HGZ.out HS.out.2.size)).mono ?_
                rintro y1 x1 ⟨rfl, hp1, hb1⟩; have hk := Kept.but (B := W9.heap.size) hb1 HBZ.out
                have HS1 := Lib.hid (show Par b g o cap xs z false x1 ∧ But b W9.heap.size W9 x1 from ⟨hp1, but_then HS.out.2 hb1 HS.out.2.size⟩)
                clear hb1 hp1; go_wp2_with fail
                exact hQQ.out _ _ ⟨l0, l1, l2, true, l4, l5, l6, l7, l8, _, _, _, _, _, _, _, _, _, rfl, rfl, Lib.hid (fun _ => rfl), H1, Lib.hid (fun _ => rfl), Lib.hid (fun _ => rfl), H4, H5, H6, H7, H8, HS1⟩
              · have haf := haf _ rfl; have q3 : l3 = true := haf ⟨3, Go.Ground.data⟩ (by simp) rfl
                clear haf; have hu : l4 = false := hu
                have e3 := (H3.out q3)
                subst e3; clear H3; refine wpOp_of_list_any rfl fun QQ hQ => ?_
                have hQQ := Lib.hid hQ; clear hQ; simp only [List.getElem_toArray, List.getElem_cons_zero, List.getElem_cons_succ]
                go_wp2_with fail
                exact hQQ.out _ _ ⟨l0, l1, l2, l3, true, l5, l6, l7, l8, _, _, _, _, _, _, _, _, _, rfl, rfl, H0, H1, H2, Lib.hid (fun _ => rfl), Lib.hid (fun _ => rfl), H5, H6, H7, H8, HS⟩
              · have haf := haf _ rfl; clear haf
                have hu : l5 = false := hu
                refine wpOp_of_list_any rfl fun QQ hQ => ?_
                have hQQ := Lib.hid hQ; clear hQ; simp only [List.getElem_toArray, List.getElem_cons_zero, List.getElem_cons_succ]
                go_wp2_with fail
                exact hQQ.out _ _ ⟨l0, l1, l2, l3, l4, true, l6, l7, l8, _, _, _, _, _, _, _, _, _, rfl, rfl, H0, H1, H2, H3, H4, Lib.hid (fun _ => rfl), H6, H7, H8, HS⟩
              · have haf := haf _ rfl; clear haf
                have hu : l6 = false := hu
                refine wpOp_of_list_any rfl fun QQ hQ => ?_
                have hQQ := Lib.hid hQ; clear hQ; simp only [List.getElem_toArray, List.getElem_cons_zero, List.getElem_cons_succ]
                go_wp2_with fail
                exact hQQ.out _ _ ⟨l0, l1, l2, l3, l4, l5, true, l7, l8, _, _, _, _, _, _, _, _, _, rfl, rfl, H0, H1, H2, H3, H4, H5, Lib.hid (fun _ => rfl), H7, H8, HS⟩
              · have haf := haf _ rfl; have q6 : l6 = true := haf ⟨6, Go.Ground.data⟩ (by simp) rfl
                clear haf; have hu : l7 = false := hu
                have e6 := (H6.out q6)
                subst e6; clear H6; refine wpOp_of_list_any rfl fun QQ hQ => ?_
                have hQQ := Lib.hid hQ; clear hQ; simp only [List.getElem_toArray, List.getElem_cons_zero, List.getElem_cons_succ]
                go_wp2_with fail
                exact hQQ.out _ _ ⟨l0, l1, l2, l3, l4, l5, l6, true, l8, _, _, _, _, _, _, _, _, _, rfl, rfl, H0, H1, H2, H3, H4, H5, Lib.hid (fun _ => rfl), Lib.hid (fun _ => rfl), H8, HS⟩
              · have haf := haf _ rfl; have q5 : l5 = true := haf ⟨5, Go.Ground.data⟩ (by simp) rfl
                have q7 : l7 = true := haf ⟨7, Go.Ground.data⟩ (by simp) rfl
                clear haf; have hu : l8 = false := hu
                have e5 := (H5.out q5)
                subst e5; clear H5; have e7 := (H7.out q7)
                subst e7; clear H7; refine wpOp_of_list_any rfl fun QQ hQ => ?_
                have hQQ := Lib.hid hQ; clear hQ; simp only [List.getElem_toArray, List.getElem_cons_zero, List.getElem_cons_succ]
                go_wp2_with fail
                refine (number_any b g o cap xs z (q.extract 11 13) N zT5 HA5.out x HS.out.1 (Nat.lt_of_lt_of_le HGZ.out HS.out.2.size)).mono ?_
                rintro y1 x1 ⟨rfl, hp1, hb1⟩; have hk := Kept.but (B := W9.heap.size) hb1 HBZ.out
                have HS1 := Lib.hid (show Par b g o cap xs z false x1 ∧ But b W9.heap.size W9 x1 from ⟨hp1, but_then HS.out.2 hb1 HS.out.2.size⟩)
                clear hb1 hp1; go_wp2_with fail
                exact hQQ.out _ _ ⟨l0, l1, l2, l3, l4, l5, l6, l7, true, _, _, _, _, _, _, _, _, _, rfl, rfl, H0, H1, H2, H3, H4, Lib.hid (fun _ => rfl), H6, Lib.hid (fun _ => rfl), Lib.hid (fun _ => rfl), HS1⟩
            · intro listed a x hj hall; obtain ⟨l0, hj⟩ := hj
              obtain ⟨l1, hj⟩ := hj; obtain ⟨l2, hj⟩ := hj; obtain ⟨l3, hj⟩ := hj; obtain ⟨l4, hj⟩ := hj; obtain ⟨l5, hj⟩ := hj; obtain ⟨l6, hj⟩ := hj; obtain ⟨l7, hj⟩ := hj; obtain ⟨l8, hj⟩ := hj; obtain ⟨t57, hj⟩ := hj; obtain ⟨t58, hj⟩ := hj; obtain ⟨t59, hj⟩ := hj; obtain ⟨t60, hj⟩ := hj; obtain ⟨t61, hj⟩ := hj; obtain ⟨t62, hj⟩ := hj; obtain ⟨t63, hj⟩ := hj; obtain ⟨t64, hj⟩ := hj; obtain ⟨t65, hj⟩ := hj; obtain ⟨hl_, hj⟩ := hj; obtain ⟨ha_, hj⟩ := hj; obtain ⟨H0, hj⟩ := hj; obtain ⟨H1, hj⟩ := hj; obtain ⟨H2, hj⟩ := hj; obtain ⟨H3, hj⟩ := hj; obtain ⟨H4, hj⟩ := hj; obtain ⟨H5, hj⟩ := hj; obtain ⟨H6, hj⟩ := hj; obtain ⟨H7, hj⟩ := hj; obtain ⟨H8, hj⟩ := hj; have HS := hj; clear hj; subst hl_; subst ha_; have q4 : l4 = true := hall 4 (by omega)
              have q8 : l8 = true := hall 8 (by omega)
              clear hall; have e4 := (H4.out q4)
              subst e4; have e8 := (H8.out q8)
              subst e8; refine tail_any (fun a x => ∃ (t5 t57 t58 t59 t60 t61 t62 t63 t64 t65 t66 : Value), a = ⟨(.pointer (some ⟨b, 0, none⟩) :: .string s :: undef :: undef :: v9 :: t5 :: .int .i64 k :: .string q :: .int .i64 d :: .int .i64 0 :: .string s :: .slice (some ⟨G, 0, none⟩) n n :: .int .i64 n :: .int .i64 k :: .bool true :: .int .i64 k :: .pointer (some ⟨G, k, none⟩) :: .string q :: .string q :: .int .i64 15 :: .bool false :: u21 :: u22 :: u23 :: t24 :: t25 :: t26 :: t27 :: t28 :: t29 :: t30 :: t31 :: t32 :: t33 :: t34 :: t35 :: t36 :: t37 :: t38 :: t39 :: .pointer (some ⟨b, 0, none⟩) :: .pointer (some ⟨b, 0, none⟩) :: .pointer (some ⟨b, 0, none⟩) :: .pointer (some ⟨b, 2, none⟩) :: .bool false :: .bool false :: .int .i64 0 :: .bool false :: .bool false :: .pointer (some ⟨b, 0, none⟩) :: .pointer (some ⟨b, 2, none⟩) :: u4 :: .int .i64 d :: .slice (some ⟨W8.heap.size, 0, none⟩) 1 1 :: v9 :: .int .i64 k :: .bool true :: t57 :: t58 :: t59 :: t60 :: t61 :: t62 :: t63 :: t64 :: t65 :: t66 :: u67 :: undef :: undef :: []).toArray, []⟩ ∧ t5 = .int .i64 start ∧ Par b g o cap xs z false x ∧ But b W9.heap.size W9 x) ?_ fun QQ hQ => ?_
              · intro a x hpost; obtain ⟨t5, hpost⟩ := hpost
                obtain ⟨t57, hpost⟩ := hpost; obtain ⟨t58, hpost⟩ := hpost; obtain ⟨t59, hpost⟩ := hpost; obtain ⟨t60, hpost⟩ := hpost; obtain ⟨t61, hpost⟩ := hpost; obtain ⟨t62, hpost⟩ := hpost; obtain ⟨t63, hpost⟩ := hpost; obtain ⟨t64, hpost⟩ := hpost; obtain ⟨t65, hpost⟩ := hpost; obtain ⟨t66, hpost⟩ := hpost; obtain ⟨ha_, hpost⟩ := hpost; subst ha_; obtain ⟨rfl, hp, hk⟩ := hpost; go_wp2_with fail
                go_roundw
                case rel => exact ⟨k + 1, start, by go_num, by omega, rfl, .inr rfl, Lib.hid (row_kept HO9.out (Kept.but (B := w.heap.size) hk hbw)), Lib.hid (HG9.out.but hk (by omega)), Lib.hid hp, Lib.hid (but_then HK9.out hk hs9)⟩
                case measure => simp [intOf]; omega
              have hQQ := Lib.hid hQ; clear hQ; simp only [List.drop_succ_cons, List.drop_zero]
              go_wp2_with fail
              exact hQQ.out _ _ ⟨_, _, _, _, _, _, _, _, _, _, _, rfl, rfl, HS.out.1, HS.out.2⟩
          · have q0 : ((k : Int) == 0) = false := beq_eq_false_iff_ne.2 (by omega)
            go_wp2_with fail
            go_roundw
            case rel => exact ⟨k + 1, st, by go_num, by omega, rfl, .inr (hst.resolve_left hk0), HO9, HG9, HP9, HK9⟩
            case measure => simp [intOf]; omega
        have hQQ := Lib.hid hQ; clear hQ; simp only [List.drop_succ_cons, List.drop_zero]
        go_wp2_with fail
        exact hQQ.out _ _ ⟨_, _, _, _, _, _, _, _, _, _, _, _, _, _, _, _, _, _, rfl, rfl, rfl, HS.out.1, HS.out.2⟩
    · have hkn : k = n := by omega
      have hlti : ¬ (k : Int) < n := by omega
      have hse : st = start := hst.resolve_left (by omega)
      have HOE := Lib.hid (show wr.ownsRow w.heap.size 3 1 u4 ds.length (ds.map fun d => Value.int .i64 d) from by have h := HO.out; rw [hkn, HN.out, List.take_length] at h; exact h)
      go_wp2_with fail
      go_ret2
      exact ⟨_, rfl, HOE.out, HP.out, HK.out⟩
end Go.Proofs.YtageielcdebjlaaGreatDoor
