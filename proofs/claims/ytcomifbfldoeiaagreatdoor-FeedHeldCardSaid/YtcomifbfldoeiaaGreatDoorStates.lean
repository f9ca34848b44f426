/- timetablemore.States: its contract: rows of sessions in new memory. -/
import Derived.Test.YtcomifbfldoeiaaGreatDoorVerP
namespace Go.Proofs.YtcomifbfldoeiaaGreatDoor
open Go.RowKit

/-- A row of rows of sessions. -/
structure RowSS (lo : Nat) (w : World) (u : Value) (ls : List (Value × List Ses)) : Prop where
  row : w.ownsRow lo 106 1 u ls.length (ls.map (·.1))
  each : ∀ q ∈ ls, RowS lo w q.1 q.2
theorem RowSS.nil (lo : Nat) (w : World) : RowSS lo w (.slice none 0 0) [] := ⟨World.ownsRow_nil _ _ _ _, fun q h => by cases h⟩
theorem RowSS.but {b lo : Nat} {w w' : World} {u : Value} {ls : List (Value × List Ses)} (h : RowSS lo w u ls) (hb : b < lo) (ho : But b w.heap.size w w') : RowSS lo w' u ls := ⟨row_but h.row hb ho, fun q hq => row_but (h.each q hq) hb ho⟩
theorem RowSS.alloc {lo : Nat} {w : World} {u : Value} {ls : List (Value × List Ses)} (h : RowSS lo w u ls) (o : Obj) : RowSS lo (w.alloc o) u ls := ⟨h.row.alloc o, fun q hq => World.ownsRow.alloc (h.each q hq) o⟩
theorem RowSS.snoc {lo : Nat} {w w' : World} {u u' : Value} {ls : List (Value × List Ses)} {q : Value × List Ses} (h : RowSS lo w u ls) (hq : RowS lo w q.1 q.2) (hg : w.grownBy w' u.ownBlock) (hown : w'.ownsRow lo 106 1 u' (ls.length + 1) (ls.map (·.1) ++ [q.1])) : RowSS lo w' u' (ls ++ [q]) := by
  have hk : ∀ r : Value × List Ses, RowS lo w r.1 r.2 → RowS lo w' r.1 r.2 := fun r hr => World.ownsRow.kept hr hg (row_apart_ty hr h.row (by decide))
  refine ⟨by rw [List.length_append, List.map_append]; exact hown, fun r hr => ?_⟩
  rcases List.mem_append.1 hr with h1 | h1
  · exact hk r (h.each r h1)
  · rw [List.mem_singleton.1 h1]; exact hk q hq
set_option maxHeartbeats 8000000 in
set_option maxRecDepth 100000 in
theorem states62v (b : Nat) (g : Tt.Grd) (t : Tt.Trm) (p : Option Addr) (c : Nat) (w : World) (hd : Dice b w) (g0 : 1 ≤ g.days) (g1 : g.days ≤ 5) (g2 : 2 ≤ g.slots) (g3 : g.slots ≤ 8) (k0 : 1 ≤ t.weeks) (k1 : t.weeks ≤ 8) : Calls Tryz.prog 38 #[.pointer (some ⟨b, 0, none⟩), grdVal g, trmVal t (.slice p t.hols.length c)] w fun e w' => ∃ (u : Value) (ls : List (Value × List Ses)), e = .returned u ∧ RowSS w.heap.size w' u ls ∧ ls.length ≤ 4 ∧ (∀ q ∈ ls, q.2.length ≤ 12 ∧ VerOk g t.weeks q.2) ∧ Sofar b w w' := by
  obtain ⟨i0, hii, hz0, hz1, hz2⟩ := info_parts infoSes
  obtain ⟨i1, hji, hy0, hy1, hy2⟩ := info_parts infoSl
  unfold grdVal trmVal
  have hblt := hd.lt; obtain ⟨P, hP⟩ : ∃ g, g = w.heap.size := ⟨_, rfl⟩
  obtain ⟨Q, hQ⟩ : ∃ g, g = w.heap.size + 1 := ⟨_, rfl⟩
  obtain ⟨w0, hw0⟩ : ∃ X, X = ((w.alloc (.cells #[.int .i64 g.days, .int .i64 g.slots, .int .i64 g.begin_, .int .i64 g.mins] 91)).alloc (.cells #[.int .i64 t.first, .int .i64 t.weeks, .slice p t.hols.length c] 94)) := ⟨_, rfl⟩
  have HS_w0 := Lib.hid (show Sofar b w w0 from by rw [hw0]; exact (((Sofar.refl hd).alloc _).alloc _))
  have HP_w0 := Lib.hid (show Blk P #[.int .i64 g.days, .int .i64 g.slots, .int .i64 g.begin_, .int .i64 g.mins] 91 w0 from by rw [hw0, hP]; exact (Blk.new' _ _ _ (by simp)).alloc _)
  have lP : w.heap.size ≤ P := by omega
  have HQ_w0 := Lib.hid (show Blk Q #[.int .i64 t.first, .int .i64 t.weeks, .slice p t.hols.length c] 94 w0 from by rw [hw0, hQ]; exact Blk.new' _ _ _ (by simp))
  have lQ : w.heap.size ≤ Q := by omega
  have nQP : Q ≠ P := by omega
  have bP : b < P := by omega
  have bQ : b < Q := by omega
  go_enter Tryz.func38, Tryz.ntmps38
  go_upto_region 1 with (fail)
  rw [← hw0, ← hQ, ← hP]; clear hw0 hP hQ; have nPb : P ≠ b := by omega
  have nQb : Q ≠ b := by omega
  have HWB := Lib.hid hblt; go_wp2_with fail
  refine (next_any b 5 _ HS_w0.out.dice (by omega) (by omega)).mono ?_
  rintro e w1 ⟨a1, rfl, l1, u1, -, hd, ho⟩; have u1 := u1 (by omega)
  have HS_w1 := Lib.hid (HS_w0.out.only hd ho)
  have HP_w1 := Lib.hid (HP_w0.out.only ho (by omega))
  have HQ_w1 := Lib.hid (HQ_w0.out.only ho (by omega))
  clear hd ho HS_w0 HP_w0 HQ_w0; go_wp2_with fail
  go_loopw [7, 8, 9] (fun ov nv iv wr => ∃ (ls : List (Value × List Ses)) (ns : List Ses) (n : Int), iv = .int .i64 n ∧ 0 ≤ n ∧ n ≤ 4 ∧ ls.length + n ≤ 4 ∧ ns.length + 3 * n ≤ 12 ∧ Hid (RowSS w.heap.size wr ov ls) ∧ Hid (∀ q ∈ ls, q.2.length ≤ 12 ∧ VerOk g t.weeks q.2) ∧ Hid (VerOk g t.weeks ns) ∧ Hid (RowS w.heap.size wr nv ns) ∧ Hid (Blk P #[.int .i64 g.days, .int .i64 g.slots, .int .i64 g.begin_, .int .i64 g.mins] 91 wr) ∧ Hid (Blk Q #[.int .i64 t.first, .int .i64 t.weeks, .slice p t.hols.length c] 94 wr) ∧ Hid (Sofar b w wr)) (fun _ _ iv _ => (intOf iv).toNat)
  case atStart => exact ⟨[], [], a1, rfl, by omega, by omega, by simp; omega, by simp; omega, Lib.hid (RowSS.nil _ _), Lib.hid (fun q h => by cases h), Lib.hid (VerOk.nil _ _), Lib.hid (RowS.nil _ _), HP_w1, HQ_w1, HS_w1⟩
  case round =>
    clear HP_w1 HQ_w1 HS_w1; obtain ⟨ls, ns, n, rfl, hn0, hn1, hll, hnl, HO, HLE, HNV, HN, HP_wr, HQ_wr, HS_wr⟩ := hrel; obtain ⟨un, hun⟩ : ∃ X, X = u8 := ⟨_, rfl⟩
    subst hun; by_cases hpos : 0 < n
    rotate_left
    · go_wp2_with fail
      go_ret; exact ⟨_, rfl, ls, HO.out, by omega, fun a b h => HLE.out (a, b) h, HS_wr.out⟩
    have hszw : w.heap.size ≤ wr.heap.size := HS_wr.out.but.size
    go_wp2_with (at_builtin; refine wpList_append_row rfl (.const (.slice none 0 0)) (.tmp 18) 106 rfl w.heap.size 110 i0 _ 6 64 Tryz.underlying106 hii hz0 hz1 hz2 rfl (by decide) _ _ _ rfl (World.ownsRow_nil wr _ _ _) w.heap.size _ _ _ rfl HN.out (sL_cells1 _) (by unfold maxLen; omega) (by omega) hszw ?_)
    intro v1 x1 hown hgrow hat; have hgrow : wr.grownBy x1 none := hgrow
    have HN1 := Lib.hid (show RowS w.heap.size x1 v1 ns from by simpa [RowS] using hown)
    have hbl : Below wr.heap.size wr x1 := ⟨hgrow.os, hgrow.tape, hgrow.output, hgrow.size, fun k hk => hgrow.block k hk (by simp)⟩
    have HS1 := Lib.hid (HS_wr.out.grown0 hgrow)
    have HP1 := Lib.hid (HP_wr.out.below hbl HP_wr.out.lt)
    have HQ1 := Lib.hid (HQ_wr.out.below hbl HQ_wr.out.lt)
    have HO1 := Lib.hid (HO.out.but HWB.out (But.of_below hbl))
    clear hown hgrow hat hbl hszw HO HN HP_wr HQ_wr HS_wr; go_wp2_with fail
    refine (next_any b 3 _ HS1.out.dice (by omega) (by omega)).mono ?_
    rintro e x2 ⟨m, rfl, m0, m1, -, hd, ho⟩; have m1 := m1 (by omega)
    have HS2 := Lib.hid (HS1.out.only hd ho)
    have HP2 := Lib.hid (HP1.out.only ho nPb)
    have HQ2 := Lib.hid (HQ1.out.only ho nQb)
    have HO2 := Lib.hid (HO1.out.but HWB.out ho.but)
    have HN2 := Lib.hid (show RowS w.heap.size x2 v1 ns from row_but HN1.out HWB.out ho.but)
    clear hd ho HS1 HP1 HQ1 HO1 HN1; go_wp2_with fail
    go_loopw [8, 10] (fun nv iv wr => ∃ (zs : List Ses) (k : Int), iv = .int .i64 k ∧ 0 ≤ k ∧ k ≤ 3 ∧ zs.length + k ≤ ns.length + 3 ∧ Hid (RowSS w.heap.size wr u7 ls) ∧ Hid (VerOk g t.weeks zs) ∧ Hid (RowS w.heap.size wr nv zs) ∧ Hid (Blk P #[.int .i64 g.days, .int .i64 g.slots, .int .i64 g.begin_, .int .i64 g.mins] 91 wr) ∧ Hid (Blk Q #[.int .i64 t.first, .int .i64 t.weeks, .slice p t.hols.length c] 94 wr) ∧ Hid (Sofar b w wr)) (fun _ iv _ => (intOf iv).toNat)
    case atStart => exact ⟨ns, 1 + m, by go_num, by omega, by omega, by omega, HO2, HNV, HN2, HP2, HQ2, HS2⟩
    case round =>
      clear HO2 HN2 HP2 HQ2 HS2; obtain ⟨zs, k, rfl, hk0, hk1, hzl, HO, HZV, HN, HP, HQ, HS⟩ := hrel; by_cases hkp : 0 < k
      rotate_left
      · have hszw : w.heap.size ≤ wr.heap.size := HS.out.but.size
        obtain ⟨po, co, hu⟩ := ownsRow_len HO.out.row
        subst hu; obtain ⟨pz, cz, hz⟩ := HN.out.slice
        subst hz; go_wp2_with (at_builtin; refine wpList_append_own_at _ rfl (.tmp 55) (.tmp 57) 96 rfl w.heap.size 106 i1 _ 1 24 Tryz.underlying96 hji hy0 hy1 hy2 rfl (by decide) _ _ _ rfl (World.ownsRow.alloc HO.out.row _) ⟨wr.heap.size, 0, none⟩ 1 1 [.slice pz zs.length cz] rfl rfl (cell_one _ _ _) (by intro u hu; simp at hu; subst hu; rfl) (by unfold maxLen; omega) (by omega) (by simp; omega) ?_)
        intro v8 x8 hown8 hgrow _ hat; have HO8 := Lib.hid (RowSS.snoc (q := (.slice pz zs.length cz, zs)) (HO.out.alloc (.cells #[.slice pz zs.length cz] 106)) (World.ownsRow.alloc HN.out _) hgrow hown8)
        have HS8 := Lib.hid ((HS.out.alloc (.cells #[.slice pz zs.length cz] 106)).grow (World.ownsRow.alloc HO.out.row _) (Nat.le_refl _) HWB.out (by simp; omega) hgrow)
        have HN8 := Lib.hid (show RowS w.heap.size x8 (.slice pz zs.length cz) zs from World.ownsRow.kept (World.ownsRow.alloc HN.out _) hgrow (row_apart_ty (World.ownsRow.alloc HN.out _) (World.ownsRow.alloc HO.out.row (.cells #[.slice pz zs.length cz] 106)) (by decide)))
        have HP8 := Lib.hid ((HP.out.alloc (.cells #[.slice pz zs.length cz] 106)).grown (World.ownsRow.alloc HO.out.row _) hgrow (by decide))
        have HQ8 := Lib.hid ((HQ.out.alloc (.cells #[.slice pz zs.length cz] 106)).grown (World.ownsRow.alloc HO.out.row _) hgrow (by decide))
        have HL8 := Lib.hid (show ∀ q ∈ ls ++ [(.slice pz zs.length cz, zs)], q.2.length ≤ 12 ∧ VerOk g t.weeks q.2 from fun q hq => by
          rcases List.mem_append.1 hq with h | h
          · exact HLE.out q h
          · rw [List.mem_singleton.1 h]; exact ⟨by show zs.length ≤ 12; omega, HZV.out⟩)
        clear hown8 hgrow hat HO HS HN HP HQ; go_wp2_with fail
        go_roundw
        case rel => exact ⟨ls ++ [(.slice pz zs.length cz, zs)], zs, n - 1, by go_num, by omega, by omega, by rw [List.length_append]; simp; omega, by omega, HO8, HL8, HZV, HN8, HP8, HQ8, HS8⟩
        case measure => simp [intOf]; omega
      obtain ⟨wa, hwa⟩ : ∃ X, X = wr := ⟨_, rfl⟩
      rw [← hwa] at HO HN HP HQ HS ⊢
      clear hwa; have hbB : b < wa.heap.size := HS.out.dice.lt
      have hsw : w.heap.size ≤ wa.heap.size := HS.out.but.size
      obtain ⟨pz, cz, hz⟩ := HN.out.slice
      subst hz; go_upto_region 9 with (fail)
      have HP0 := HP; have HQ0 := HQ; have HSa := HS; clear HP HQ HS; refine wp_region_tail 14 (by kernel_rfl) (fun listed a x => ∃ (l0 l1 l2 l3 l4 l5 l6 l7 l8 l9 l10 l11 l12 l13 : Bool) (t11 t27 t28 t29 t30 t31 t32 t33 t34 t35 t36 t37 t38 t39 : Value), listed = #[l0, l1, l2, l3, l4, l5, l6, l7, l8, l9, l10, l11, l12, l13, false] ∧ a = ⟨(.pointer (some ⟨b, 0, none⟩) :: .agg #[.int .i64 g.days, .int .i64 g.slots, .int .i64 g.begin_, .int .i64 g.mins] :: .agg #[.int .i64 t.first, .int .i64 t.weeks, .slice p t.hols.length c] :: undef :: .pointer (some ⟨P, 0, none⟩) :: .pointer (some ⟨Q, 0, none⟩) :: .slice none 0 0 :: u7 :: .slice pz zs.length cz :: .int .i64 n :: .int .i64 k :: t11 :: .pointer (some ⟨b, 0, none⟩) :: .int .i64 a1 :: .int .i64 n :: .bool true :: u16 :: u17 :: un :: v1 :: .pointer (some ⟨b, 0, none⟩) :: .int .i64 m :: .int .i64 (1 + m) :: .int .i64 k :: .bool true :: u25 :: u26 :: t27 :: t28 :: t29 :: t30 :: t31 :: t32 :: t33 :: t34 :: t35 :: t36 :: t37 :: t38 :: t39 :: u40 :: u41 :: u42 :: u43 :: u44 :: u45 :: u46 :: u47 :: u48 :: u49 :: u50 :: u51 :: u52 :: u53 :: u54 :: u55 :: u56 :: u57 :: u58 :: undef :: []).toArray, []⟩ ∧ Hid (l0 = true → t27 = .pointer (some ⟨b, 0, none⟩)) ∧ Hid (l1 = true → ∃ (n : Int), t28 = .int .i64 n ∧ 0 ≤ n ∧ n ≤ 3) ∧ Hid (l2 = true → ∃ (n : Int), t29 = .int .i64 n ∧ 49 ≤ n ∧ n ≤ 52) ∧ Hid (l3 = true → ∃ (ch : UInt8), t30 = .int .u8 ch.toNat ∧ 49 ≤ ch.toNat ∧ ch.toNat ≤ 52) ∧ Hid (l4 = true → l5 = false → ∃ (ch : UInt8) (g : Nat), t31 = .slice (some ⟨g, 0, none⟩) 1 1 ∧ wa.heap.size ≤ g ∧ Blk g #[.int .u8 ch.toNat] 5 x ∧ 49 ≤ ch.toNat ∧ ch.toNat ≤ 52) ∧ Hid (l5 = true → ∃ (ch : UInt8), t32 = .string ⟨#[ch]⟩ ∧ 49 ≤ ch.toNat ∧ ch.toNat ≤ 52) ∧ Hid (l6 = true → ∃ (ch : UInt8), t33 = .string (⟨#[99]⟩ ++ ⟨#[ch]⟩) ∧ 49 ≤ ch.toNat ∧ ch.toNat ≤ 52) ∧ Hid (l7 = true → t34 = .pointer (some ⟨b, 0, none⟩)) ∧ Hid (l8 = true → t35 = .agg #[.int .i64 g.days, .int .i64 g.slots, .int .i64 g.begin_, .int .i64 g.mins]) ∧ Hid (l9 = true → t36 = .pointer (some ⟨Q, 1, none⟩)) ∧ Hid (l10 = true → t37 = .int .i64 t.weeks) ∧ Hid (l11 = true → ∃ (y : Tt.Tim), t38 = .agg #[.int .i64 y.weeks, .int .i64 y.day, .int .i64 y.start, .int .i64 y.len] ∧ Tt.TimOk g t.weeks y) ∧ Hid (l12 = true → ∃ (ch : UInt8) (y : Tt.Tim), t39 = .agg #[.string (⟨#[99]⟩ ++ ⟨#[ch]⟩), .int .i64 y.weeks, .int .i64 y.day, .int .i64 y.start, .int .i64 y.len, .string ⟨#[]⟩] ∧ 49 ≤ ch.toNat ∧ ch.toNat ≤ 52 ∧ Tt.TimOk g t.weeks y) ∧ Hid (l13 = true → ∃ (S : Nat), t11 = .pointer (some ⟨S, 0, none⟩) ∧ wa.heap.size ≤ S ∧ Blk S #[.string ⟨#[]⟩, .int .i64 0, .int .i64 0, .int .i64 0, .int .i64 0, .string ⟨#[]⟩] 110 x) ∧ Hid (Sofar b wa x)) (by decide) (by kernel_rfl) (by kernel_rfl) ?_ ?_ ?_ ?_
      · exact ⟨false, false, false, false, false, false, false, false, false, false, false, false, false, false, _, _, _, _, _, _, _, _, _, _, _, _, _, _, rfl, rfl, Lib.hid (fun h => by cases h), Lib.hid (fun h => by cases h), Lib.hid (fun h => by cases h), Lib.hid (fun h => by cases h), Lib.hid (fun h => by cases h), Lib.hid (fun h => by cases h), Lib.hid (fun h => by cases h), Lib.hid (fun h => by cases h), Lib.hid (fun h => by cases h), Lib.hid (fun h => by cases h), Lib.hid (fun h => by cases h), Lib.hid (fun h => by cases h), Lib.hid (fun h => by cases h), Lib.hid (fun h => by cases h), Lib.hid (Sofar.start HSa.out.dice)⟩
      · intro listed a x hj; obtain ⟨l0, hj⟩ := hj
        obtain ⟨l1, hj⟩ := hj; obtain ⟨l2, hj⟩ := hj; obtain ⟨l3, hj⟩ := hj; obtain ⟨l4, hj⟩ := hj; obtain ⟨l5, hj⟩ := hj; obtain ⟨l6, hj⟩ := hj; obtain ⟨l7, hj⟩ := hj; obtain ⟨l8, hj⟩ := hj; obtain ⟨l9, hj⟩ := hj; obtain ⟨l10, hj⟩ := hj; obtain ⟨l11, hj⟩ := hj; obtain ⟨l12, hj⟩ := hj; obtain ⟨l13, hj⟩ := hj; obtain ⟨t11, hj⟩ := hj; obtain ⟨t27, hj⟩ := hj; obtain ⟨t28, hj⟩ := hj; obtain ⟨t29, hj⟩ := hj; obtain ⟨t30, hj⟩ := hj; obtain ⟨t31, hj⟩ := hj; obtain ⟨t32, hj⟩ := hj; obtain ⟨t33, hj⟩ := hj; obtain ⟨t34, hj⟩ := hj; obtain ⟨t35, hj⟩ := hj; obtain ⟨t36, hj⟩ := hj; obtain ⟨t37, hj⟩ := hj; obtain ⟨t38, hj⟩ := hj; obtain ⟨t39, hj⟩ := hj; obtain ⟨h1, -⟩ := hj; subst h1; exact ⟨rfl, fun k h1 h2 => by (have h2 : k < 15 := h2); obtain rfl : k = 14 := (by omega); rfl⟩
      · intro listed a x i hj hlt hu haf; obtain ⟨l0, hj⟩ := hj
        obtain ⟨l1, hj⟩ := hj; obtain ⟨l2, hj⟩ := hj; obtain ⟨l3, hj⟩ := hj; obtain ⟨l4, hj⟩ := hj; obtain ⟨l5, hj⟩ := hj; obtain ⟨l6, hj⟩ := hj; obtain ⟨l7, hj⟩ := hj; obtain ⟨l8, hj⟩ := hj; obtain ⟨l9, hj⟩ := hj; obtain ⟨l10, hj⟩ := hj; obtain ⟨l11, hj⟩ := hj; obtain ⟨l12, hj⟩ := hj; obtain ⟨l13, hj⟩ := hj; obtain ⟨t11, hj⟩ := hj; obtain ⟨t27, hj⟩ := hj; obtain ⟨t28, hj⟩ := hj; obtain ⟨t29, hj⟩ := hj; obtain ⟨t30, hj⟩ := hj; obtain ⟨t31, hj⟩ := hj; obtain ⟨t32, hj⟩ := hj; obtain ⟨t33, hj⟩ := hj; obtain ⟨t34, hj⟩ := hj; obtain ⟨t35, hj⟩ := hj; obtain ⟨t36, hj⟩ := hj; obtain ⟨t37, hj⟩ := hj; obtain ⟨t38, hj⟩ := hj; obtain ⟨t39, hj⟩ := hj; obtain ⟨hl_, hj⟩ := hj; obtain ⟨ha_, hj⟩ := hj; obtain ⟨H0, hj⟩ := hj; obtain ⟨H1, hj⟩ := hj; obtain ⟨H2, hj⟩ := hj; obtain ⟨H3, hj⟩ := hj; obtain ⟨H4, hj⟩ := hj; obtain ⟨H5, hj⟩ := hj; obtain ⟨H6, hj⟩ := hj; obtain ⟨H7, hj⟩ := hj; obtain ⟨H8, hj⟩ := hj; obtain ⟨H9, hj⟩ := hj; obtain ⟨H10, hj⟩ := hj; obtain ⟨H11, hj⟩ := hj; obtain ⟨H12, hj⟩ := hj; obtain ⟨H13, hj⟩ := hj; have HS := hj; clear hj; subst hl_; subst ha_; rcases (show ∀ i : Nat, i < 14 → (i = 0 ∨ i = 1 ∨ i = 2 ∨ i = 3 ∨ i = 4 ∨ i = 5 ∨ i = 6 ∨ i = 7 ∨ i = 8 ∨ i = 9 ∨ i = 10 ∨ i = 11 ∨ i = 12 ∨ i = 13) by decide) i hlt with rfl | rfl | rfl | rfl | rfl | rfl | rfl | rfl | rfl | rfl | rfl | rfl | rfl | rfl
        · have haf := haf _ rfl; clear haf
          have hu : l0 = false := hu
          refine wpOp_of_list_any rfl fun QQ hQ => ?_
          have hQQ := Lib.hid hQ; clear hQ; simp only [List.getElem_toArray, List.getElem_cons_zero]
          go_wp2_with fail
          exact hQQ.out _ _ ⟨true, l1, l2, l3, l4, l5, l6, l7, l8, l9, l10, l11, l12, l13, _, _, _, _, _, _, _, _, _, _, _, _, _, _, rfl, rfl, Lib.hid (fun _ => rfl), H1, H2, H3, H4, H5, H6, H7, H8, H9, H10, H11, H12, H13, HS⟩
        · have haf := haf _ rfl; have q0 : l0 = true := haf ⟨0, Go.Ground.data⟩ (by simp) rfl
          clear haf; have hu : l1 = false := hu
          have e0 := (H0.out q0)
          subst e0; clear H0; refine wpOp_of_list_any rfl fun QQ hQ => ?_
          have hQQ := Lib.hid hQ; clear hQ; simp only [List.getElem_toArray, List.getElem_cons_zero, List.getElem_cons_succ]
          go_wp2_with fail
          refine (next_any b 4 _ HS.out.dice (by omega) (by omega)).mono ?_
          rintro e x1 ⟨v, rfl, h0, h1, -, hd1, ho1⟩; have h1 := h1 (by omega)
          have hk := Kept.only ho1 hbB; have HS1 := Lib.hid (HS.out.only hd1 ho1)
          clear ho1 hd1; go_wp2_with fail
          exact hQQ.out _ _ ⟨l0, true, l2, l3, l4, l5, l6, l7, l8, l9, l10, l11, l12, l13, _, _, _, _, _, _, _, _, _, _, _, _, _, _, rfl, rfl, Lib.hid (fun _ => rfl), Lib.hid (fun _ => ⟨_, rfl, by omega, by omega⟩), H2, H3, Lib.hid (fun h h2 => (by obtain ⟨ch, g, e, c0, c1, c2, c3⟩ := H4.out h h2; exact ⟨ch, g, e, c0, (hk _ _ _ c0 c1), c2, c3⟩)), H5, H6, H7, H8, H9, H10, H11, H12, Lib.hid (fun h => (by obtain ⟨S, e, c0, c1⟩ := H13.out h; exact ⟨S, e, c0, (hk _ _ _ c0 c1)⟩)), HS1⟩
        · have haf := haf _ rfl; have q1 : l1 = true := haf ⟨1, Go.Ground.data⟩ (by simp) rfl
          clear haf; have hu : l2 = false := hu
          obtain ⟨n1, e1, c1_0, c1_1⟩ := (H1.out q1)
          subst e1; clear H1; refine wpOp_of_list_any rfl fun QQ hQ => ?_
          have hQQ := Lib.hid hQ; clear hQ; simp only [List.getElem_toArray, List.getElem_cons_zero, List.getElem_cons_succ]
          go_wp2_with fail
          exact hQQ.out _ _ ⟨l0, l1, true, l3, l4, l5, l6, l7, l8, l9, l10, l11, l12, l13, _, _, _, _, _, _, _, _, _, _, _, _, _, _, rfl, rfl, H0, Lib.hid (fun _ => ⟨n1, rfl, c1_0, c1_1⟩), Lib.hid (fun _ => ⟨_, rfl, by omega, by omega⟩), H3, H4, H5, H6, H7, H8, H9, H10, H11, H12, H13, HS⟩
        · have haf := haf _ rfl; have q2 : l2 = true := haf ⟨2, Go.Ground.data⟩ (by simp) rfl
          clear haf; have hu : l3 = false := hu
          obtain ⟨n2, e2, c2_0, c2_1⟩ := (H2.out q2)
          subst e2; clear H2; refine wpOp_of_list_any rfl fun QQ hQ => ?_
          have hQQ := Lib.hid hQ; clear hQ; simp only [List.getElem_toArray, List.getElem_cons_zero, List.getElem_cons_succ]
          go_wp2_with fail
          exact hQQ.out _ _ ⟨l0, l1, l2, true, l4, l5, l6, l7, l8, l9, l10, l11, l12, l13, _, _, _, _, _, _, _, _, _, _, _, _, _, _, rfl, rfl, H0, H1, Lib.hid (fun _ => ⟨n2, rfl, c2_0, c2_1⟩), Lib.hid (fun _ => ⟨_, congrArg (Value.int .u8) (byte_of _ (by omega) (by omega)), (byte_in (by omega) (by omega)).1, (byte_in (by omega) (by omega)).2⟩), H4, H5, H6, H7, H8, H9, H10, H11, H12, H13, HS⟩
        · have haf := haf _ rfl; have q3 : l3 = true := haf ⟨3, Go.Ground.data⟩ (by simp) rfl
          clear haf; have hu : l4 = false := hu
          obtain ⟨ch3, e3, c3_0, c3_1⟩ := (H3.out q3)
          subst e3; clear H3; refine wpOp_of_list_any rfl fun QQ hQ => ?_
          have hQQ := Lib.hid hQ; clear hQ; simp only [List.getElem_toArray, List.getElem_cons_zero, List.getElem_cons_succ]
          go_wp2_with fail
          exact hQQ.out _ _ ⟨l0, l1, l2, l3, true, l5, l6, l7, l8, l9, l10, l11, l12, l13, _, _, _, _, _, _, _, _, _, _, _, _, _, _, rfl, rfl, H0, H1, H2, Lib.hid (fun _ => ⟨ch3, rfl, c3_0, c3_1⟩), Lib.hid (fun _ _ => ⟨_, _, rfl, HS.out.but.size, Blk.new x _ _, c3_0, c3_1⟩), H5, H6, H7, H8, H9, H10, H11, H12, Lib.hid (fun h => (by obtain ⟨S, e, c0, c1⟩ := H13.out h; exact ⟨S, e, c0, ((Kept.alloc _ x _) _ _ _ c0 c1)⟩)), Lib.hid (HS.out.alloc _)⟩
        · have haf := haf _ rfl; have q4 : l4 = true := haf ⟨4, Go.Ground.data⟩ (by simp) rfl
          clear haf; have hu : l5 = false := hu
          obtain ⟨ch4, g4, e4, c4_0, c4_1, c4_2, c4_3⟩ := (H4.out q4 hu)
          subst e4; clear H4; have hcv := one_byte_blk c4_1; refine wpOp_of_list_any rfl fun QQ hQ => ?_
          have hQQ := Lib.hid hQ; clear hQ; simp only [List.getElem_toArray, List.getElem_cons_zero, List.getElem_cons_succ]
          go_wp2_with fail
          exact hQQ.out _ _ ⟨l0, l1, l2, l3, l4, true, l6, l7, l8, l9, l10, l11, l12, l13, _, _, _, _, _, _, _, _, _, _, _, _, _, _, rfl, rfl, H0, H1, H2, H3, Lib.hid (fun _ h => by cases h), Lib.hid (fun _ => ⟨_, rfl, c4_2, c4_3⟩), H6, H7, H8, H9, H10, H11, H12, H13, HS⟩
        · have haf := haf _ rfl; have q5 : l5 = true := haf ⟨5, Go.Ground.data⟩ (by simp) rfl
          clear haf; have hu : l6 = false := hu
          obtain ⟨ch5, e5, c5_0, c5_1⟩ := (H5.out q5)
          subst e5; clear H5; refine wpOp_of_list_any rfl fun QQ hQ => ?_
          have hQQ := Lib.hid hQ; clear hQ; simp only [List.getElem_toArray, List.getElem_cons_zero, List.getElem_cons_succ]
          go_wp2_with fail
          exact hQQ.out _ _ ⟨l0, l1, l2, l3, l4, l5, true, l7, l8, l9, l10, l11, l12, l13, _, _, _, _, _, _, _, _, _, _, _, _, _, _, rfl, rfl, H0, H1, H2, H3, H4, Lib.hid (fun _ => ⟨ch5, rfl, c5_0, c5_1⟩), Lib.hid (fun _ => ⟨_, rfl, c5_0, c5_1⟩), H7, H8, H9, H10, H11, H12, H13, HS⟩
        · have haf := haf _ rfl; clear haf
          have hu : l7 = false := hu
          refine wpOp_of_list_any rfl fun QQ hQ => ?_
          have hQQ := Lib.hid hQ; clear hQ; simp only [List.getElem_toArray, List.getElem_cons_zero, List.getElem_cons_succ]
          go_wp2_with fail
          exact hQQ.out _ _ ⟨l0, l1, l2, l3, l4, l5, l6, true, l8, l9, l10, l11, l12, l13, _, _, _, _, _, _, _, _, _, _, _, _, _, _, rfl, rfl, H0, H1, H2, H3, H4, H5, H6, Lib.hid (fun _ => rfl), H8, H9, H10, H11, H12, H13, HS⟩
        · have haf := haf _ rfl; clear haf
          have hu : l8 = false := hu
          have hc0 : x.cell? ⟨P, 0, none⟩ = some (.int .i64 g.days) := (HS.out.blk HP0.out nPb).cell 0
          have hc1 : x.cell? ⟨P, 1, none⟩ = some (.int .i64 g.slots) := (HS.out.blk HP0.out nPb).cell 1
          have hc2 : x.cell? ⟨P, 2, none⟩ = some (.int .i64 g.begin_) := (HS.out.blk HP0.out nPb).cell 2
          have hc3 : x.cell? ⟨P, 3, none⟩ = some (.int .i64 g.mins) := (HS.out.blk HP0.out nPb).cell 3
          refine wpOp_of_list_any rfl fun QQ hQ => ?_
          have hQQ := Lib.hid hQ; clear hQ; simp only [List.getElem_toArray, List.getElem_cons_zero, List.getElem_cons_succ]
          go_wp2_with fail
          exact hQQ.out _ _ ⟨l0, l1, l2, l3, l4, l5, l6, l7, true, l9, l10, l11, l12, l13, _, _, _, _, _, _, _, _, _, _, _, _, _, _, rfl, rfl, H0, H1, H2, H3, H4, H5, H6, H7, Lib.hid (fun _ => rfl), H9, H10, H11, H12, H13, HS⟩
        · have haf := haf _ rfl; clear haf
          have hu : l9 = false := hu
          refine wpOp_of_list_any rfl fun QQ hQ => ?_
          have hQQ := Lib.hid hQ; clear hQ; simp only [List.getElem_toArray, List.getElem_cons_zero, List.getElem_cons_succ]
          go_wp2_with fail
          exact hQQ.out _ _ ⟨l0, l1, l2, l3, l4, l5, l6, l7, l8, true, l10, l11, l12, l13, _, _, _, _, _, _, _, _, _, _, _, _, _, _, rfl, rfl, H0, H1, H2, H3, H4, H5, H6, H7, H8, Lib.hid (fun _ => rfl), H10, H11, H12, H13, HS⟩
        · have haf := haf _ rfl; have q9 : l9 = true := haf ⟨9, Go.Ground.data⟩ (by simp) rfl
          clear haf; have hu : l10 = false := hu
          have e9 := (H9.out q9)
          subst e9; clear H9; have hc : x.cell? ⟨Q, 1, none⟩ = some (.int .i64 t.weeks) := (HS.out.blk HQ0.out nQb).cell 1
          refine wpOp_of_list_any rfl fun QQ hQ => ?_
          have hQQ := Lib.hid hQ; clear hQ; simp only [List.getElem_toArray, List.getElem_cons_zero, List.getElem_cons_succ]
          go_wp2_with fail
          exact hQQ.out _ _ ⟨l0, l1, l2, l3, l4, l5, l6, l7, l8, l9, true, l11, l12, l13, _, _, _, _, _, _, _, _, _, _, _, _, _, _, rfl, rfl, H0, H1, H2, H3, H4, H5, H6, H7, H8, Lib.hid (fun _ => rfl), Lib.hid (fun _ => rfl), H11, H12, H13, HS⟩
        · have haf := haf _ rfl; have q7 : l7 = true := haf ⟨7, Go.Ground.data⟩ (by simp) rfl
          have q8 : l8 = true := haf ⟨8, Go.Ground.data⟩ (by simp) rfl
          have q10 : l10 = true := haf ⟨10, Go.Ground.data⟩ (by simp) rfl
          clear haf; have hu : l11 = false := hu
          have e7 := (H7.out q7)
          subst e7; clear H7; have e8 := (H8.out q8)
          subst e8; clear H8; have e10 := (H10.out q10)
          subst e10; clear H10; refine wpOp_of_list_any rfl fun QQ hQ => ?_
          have hQQ := Lib.hid hQ; clear hQ; simp only [List.getElem_toArray, List.getElem_cons_zero, List.getElem_cons_succ]
          go_wp2_with fail
          refine (time72v b g t.weeks _ HS.out.dice k0 k1 g0 g1 g2 g3).mono ?_
          rintro e x1 ⟨y, rfl, hy, hs1⟩; have hk := Kept.but hs1.but (B := wa.heap.size) hbB
          have HS1 := Lib.hid (HS.out.trans hs1)
          clear hs1; unfold timVal
          go_wp2_with fail
          exact hQQ.out _ _ ⟨l0, l1, l2, l3, l4, l5, l6, l7, l8, l9, l10, true, l12, l13, _, _, _, _, _, _, _, _, _, _, _, _, _, _, rfl, rfl, H0, H1, H2, H3, Lib.hid (fun h h2 => (by obtain ⟨ch, g, e, c0, c1, c2, c3⟩ := H4.out h h2; exact ⟨ch, g, e, c0, (hk _ _ _ c0 c1), c2, c3⟩)), H5, H6, Lib.hid (fun _ => rfl), Lib.hid (fun _ => rfl), H9, Lib.hid (fun _ => rfl), Lib.hid (fun _ => ⟨_, rfl, hy⟩), H12, Lib.hid (fun h => (by obtain ⟨S, e, c0, c1⟩ := H13.out h; exact ⟨S, e, c0, (hk _ _ _ c0 c1)⟩)), HS1⟩
        · have haf := haf _ rfl; have q6 : l6 = true := haf ⟨6, Go.Ground.data⟩ (by simp) rfl
          have q11 : l11 = true := haf ⟨11, Go.Ground.data⟩ (by simp) rfl
          clear haf; have hu : l12 = false := hu
          obtain ⟨ch6, e6, c6_0, c6_1⟩ := (H6.out q6)
          subst e6; clear H6; obtain ⟨y11, e11, c11_0⟩ := (H11.out q11)
          subst e11; clear H11; refine wpOp_of_list_any rfl fun QQ hQ => ?_
          have hQQ := Lib.hid hQ; clear hQ; simp only [List.getElem_toArray, List.getElem_cons_zero, List.getElem_cons_succ]
          go_wp2_with fail
          exact hQQ.out _ _ ⟨l0, l1, l2, l3, l4, l5, l6, l7, l8, l9, l10, l11, true, l13, _, _, _, _, _, _, _, _, _, _, _, _, _, _, rfl, rfl, H0, H1, H2, H3, H4, H5, Lib.hid (fun _ => ⟨ch6, rfl, c6_0, c6_1⟩), H7, H8, H9, H10, Lib.hid (fun _ => ⟨y11, rfl, c11_0⟩), Lib.hid (fun _ => ⟨_, _, rfl, c6_0, c6_1, c11_0⟩), H13, HS⟩
        · have haf := haf _ rfl; clear haf
          have hu : l13 = false := hu
          refine wpOp_of_list_any rfl fun QQ hQ => ?_
          have hQQ := Lib.hid hQ; clear hQ; simp only [List.getElem_toArray, List.getElem_cons_zero, List.getElem_cons_succ]
          go_wp2_with fail
          exact hQQ.out _ _ ⟨l0, l1, l2, l3, l4, l5, l6, l7, l8, l9, l10, l11, l12, true, _, _, _, _, _, _, _, _, _, _, _, _, _, _, rfl, rfl, H0, H1, H2, H3, Lib.hid (fun h h2 => (by obtain ⟨ch, g, e, c0, c1, c2, c3⟩ := H4.out h h2; exact ⟨ch, g, e, c0, ((Kept.alloc _ x _) _ _ _ c0 c1), c2, c3⟩)), H5, H6, H7, H8, H9, H10, H11, H12, Lib.hid (fun _ => ⟨_, rfl, HS.out.but.size, Blk.new x _ _⟩), Lib.hid (HS.out.alloc _)⟩
      · intro listed a x hj hall; obtain ⟨l0, hj⟩ := hj
        obtain ⟨l1, hj⟩ := hj; obtain ⟨l2, hj⟩ := hj; obtain ⟨l3, hj⟩ := hj; obtain ⟨l4, hj⟩ := hj; obtain ⟨l5, hj⟩ := hj; obtain ⟨l6, hj⟩ := hj; obtain ⟨l7, hj⟩ := hj; obtain ⟨l8, hj⟩ := hj; obtain ⟨l9, hj⟩ := hj; obtain ⟨l10, hj⟩ := hj; obtain ⟨l11, hj⟩ := hj; obtain ⟨l12, hj⟩ := hj; obtain ⟨l13, hj⟩ := hj; obtain ⟨t11, hj⟩ := hj; obtain ⟨t27, hj⟩ := hj; obtain ⟨t28, hj⟩ := hj; obtain ⟨t29, hj⟩ := hj; obtain ⟨t30, hj⟩ := hj; obtain ⟨t31, hj⟩ := hj; obtain ⟨t32, hj⟩ := hj; obtain ⟨t33, hj⟩ := hj; obtain ⟨t34, hj⟩ := hj; obtain ⟨t35, hj⟩ := hj; obtain ⟨t36, hj⟩ := hj; obtain ⟨t37, hj⟩ := hj; obtain ⟨t38, hj⟩ := hj; obtain ⟨t39, hj⟩ := hj; obtain ⟨hl_, hj⟩ := hj; obtain ⟨ha_, hj⟩ := hj; obtain ⟨H0, hj⟩ := hj; obtain ⟨H1, hj⟩ := hj; obtain ⟨H2, hj⟩ := hj; obtain ⟨H3, hj⟩ := hj; obtain ⟨H4, hj⟩ := hj; obtain ⟨H5, hj⟩ := hj; obtain ⟨H6, hj⟩ := hj; obtain ⟨H7, hj⟩ := hj; obtain ⟨H8, hj⟩ := hj; obtain ⟨H9, hj⟩ := hj; obtain ⟨H10, hj⟩ := hj; obtain ⟨H11, hj⟩ := hj; obtain ⟨H12, hj⟩ := hj; obtain ⟨H13, hj⟩ := hj; have HS := hj; clear hj; subst hl_; subst ha_; have q13 : l13 = true := hall 13 (by omega)
        have q12 : l12 = true := hall 12 (by omega)
        clear hall; obtain ⟨S13, e13, c13_0, c13_1⟩ := (H13.out q13)
        subst e13; obtain ⟨ch12, y12, e12, c12_0, c12_1, c12_2⟩ := (H12.out q12)
        subst e12; have f0 : x.cell? ⟨S13, 0, none⟩ = some (.string ⟨#[]⟩) := c13_1.cell 0
        have f1 : x.cell? ⟨S13, 1, none⟩ = some (.int .i64 0) := c13_1.cell 1
        have f2 : x.cell? ⟨S13, 2, none⟩ = some (.int .i64 0) := c13_1.cell 2
        have f3 : x.cell? ⟨S13, 3, none⟩ = some (.int .i64 0) := c13_1.cell 3
        have f4 : x.cell? ⟨S13, 4, none⟩ = some (.int .i64 0) := c13_1.cell 4
        have f5 : x.cell? ⟨S13, 5, none⟩ = some (.string ⟨#[]⟩) := c13_1.cell 5
        have z0 := c13_1.frozen 0; have z1 := c13_1.frozen 1; have z2 := c13_1.frozen 2; have z3 := c13_1.frozen 3; have z4 := c13_1.frozen 4; have z5 := c13_1.frozen 5; refine tail_any (fun a x => ∃ (t11 t27 t28 t29 t30 t31 t32 t33 t34 t35 t36 t37 t38 t39 : Value), a = ⟨(.pointer (some ⟨b, 0, none⟩) :: .agg #[.int .i64 g.days, .int .i64 g.slots, .int .i64 g.begin_, .int .i64 g.mins] :: .agg #[.int .i64 t.first, .int .i64 t.weeks, .slice p t.hols.length c] :: undef :: .pointer (some ⟨P, 0, none⟩) :: .pointer (some ⟨Q, 0, none⟩) :: .slice none 0 0 :: u7 :: .slice pz zs.length cz :: .int .i64 n :: .int .i64 k :: t11 :: .pointer (some ⟨b, 0, none⟩) :: .int .i64 a1 :: .int .i64 n :: .bool true :: u16 :: u17 :: un :: v1 :: .pointer (some ⟨b, 0, none⟩) :: .int .i64 m :: .int .i64 (1 + m) :: .int .i64 k :: .bool true :: u25 :: u26 :: t27 :: t28 :: t29 :: t30 :: t31 :: t32 :: t33 :: t34 :: t35 :: t36 :: t37 :: t38 :: t39 :: u40 :: u41 :: u42 :: u43 :: u44 :: u45 :: u46 :: u47 :: u48 :: u49 :: u50 :: u51 :: u52 :: u53 :: u54 :: u55 :: u56 :: u57 :: u58 :: undef :: []).toArray, []⟩ ∧ ∃ (S : Nat) (ch : UInt8) (y : Tt.Tim), t11 = .pointer (some ⟨S, 0, none⟩) ∧ wa.heap.size ≤ S ∧ Blk S #[.string (⟨#[99]⟩ ++ ⟨#[ch]⟩), .int .i64 y.weeks, .int .i64 y.day, .int .i64 y.start, .int .i64 y.len, .string ⟨#[]⟩] 110 x ∧ 49 ≤ ch.toNat ∧ ch.toNat ≤ 52 ∧ Tt.TimOk g t.weeks y ∧ Sofar b wa x) ?_ fun QQ hQ => ?_
        · intro a x hpost; obtain ⟨t11, hpost⟩ := hpost
          obtain ⟨t27, hpost⟩ := hpost; obtain ⟨t28, hpost⟩ := hpost; obtain ⟨t29, hpost⟩ := hpost; obtain ⟨t30, hpost⟩ := hpost; obtain ⟨t31, hpost⟩ := hpost; obtain ⟨t32, hpost⟩ := hpost; obtain ⟨t33, hpost⟩ := hpost; obtain ⟨t34, hpost⟩ := hpost; obtain ⟨t35, hpost⟩ := hpost; obtain ⟨t36, hpost⟩ := hpost; obtain ⟨t37, hpost⟩ := hpost; obtain ⟨t38, hpost⟩ := hpost; obtain ⟨t39, hpost⟩ := hpost; obtain ⟨ha_, hpost⟩ := hpost; subst ha_; obtain ⟨S, ch, y, rfl, lS, hBS, hc0, hc1, hy, hs⟩ := hpost; obtain ⟨s, hs0⟩ : ∃ s, s = (⟨#[99]⟩ ++ ⟨#[ch]⟩ : ByteArray) := ⟨_, rfl⟩
          rw [← hs0] at hBS
          have HSO := Lib.hid (show ClsOk s from ⟨ch, hs0.trans (two_bytes _ _), hc0, hc1⟩)
          have HTM := Lib.hid hy; clear hs0 hc0 hc1 hy; have HSx := Lib.hid hs; have HB := Lib.hid hBS; clear hs hBS; have nSb : S ≠ b := by omega
          have bS : b < S := by omega
          go_wp2_with fail
          refine (one_any b 2 _ HSx.out.dice (by omega) (by omega)).mono ?_
          rintro e x4 ⟨bb, rfl, hd, ho⟩; have HSy := Lib.hid (HSx.out.only hd ho)
          have HBy := Lib.hid (HB.out.only ho nSb)
          clear hd ho HSx HB; go_upto_if 41 with (fail)
          go_cut [] from 42 to 49 (fun wx => ∃ rm : ByteArray, Hid (RmOk rm) ∧ Hid (Blk S #[.string s, .int .i64 y.weeks, .int .i64 y.day, .int .i64 y.start, .int .i64 y.len, .string rm] 110 wx) ∧ Hid (Sofar b wa wx))
          case first =>
            cases bb
            · go_wp2_with fail
              go_meet
              exact ⟨⟨#[]⟩, Lib.hid (.inl rfl), HBy, HSy⟩
            · go_wp2_with fail
              refine (next_any b 2 _ HSy.out.dice (by omega) (by omega)).mono ?_
              rintro e x5 ⟨v, rfl, v0, v1, -, hd, ho⟩; have v1 := v1 (by omega)
              have HSz := Lib.hid (HSy.out.only hd ho)
              have HBz := Lib.hid (HBy.out.only ho nSb)
              clear hd ho; rcases (show v = 0 ∨ v = 1 by omega) with rfl | rfl
              · have hcv := one_byte_blk (c := 49) (Blk.new x5 #[.int .u8 49] 5)
                have fz : (x5.alloc (.cells #[.int .u8 49] 5)).frozen? ⟨S, 5, none⟩ = false := (HBz.out.alloc _).frozen 5
                have cz : (x5.alloc (.cells #[.int .u8 49] 5)).cell? ⟨S, 5, none⟩ = some (.string ⟨#[]⟩) := (HBz.out.alloc _).cell 5
                go_wp2_with fail
                go_meet
                exact ⟨_, Lib.hid (.inr <| .inl ((two_bytes _ _).trans rfl)), Lib.hid ((HBz.out.alloc _).set 5 _), Lib.hid ((HSz.out.alloc _).set lS bS 5 _)⟩
              · have hcv := one_byte_blk (c := 50) (Blk.new x5 #[.int .u8 50] 5)
                have fz : (x5.alloc (.cells #[.int .u8 50] 5)).frozen? ⟨S, 5, none⟩ = false := (HBz.out.alloc _).frozen 5
                have cz : (x5.alloc (.cells #[.int .u8 50] 5)).cell? ⟨S, 5, none⟩ = some (.string ⟨#[]⟩) := (HBz.out.alloc _).cell 5
                go_wp2_with fail
                go_meet
                exact ⟨_, Lib.hid (.inr <| .inr ((two_bytes _ _).trans rfl)), Lib.hid ((HBz.out.alloc _).set 5 _), Lib.hid ((HSz.out.alloc _).set lS bS 5 _)⟩
          case rest =>
          obtain ⟨rm, HRM, HBb, HSb⟩ := hcut; obtain ⟨wb, hwb⟩ : ∃ X, X = wc := ⟨_, rfl⟩
          rw [← hwb] at HBb HSb ⊢
          clear hwb wc HBy HSy; have HNb := Lib.hid (show RowS w.heap.size wb (.slice pz zs.length cz) zs from row_but HN.out HWB.out HSb.out.but)
          have hbb : b < wb.heap.size := HSb.out.dice.lt
          have hswb : w.heap.size ≤ wb.heap.size := Nat.le_trans hsw HSb.out.but.size
          go_upto_region 12 with (fail)
          refine wp_region_tail 4 (by kernel_rfl) (fun listed a x => ∃ (l0 l1 l2 l3 : Bool) (t50 t51 t52 t53 : Value), listed = #[l0, l1, l2, l3, false, false] ∧ a = ⟨(.pointer (some ⟨b, 0, none⟩) :: .agg #[.int .i64 g.days, .int .i64 g.slots, .int .i64 g.begin_, .int .i64 g.mins] :: .agg #[.int .i64 t.first, .int .i64 t.weeks, .slice p t.hols.length c] :: undef :: .pointer (some ⟨P, 0, none⟩) :: .pointer (some ⟨Q, 0, none⟩) :: .slice none 0 0 :: u7 :: .slice pz zs.length cz :: .int .i64 n :: .int .i64 k :: .pointer (some ⟨S, 0, none⟩) :: .pointer (some ⟨b, 0, none⟩) :: .int .i64 a1 :: .int .i64 n :: .bool true :: u16 :: u17 :: un :: v1 :: .pointer (some ⟨b, 0, none⟩) :: .int .i64 m :: .int .i64 (1 + m) :: .int .i64 k :: .bool true :: u25 :: u26 :: t27 :: t28 :: t29 :: t30 :: t31 :: t32 :: t33 :: t34 :: t35 :: t36 :: t37 :: t38 :: t39 :: .pointer (some ⟨b, 0, none⟩) :: .bool bb :: u42 :: u43 :: u44 :: u45 :: u46 :: u47 :: u48 :: u49 :: t50 :: t51 :: t52 :: t53 :: u54 :: u55 :: u56 :: u57 :: u58 :: undef :: []).toArray, []⟩ ∧ Hid (l0 = true → t50 = .slice pz zs.length cz) ∧ Hid (l1 = true → t51 = .agg #[.string s, .int .i64 y.weeks, .int .i64 y.day, .int .i64 y.start, .int .i64 y.len, .string rm]) ∧ Hid (l2 = true → t52 = .pointer (some ⟨b, 0, none⟩)) ∧ Hid (l3 = true → ∃ (v : Bool), t53 = .bool v) ∧ Hid (Sofar b wb x)) (by decide) (by kernel_rfl) (by kernel_rfl) ?_ ?_ ?_ ?_
          · exact ⟨false, false, false, false, _, _, _, _, rfl, rfl, Lib.hid (fun h => by cases h), Lib.hid (fun h => by cases h), Lib.hid (fun h => by cases h), Lib.hid (fun h => by cases h), Lib.hid (Sofar.start HSb.out.dice)⟩
          · intro listed a x hj; obtain ⟨l0, hj⟩ := hj
            obtain ⟨l1, hj⟩ := hj; obtain ⟨l2, hj⟩ := hj; obtain ⟨l3, hj⟩ := hj; obtain ⟨t50, hj⟩ := hj; obtain ⟨t51, hj⟩ := hj; obtain ⟨t52, hj⟩ := hj; obtain ⟨t53, hj⟩ := hj; obtain ⟨h1, -⟩ := hj; subst h1; exact ⟨rfl, fun k h1 h2 => by (have h2 : k < 6 := h2); rcases (show k = 4 ∨ k = 5 by omega) with rfl | rfl <;> rfl⟩
          · intro listed a x i hj hlt hu haf; obtain ⟨l0, hj⟩ := hj
            obtain ⟨l1, hj⟩ := hj; obtain ⟨l2, hj⟩ := hj; obtain ⟨l3, hj⟩ := hj; obtain ⟨t50, hj⟩ := hj; obtain ⟨t51, hj⟩ := hj; obtain ⟨t52, hj⟩ := hj; obtain ⟨t53, hj⟩ := hj; obtain ⟨hl_, hj⟩ := hj; obtain ⟨ha_, hj⟩ := hj; obtain ⟨H0, hj⟩ := hj; obtain ⟨H1, hj⟩ := hj; obtain ⟨H2, hj⟩ := hj; obtain ⟨H3, hj⟩ := hj; have HS := hj; clear hj; subst hl_; subst ha_; rcases (show ∀ i : Nat, i < 4 → (i = 0 ∨ i = 1 ∨ i = 2 ∨ i = 3) by decide) i hlt with rfl | rfl | rfl | rfl
            · have haf := haf _ rfl; clear haf
              have hu : l0 = false := hu
              refine wpOp_of_list_any rfl fun QQ hQ => ?_
              have hQQ := Lib.hid hQ; clear hQ; simp only [List.getElem_toArray, List.getElem_cons_zero]
              go_wp2_with fail
              exact hQQ.out _ _ ⟨true, l1, l2, l3, _, _, _, _, rfl, rfl, Lib.hid (fun _ => rfl), H1, H2, H3, HS⟩
            · have haf := haf _ rfl; clear haf
              have hu : l1 = false := hu
              have hc0 : x.cell? ⟨S, 0, none⟩ = some (.string s) := (HS.out.blk HBb.out nSb).cell 0
              have hc1 : x.cell? ⟨S, 1, none⟩ = some (.int .i64 y.weeks) := (HS.out.blk HBb.out nSb).cell 1
              have hc2 : x.cell? ⟨S, 2, none⟩ = some (.int .i64 y.day) := (HS.out.blk HBb.out nSb).cell 2
              have hc3 : x.cell? ⟨S, 3, none⟩ = some (.int .i64 y.start) := (HS.out.blk HBb.out nSb).cell 3
              have hc4 : x.cell? ⟨S, 4, none⟩ = some (.int .i64 y.len) := (HS.out.blk HBb.out nSb).cell 4
              have hc5 : x.cell? ⟨S, 5, none⟩ = some (.string rm) := (HS.out.blk HBb.out nSb).cell 5
              refine wpOp_of_list_any rfl fun QQ hQ => ?_
              have hQQ := Lib.hid hQ; clear hQ; simp only [List.getElem_toArray, List.getElem_cons_zero, List.getElem_cons_succ]
              go_wp2_with fail
              exact hQQ.out _ _ ⟨l0, true, l2, l3, _, _, _, _, rfl, rfl, H0, Lib.hid (fun _ => rfl), H2, H3, HS⟩
            · have haf := haf _ rfl; clear haf
              have hu : l2 = false := hu
              refine wpOp_of_list_any rfl fun QQ hQ => ?_
              have hQQ := Lib.hid hQ; clear hQ; simp only [List.getElem_toArray, List.getElem_cons_zero, List.getElem_cons_succ]
              go_wp2_with fail
              exact hQQ.out _ _ ⟨l0, l1, true, l3, _, _, _, _, rfl, rfl, H0, H1, Lib.hid (fun _ => rfl), H3, HS⟩
            · have haf := haf _ rfl; have q2 : l2 = true := haf ⟨2, Go.Ground.data⟩ (by simp) rfl
              clear haf; have hu : l3 = false := hu
              have e2 := (H2.out q2)
              subst e2; clear H2; refine wpOp_of_list_any rfl fun QQ hQ => ?_
              have hQQ := Lib.hid hQ; clear hQ; simp only [List.getElem_toArray, List.getElem_cons_zero, List.getElem_cons_succ]
              go_wp2_with fail
              refine (one_any b 4 _ HS.out.dice (by omega) (by omega)).mono ?_
              rintro e x1 ⟨v, rfl, hd1, ho1⟩; have hk := Kept.only ho1 hbb; have HS1 := Lib.hid (HS.out.only hd1 ho1)
              clear ho1 hd1; go_wp2_with fail
              exact hQQ.out _ _ ⟨l0, l1, l2, true, _, _, _, _, rfl, rfl, H0, H1, Lib.hid (fun _ => rfl), Lib.hid (fun _ => ⟨_, rfl⟩), HS1⟩
          · intro listed a x hj hall; obtain ⟨l0, hj⟩ := hj
            obtain ⟨l1, hj⟩ := hj; obtain ⟨l2, hj⟩ := hj; obtain ⟨l3, hj⟩ := hj; obtain ⟨t50, hj⟩ := hj; obtain ⟨t51, hj⟩ := hj; obtain ⟨t52, hj⟩ := hj; obtain ⟨t53, hj⟩ := hj; obtain ⟨hl_, hj⟩ := hj; obtain ⟨ha_, hj⟩ := hj; obtain ⟨H0, hj⟩ := hj; obtain ⟨H1, hj⟩ := hj; obtain ⟨H2, hj⟩ := hj; obtain ⟨H3, hj⟩ := hj; have HS := hj; clear hj; subst hl_; subst ha_; have q0 : l0 = true := hall 0 (by omega)
            have q1 : l1 = true := hall 1 (by omega)
            have q3 : l3 = true := hall 3 (by omega)
            clear hall; have e0 := (H0.out q0)
            subst e0; have e1 := (H1.out q1)
            subst e1; obtain ⟨v3, e3⟩ := (H3.out q3)
            subst e3; have HNx := Lib.hid (show RowS w.heap.size x (.slice pz zs.length cz) zs from row_but HNb.out HWB.out HS.out.but)
            refine tail_any (fun a x => ∃ (t8 t50 t51 t52 t53 t54 : Value), a = ⟨(.pointer (some ⟨b, 0, none⟩) :: .agg #[.int .i64 g.days, .int .i64 g.slots, .int .i64 g.begin_, .int .i64 g.mins] :: .agg #[.int .i64 t.first, .int .i64 t.weeks, .slice p t.hols.length c] :: undef :: .pointer (some ⟨P, 0, none⟩) :: .pointer (some ⟨Q, 0, none⟩) :: .slice none 0 0 :: u7 :: t8 :: .int .i64 n :: .int .i64 k :: .pointer (some ⟨S, 0, none⟩) :: .pointer (some ⟨b, 0, none⟩) :: .int .i64 a1 :: .int .i64 n :: .bool true :: u16 :: u17 :: un :: v1 :: .pointer (some ⟨b, 0, none⟩) :: .int .i64 m :: .int .i64 (1 + m) :: .int .i64 k :: .bool true :: u25 :: u26 :: t27 :: t28 :: t29 :: t30 :: t31 :: t32 :: t33 :: t34 :: t35 :: t36 :: t37 :: t38 :: t39 :: .pointer (some ⟨b, 0, none⟩) :: .bool bb :: u42 :: u43 :: u44 :: u45 :: u46 :: u47 :: u48 :: u49 :: t50 :: t51 :: t52 :: t53 :: t54 :: u55 :: u56 :: u57 :: u58 :: undef :: []).toArray, []⟩ ∧ ∃ vv : Bool, RowS w.heap.size x t8 (putG ⟨s, y, rm⟩ vv zs) ∧ (putG ⟨s, y, rm⟩ vv zs).length ≤ zs.length + 1 ∧ Sofar b wb x) ?_ fun QQ hQ => ?_
            · intro a x hpost; obtain ⟨t8, hpost⟩ := hpost
              obtain ⟨t50, hpost⟩ := hpost; obtain ⟨t51, hpost⟩ := hpost; obtain ⟨t52, hpost⟩ := hpost; obtain ⟨t53, hpost⟩ := hpost; obtain ⟨t54, hpost⟩ := hpost; obtain ⟨ha_, hpost⟩ := hpost; subst ha_; obtain ⟨vv, hy, hyl, hs⟩ := hpost; obtain ⟨ys, hys⟩ : ∃ ys, ys = putG ⟨s, y, rm⟩ vv zs := ⟨_, rfl⟩
              rw [← hys] at hy hyl
              have HYV := Lib.hid (show VerOk g t.weeks ys from by rw [hys]; exact HZV.out.put _ ⟨HSO.out, HTM.out, HRM.out⟩)
              clear hys; have HSt := Lib.hid (HSb.out.trans hs)
              have HSf := Lib.hid (HSa.out.trans HSt.out)
              have HO9 := Lib.hid (HO.out.but HWB.out HSt.out.but)
              have HP9 := Lib.hid (HSt.out.blk HP0.out nPb)
              have HQ9 := Lib.hid (HSt.out.blk HQ0.out nQb)
              have HY9 := Lib.hid hy; clear hs hy; go_wp2_with fail
              go_roundw
              case rel => exact ⟨ys, k - 1, by go_num, by omega, by omega, by omega, HO9, HYV, HY9, HP9, HQ9, HSf⟩
              case measure => simp [intOf]; omega
            have hQQ := Lib.hid hQ; clear hQ; simp only [List.drop_succ_cons, List.drop_zero]
            go_wp2_with fail
            refine (show Calls Tryz.prog 77 #[.slice pz zs.length cz, .agg #[.string s, .int .i64 y.weeks, .int .i64 y.day, .int .i64 y.start, .int .i64 y.len, .string rm], .bool v3] x _ from put123v w.heap.size zs pz cz ⟨s, y, rm⟩ v3 x HNx.out (by omega)).mono ?_
            rintro e x1 ⟨u9, rfl, hy, hyl, hb⟩; have HY1 := Lib.hid (RowS.mono hy (Nat.le_trans hswb HS.out.but.size))
            have HYL := Lib.hid hyl; have HS2 := Lib.hid (HS.out.then (HS.out.dice.kept HS.out.dice.lt hb) (But.of_below hb))
            clear hy hyl hb; go_wp2_with fail
            exact hQQ.out _ _ ⟨_, _, _, _, _, _, rfl, _, HY1.out, HYL.out, HS2.out⟩
        have hQQ := Lib.hid hQ; clear hQ; simp only [List.drop_succ_cons, List.drop_zero]
        go_wp2_with fail
        exact hQQ.out _ _ ⟨_, _, _, _, _, _, _, _, _, _, _, _, _, _, rfl, _, _, _, rfl, c13_0, (((((c13_1.set 0 _).set 1 _).set 2 _).set 3 _).set 4 _).set 5 _, c12_0, c12_1, c12_2, (((((HS.out.set c13_0 (by omega) 0 _).set c13_0 (by omega) 1 _).set c13_0 (by omega) 2 _).set c13_0 (by omega) 3 _).set c13_0 (by omega) 4 _).set c13_0 (by omega) 5 _⟩
end Go.Proofs.YtcomifbfldoeiaaGreatDoor
