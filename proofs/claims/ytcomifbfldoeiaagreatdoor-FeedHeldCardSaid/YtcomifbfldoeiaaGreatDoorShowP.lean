/- What the instants of a session's event are, in a valid zone: one a day, at which clocks show the time of the slot unless they skip it. No program in sight. -/
import Derived.Test.YtcomifbfldoeiaaGreatDoorPk16
import Derived.Test.YtcomifbfldoeiaaGreatDoorPk10
import Derived.StillTailTactics
import Derived.Test.YtcomifbfldoeiaaGreatDoorPk22
import Derived.Test.YtcomifbfldoeiaaGreatDoorDaysAll
import Derived.Test.YtcomifbfldoeiaaGreatDoorPk8
import Derived.Test.YtcomifbfldoeiaaGreatDoorEvO
namespace Go.Proofs.YtcomifbfldoeiaaGreatDoor
open Go.RowKit

theorem size_list (x : ByteArray) : x.data.toList.length = x.size := by rw [Array.length_toList]; rfl
theorem evIs_b {g : Tt.Grd} {t : Tt.Trm} {s : Ses} (h : EvParts g t s) (q : Int) : EvB (evIs g t s q) := by
  have hw := (Tt.soundB_iff _).1 (Tt.fits_parts h.hf).1
  have hl := Tt.low_week hw.1
  have hb := Tt.best_len (Tt.daysK t s.tim 20) (Tt.daysK_ok _ _ h.hd).span.2 3
  have hd := Tt.dec_len 1 (Tt.lowB s.tim.weeks 20 0 + 1) (by omega)
  have hc := code_le h.hc
  have hs := size_list s.cls
  have hu := size_list (uidOf s)
  rw [uid_list, List.length_append, List.length_cons] at hu
  have hr : s.room.size ≤ 16 := by
    have h1 := h.hr; unfold roomB at h1
    rw [Bool.or_eq_true] at h1
    have h2 := size_list s.room
    rcases h1 with e | e
    · rw [List.isEmpty_iff.1 e] at h2; simp at h2; omega
    · have := code_le e; omega
  refine ⟨?_, ?_, ?_, ?_, ?_⟩
  · show (Tt.bestK _ 3).ex.length ≤ _; omega
  · show (Tt.bestK _ 3).xt.length ≤ _; omega
  · show (uidOf s).size ≤ _; omega
  · show s.cls.size ≤ _; omega
  · show s.room.size ≤ _; omega
end Go.Proofs.YtcomifbfldoeiaaGreatDoor
