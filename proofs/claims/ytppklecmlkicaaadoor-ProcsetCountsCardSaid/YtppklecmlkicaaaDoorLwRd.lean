/- The law Reads: its walk. -/
import Derived.Test.YtppklecmlkicaaaDoorProg
import Derived.Test.YtppklecmlkicaaaDoorLwCh
import Derived.Deep.QuietTactic
import Derived.BigQuiet
import Derived.StillTactics
namespace Go.Proofs.YtppklecmlkicaaaDoor
open Go.RowKit

set_option maxRecDepth 100000 in
set_option maxHeartbeats 2000000 in
theorem reads_any (n s : Int) (b : ByteArray) (hbig : b.size ≤ 4611686018427387904) (w : World) (hT : Tab w) (m : Int) (hm : w.cell? ⟨3, 0, none⟩ = some (.int .i64 m)) (h4 : 4 ≤ w.heap.size) :
    Calls Tryd.prog 5 #[.int .i64 n, .int .i64 s, .string b] w fun e w' => e = .returned (.bool true) ∧ Below w.heap.size w w' := by
  have c0 := awake_any w hT m hm h4
  have C1 := Lib.hid (format_any n s w hT (by omega))
  have C2 := Lib.hid (rformat_any n s)
  have HT := Lib.hid hT
  have HM := Lib.hid hm
  obtain ⟨F, hF⟩ : ∃ F : ByteArray, (⟨(formE n s).toArray⟩ : ByteArray) = F := ⟨_, rfl⟩
  obtain ⟨er, her⟩ : ∃ er, checkSE n s = er := ⟨_, rfl⟩
  unfold RetStrE at C1 C2
  rw [hF, her] at C1 C2
  clear hT hm hF her
  go_enter Tryd.func5, Tryd.ntmps5
  by_cases hz : 200 < b.size
  · go_wp2_with fail
    all_goals first | (exfalso; omega) | skip
    refine c0.mono ?_
    rintro e w1 ⟨rfl, hb⟩
    have HB := Lib.hid hb
    clear hb
    go_wp2_with fail
    go_ret
    exact ⟨rfl, HB.out⟩
  clear c0
  go_wp2_with fail
  all_goals first | (exfalso; omega) | skip
  refine C1.out.mono ?_
  rintro e w1 ⟨rfl, hb1⟩
  have B1 := Lib.hid hb1
  clear hb1
  go_wp2_with fail
  refine (C2.out w1).mono ?_
  rintro e w2 ⟨rfl, hb2⟩
  have B2 := Lib.hid (B1.out.trans (hb2.mono B1.out.size))
  clear hb2
  have C3 := Lib.hid (parse_all n b (by omega) w2 m ((B2.out.cell (p := ⟨3, 0, none⟩) (by show 3 < w.heap.size; omega)).trans HM.out))
  have C4 := Lib.hid (rparse_all n b (by omega))
  obtain ⟨P, hP⟩ : ∃ P, parseE n b (numsE b) = P := ⟨_, rfl⟩
  rw [hP] at C3 C4
  clear hP
  obtain ⟨x, y⟩ := P
  go_wp2_with fail
  refine C3.out.mono ?_
  rintro e w3 ⟨rfl, hb3⟩
  have B3 := Lib.hid (B2.out.trans (hb3.mono B2.out.size))
  clear hb3
  go_wp2_with fail
  refine (C4.out w3).mono ?_
  rintro e w4 ⟨rfl, hb4⟩
  have B4 := Lib.hid (B3.out.trans (hb4.mono B3.out.size))
  clear hb4
  have c5 := awake_any w4 (HT.out.keep B4.out (by omega)) m ((B4.out.cell (p := ⟨3, 0, none⟩) (by show 3 < w.heap.size; omega)).trans HM.out) (by have := B4.out.size; omega)
  go_wp2_with fail
  refine c5.mono ?_
  rintro e w5 ⟨rfl, hb5⟩
  have B5 := Lib.hid (B4.out.trans (hb5.mono B4.out.size))
  clear hb5 c5
  go_wp2_with fail
  go_ret
  exact ⟨rfl, B5.out⟩
end Go.Proofs.YtppklecmlkicaaaDoor
