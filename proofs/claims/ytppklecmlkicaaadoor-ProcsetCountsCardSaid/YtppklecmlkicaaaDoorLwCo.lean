/- The law Collects: its walk. -/
import Derived.Test.YtppklecmlkicaaaDoorProg
import Derived.Test.YtppklecmlkicaaaDoorWake
import Derived.Deep.QuietTactic
import Derived.BigQuiet
import Derived.StillTactics
namespace Go.Proofs.YtppklecmlkicaaaDoor
open Go.RowKit

set_option maxRecDepth 100000 in
set_option maxHeartbeats 2000000 in
theorem collects_any (n : Int) (A : Option Addr) (cap : Nat) (xs : List Int) (hl : xs.length ≤ 17592186044416) (w : World) (hA : IAt w w.heap.size A xs) (hT : Tab w) (m : Int) (hm : w.cell? ⟨3, 0, none⟩ = some (.int .i64 m)) (h4 : 4 ≤ w.heap.size) :
    Calls Tryd.prog 3 #[.int .i64 n, .slice A xs.length cap] w fun e w' => e = .returned (.bool true) ∧ Below w.heap.size w w' := by
  have c1 := few_any A xs.length cap hl w
  have c2 := awake_any w hT m hm h4
  have c3 := Lib.hid (fun h : xs.length ≤ 60 => of_any n A cap xs (by omega) w hA)
  have HA := Lib.hid hA
  have HT := Lib.hid hT
  have HM := Lib.hid hm
  clear hA hT hm
  go_enter Tryd.func3, Tryd.ntmps3
  go_wp2_with fail
  refine c1.mono ?_
  rintro e w1 ⟨rfl, rfl⟩
  clear c1
  by_cases hf : xs.length ≤ 60
  case neg =>
    rw [decide_eq_false hf]
    go_wp2_with fail
    refine c2.mono ?_
    rintro e w1 ⟨rfl, hb⟩
    have HB := Lib.hid hb
    clear hb
    go_wp2_with fail
    go_ret
    exact ⟨rfl, HB.out⟩
  rw [decide_eq_true hf]
  go_wp2_with fail
  refine (c3.out hf).mono ?_
  rintro e w1 ⟨rfl, hb1⟩
  have HB1 := Lib.hid hb1
  have hs1 := hb1.size
  have c4 := rof_any n A cap xs (by omega) w1 ((HA.out.keep hb1).more hs1)
  clear hb1 c2 c3
  go_wp2_with fail
  refine c4.mono ?_
  rintro e w2 ⟨rfl, hb2⟩
  have HB2 := Lib.hid (HB1.out.trans (hb2.mono HB1.out.size))
  have c5 := awake_any w2 (HT.out.keep HB2.out (by omega)) m ((HB2.out.cell (p := ⟨3, 0, none⟩) (by show 3 < w.heap.size; omega)).trans HM.out) (by have := HB2.out.size; omega)
  clear hb2 c4
  go_wp2_with fail
  refine c5.mono ?_
  rintro e w3 ⟨rfl, hb3⟩
  have HB3 := Lib.hid (HB2.out.trans (hb3.mono HB2.out.size))
  clear hb3 c5
  go_wp2_with fail
  go_ret
  exact ⟨rfl, HB3.out⟩
end Go.Proofs.YtppklecmlkicaaaDoor
