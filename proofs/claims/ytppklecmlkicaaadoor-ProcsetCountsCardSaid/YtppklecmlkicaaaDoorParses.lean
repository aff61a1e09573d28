/- Parse, twice: the same answer. -/
import Derived.Test.YtppklecmlkicaaaDoorProg
import Derived.Test.YtppklecmlkicaaaDoorRead
namespace Go.Proofs.YtppklecmlkicaaaDoor
open Go.RowKit

theorem rparse_all (n : Int) (b : ByteArray) (hbig : b.size ≤ 1000000000) (w : World) : Calls Tryd.prog 22 #[.int .i64 n, .string b] w (RetPair (parseE n b (numsE b)) w) :=
  rparse_any n b (numsE b) (fun h xs hx => nums_length (by omega) hx) w (fun h => numbers_any b (by omega) w) hbig
theorem parse_all (n : Int) (b : ByteArray) (hbig : b.size ≤ 1000000000) (w : World) (m : Int) (hm : w.cell? ⟨3, 0, none⟩ = some (.int .i64 m)) : Calls Tryd.prog 21 #[.int .i64 n, .string b] w (RetPair (parseE n b (numsE b)) w) := by
  rw [← digs_nums]
  exact parse_any n b (digsE b) (fun h xs hx => digs_length (by omega) hx) w (fun h => digits_small b (by omega) w m hm) hbig
end Go.Proofs.YtppklecmlkicaaaDoor
