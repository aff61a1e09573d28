/- awake's texts: what Parse says to the four. -/
import Derived.Test.YtppklecmlkicaaaDoorProg
import Derived.Test.YtppklecmlkicaaaDoorParses
namespace Go.Proofs.YtppklecmlkicaaaDoor
open Go.RowKit

theorem wake_parse : parseE 4 ⟨#[123, 48, 44, 52, 125]⟩ (numsE ⟨#[123, 48, 44, 52, 125]⟩) = (0, 2) ∧ parseE 4 ⟨#[123, 50, 44, 48, 125]⟩ (numsE ⟨#[123, 50, 44, 48, 125]⟩) = (0, 14) ∧
    parseE 4 ⟨#[123, 48, 44, 48, 125]⟩ (numsE ⟨#[123, 48, 44, 48, 125]⟩) = (0, 7) ∧ parseE 4 ⟨#[123, 48, 44, 32, 50, 125]⟩ (numsE ⟨#[123, 48, 44, 32, 50, 125]⟩) = (0, 4) := by decide +kernel
theorem wake_plain : memL 4 13 = [0, 2, 3] ∧ checkSE 4 13 = 0 ∧ sizeE 4 13 = 3 ∧ formE 4 13 = [123, 48, 44, 50, 44, 51, 125] ∧ ofE 4 [3, 0, 2] = (13, 0) ∧ subL 4 5 = [0, 1, 4, 5] ∧ checkSE 4 5 = 0 ∧ chooL 4 5 1 = [1, 4] ∧ chooseE 4 5 1 = 0 := by decide +kernel
end Go.Proofs.YtppklecmlkicaaaDoor
