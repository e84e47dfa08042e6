/-
  DERIVED. GIVEN WITH THE SEED: THE PROGRAM's TIES (one call each: nine closed facts by the kernel) AND EACH ROW's TIE, after the 31st guide's Derived/Test/Toyas{Tie, Card}.lean. No idea stands in it: it is a product of the set-up. Laid BY PROGRAM, IN A SANDBOX (cutbox-door.mjs). By AI agents, Wed Nov 11 2026. No macro, syntax, notation, axiom, sorry.
-/
import Derived.Test.YtehifkdfbiebfaaDoorRows
import Derived.LaidByTextLater
import Derived.SevenTiedAt
import Derived.LaidSub
import Derived.LaidOnce
namespace Go.Proofs.YtehifkdfbiebfaaDoor
open Go
set_option maxRecDepth 100000
theorem seatTie1 : Tryd.prog.laidByTextLater [("schisma/pitch.primes", Rows.laid_schisma_pitch_primes), ("schisma/size.logs", Rows.laid_schisma_size_logs), ("schisma/brass.primes", Rows.laid_schisma_brass_primes)] [.data, .data, .data] true :=
  Program.laidByTextLater_by_one 30 8 13 (by kernel_rfl) (by kernel_rfl) (by kernel_rfl) (by kernel_rfl) (by kernel_rfl) (by kernel_rfl) (fun _ _ => by kernel_rfl)
theorem noOwnUnsafe : Tryd.pinned.checked.prog.headLifts.contains "ownunsafe" = false := by kernel_rfl
theorem tie : Tryd.prog.laidByTextLater [("schisma/pitch.primes", Rows.laid_schisma_pitch_primes), ("schisma/size.logs", Rows.laid_schisma_size_logs)] [.data, .data] true :=
  Program.laidByTextLater.sub seatTie1 ["schisma/pitch.primes", "schisma/size.logs"] (by kernel_rfl) (by kernel_rfl)
theorem topCircle_row_tie : Rows.topCircleRow.laidByTextAt .later Tryd.pinned [.data, .data] true :=
  OpenClaim.laidByTextAt_later rfl rfl tie noOwnUnsafe
theorem tie2 : Tryd.prog.laidByTextLater [("schisma/size.logs", Rows.laid_schisma_size_logs)] [.data] true :=
  Program.laidByTextLater.sub seatTie1 ["schisma/size.logs"] (by kernel_rfl) (by kernel_rfl)
theorem topTuned_row_tie : Rows.topTunedRow.laidByTextAt .later Tryd.pinned [.data] true :=
  OpenClaim.laidByTextAt_later rfl rfl tie2 noOwnUnsafe
theorem tie3 : Tryd.prog.laidByTextLater [("schisma/pitch.primes", Rows.laid_schisma_pitch_primes), ("schisma/size.logs", Rows.laid_schisma_size_logs), ("schisma/brass.primes", Rows.laid_schisma_brass_primes)] [.data, .data, .data] true :=
  Program.laidByTextLater.sub seatTie1 ["schisma/pitch.primes", "schisma/size.logs", "schisma/brass.primes"] (by kernel_rfl) (by kernel_rfl)
theorem topBlown_row_tie : Rows.topBlownRow.laidByTextAt .later Tryd.pinned [.data, .data, .data] true :=
  OpenClaim.laidByTextAt_later rfl rfl tie3 noOwnUnsafe
theorem tie4 : Tryd.prog.laidByTextLater [("schisma/pitch.primes", Rows.laid_schisma_pitch_primes)] [.data] true :=
  Program.laidByTextLater.sub seatTie1 ["schisma/pitch.primes"] (by kernel_rfl) (by kernel_rfl)
theorem topEqual_row_tie : Rows.topEqualRow.laidByTextAt .later Tryd.pinned [.data] true :=
  OpenClaim.laidByTextAt_later rfl rfl tie4 noOwnUnsafe
theorem topCircleUpto_row_tie : Rows.topCircleUptoRow.laidByTextAt .later Tryd.pinned [.data, .data] true :=
  OpenClaim.laidByTextAt_later rfl rfl tie noOwnUnsafe
theorem topTunedUpto_row_tie : Rows.topTunedUptoRow.laidByTextAt .later Tryd.pinned [.data] true :=
  OpenClaim.laidByTextAt_later rfl rfl tie2 noOwnUnsafe
theorem topBlownUpto_row_tie : Rows.topBlownUptoRow.laidByTextAt .later Tryd.pinned [.data, .data, .data] true :=
  OpenClaim.laidByTextAt_later rfl rfl tie3 noOwnUnsafe
theorem topEqualUpto_row_tie : Rows.topEqualUptoRow.laidByTextAt .later Tryd.pinned [.data] true :=
  OpenClaim.laidByTextAt_later rfl rfl tie4 noOwnUnsafe
end Go.Proofs.YtehifkdfbiebfaaDoor
