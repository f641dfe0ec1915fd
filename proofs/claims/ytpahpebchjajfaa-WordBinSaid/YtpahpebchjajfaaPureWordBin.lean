/-
  WordBin: what any instruction makes of any two numbers is the document's answer. Condition: the instruction's number and both numbers are of 64 bits with a sign.
-/
import Derived.Test.YtpahpebchjajfaaM6
import Derived.Test.YtpahpebchjajfaaBin
namespace Go.Proofs.Ytpahpebchjajfaa.Pure
open Go.RowKit Go.Proofs.Ytpahpebchjajfaa.M Go.Proofs.Ytpahpebchjajfaa.Num Go.Proofs.YtpahpebchjajfaaW.PrintWords Go.Proofs.YtpahpebchjajfaaW.PrintLast

theorem live_20 : cotterlaw01_live.f 20 = some true := by decide +kernel

theorem WordBin : cotterlaw01_WordBin.Pure := by
  intro op a b _ ha hb
  obtain ⟨a0, a1⟩ := wf_i64 ha
  obtain ⟨b0, b1⟩ := wf_i64 hb
  obtain ⟨r, h1, h2⟩ := Bin.bin_same 17 op a b a0 a1 b0 b1
  refine ⟨20, ?_⟩
  unfold cotterlaw01_WordBin.f
  simp only [h1, h2, Option.bind_some, if_true, live_20]

end Go.Proofs.Ytpahpebchjajfaa.Pure
