/-
  WordBytes: any number in any size, and any bytes as a number, are the document's. Conditions: the numbers are of 64 bits with a sign, the text of at most 2^47 - 4096 bytes.
-/
import Derived.Test.YtpahpebchjajfaaM13
import Derived.Test.YtpahpebchjajfaaRef1
namespace Go.Proofs.Ytpahpebchjajfaa.Pure
open Go.RowKit Go.Proofs.Ytpahpebchjajfaa.M Go.Proofs.Ytpahpebchjajfaa.Num Go.Proofs.YtpahpebchjajfaaW.PrintWords Go.Proofs.YtpahpebchjajfaaW.PrintLast

theorem live_40b : cotterlaw01_live.f 40 = some true := by decide +kernel

theorem WordBytes : cotterlaw01_WordBytes.Pure := by
  intro n size s hn _ hs
  obtain ⟨n0, n1⟩ := wf_i64 hn
  refine ⟨40 + s.size, ?_⟩
  unfold cotterlaw01_WordBytes.f
  rw [Word1.bytes_f n size n0 n1 _ (by omega), Word1.rbytes_f n size n0 n1 _ (by omega), Word1.number_f s hs _ (by omega), Word1.rnumber_f s hs _ (by omega), at_rounds (fun k => cotterlaw01_live.mono k) (Nat.le_add_right 40 s.size) live_40b]
  simp only [Option.bind_some, if_true]

end Go.Proofs.Ytpahpebchjajfaa.Pure
