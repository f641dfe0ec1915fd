/-
  WordTakes: any number in its form, and any bytes from any place as one, are the document's. Conditions: the number is of 64 bits without a sign, the place of 64 bits, the text of at most 2^47 - 4096 bytes.
-/
import Derived.Test.YtpahpebchjajfaaM12
import Derived.Test.YtpahpebchjajfaaRef1
namespace Go.Proofs.Ytpahpebchjajfaa.Pure
open Go.RowKit Go.Proofs.Ytpahpebchjajfaa.M Go.Proofs.Ytpahpebchjajfaa.Num Go.Proofs.YtpahpebchjajfaaW.PrintWords Go.Proofs.YtpahpebchjajfaaW.PrintLast

theorem live_40 : cotterlaw01_live.f 40 = some true := by decide +kernel

theorem WordTakes : cotterlaw01_WordTakes.Pure := by
  intro u s at_ hu hs _
  obtain ⟨u0, u1⟩ := wf_u64 hu
  obtain ⟨v, rfl⟩ := Int.eq_ofNat_of_zero_le u0
  refine ⟨40, ?_⟩
  unfold cotterlaw01_WordTakes.f
  rw [Word1.take_f s at_ hs 40 (by omega), Word1.rtake_f s at_ hs 40 (by omega), Word1.Put_f (by omega) (by omega), Word1.rput_f (by omega) (by omega)]
  simp only [Option.bind_some, if_true, live_40]

end Go.Proofs.Ytpahpebchjajfaa.Pure
