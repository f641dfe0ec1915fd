/-
  WordBack: what is written is read as it was. Conditions: the first number is of 64 bits with a sign, the second one without.
-/
import Derived.Test.YtpahpebchjajfaaM14
import Derived.Test.YtpahpebchjajfaaPut1
import Derived.Test.YtpahpebchjajfaaByt1
namespace Go.Proofs.Ytpahpebchjajfaa.Pure
open Go.RowKit Go.Proofs.Ytpahpebchjajfaa.M Go.Proofs.Ytpahpebchjajfaa.Num Go.Proofs.Ytpahpebchjajfaa.Seven Go.Proofs.YtpahpebchjajfaaW.PrintWords Go.Proofs.YtpahpebchjajfaaW.PrintLast

theorem live_40w : cotterlaw01_live.f 40 = some true := by decide +kernel

theorem take_put (u : Nat) (hu : u < 18446744073709551616) : Word1.takeR (strOfNums (putL u)) 0 = ((u : Int), ((putL u).length : Int), 0) := by
  unfold Word1.takeR
  rw [if_neg (by omega), bytesOf_str (putL_bs u)]
  have h := takeL_putL u u 0 [] (Nat.le_refl _) (by simpa using hu) (.inl rfl)
  rw [List.append_nil] at h
  have e : (0 : Int).toNat = 0 := rfl
  rw [e, List.drop_zero, h]
  simp

theorem WordBack : cotterlaw01_WordBack.Pure := by
  intro n u hn hu
  obtain ⟨n0, n1⟩ := wf_i64 hn
  obtain ⟨u0, u1⟩ := wf_u64 hu
  obtain ⟨v, rfl⟩ := Int.eq_ofNat_of_zero_le u0
  have h10 := putL_ten (u := v) (by omega)
  refine ⟨40, ?_⟩
  have hF : Word1.Fits n 8 := .inr (.inr rfl)
  have hb : Word1.bytesR n 8 = (strOfNums (leL n 8), 0) := by
    unfold Word1.bytesR
    rw [if_pos (by omega), if_pos hF]
    rfl
  have hnum := Word1.num_bytes n 8 n0 n1 hF
  rw [hb] at hnum
  unfold cotterlaw01_WordBack.f
  rw [Word1.bytes_f n 8 n0 n1 _ (by omega), hb]
  simp only [Option.bind_some]
  rw [Word1.number_f _ (by rw [strOfNums_size, leL_len]; omega) _ (by rw [strOfNums_size, leL_len]; omega), hnum, Word1.Put_f (by omega) (by omega)]
  simp only [Option.bind_some]
  rw [Word1.take_f _ _ (by rw [strOfNums_size]; omega) _ (by omega), take_put v (by omega)]
  simp only [Option.bind_some, if_true, strOfNums_size, live_40w]

end Go.Proofs.Ytpahpebchjajfaa.Pure
