/- ProgNames: some of the first numbers, each second one: by the kernel. -/
import Derived.Test.YtkfcecaoaplfkaaDoorPn
set_option linter.unusedVariables false
set_option linter.unusedSimpArgs false
set_option maxRecDepth 100000
namespace Go.Proofs.YtkfcecaoaplfkaaDoor.T
open Go.AM
noncomputable section
theorem n_14_n (y : Nat) : Gn (Int.ofNat 14) (Int.negSucc y) = (AV.b true = AV.b true) := by kernel_rfl
theorem n_14_0 : Gn (Int.ofNat 14) (Int.ofNat 0) = (AV.b true = AV.b true) := by kernel_rfl
theorem n_14_1 : Gn (Int.ofNat 14) (Int.ofNat 1) = (AV.b true = AV.b true) := by kernel_rfl
theorem n_14_2 : Gn (Int.ofNat 14) (Int.ofNat 2) = (AV.b true = AV.b true) := by kernel_rfl
theorem n_14_3 : Gn (Int.ofNat 14) (Int.ofNat 3) = (AV.b true = AV.b true) := by kernel_rfl
theorem n_14_4 : Gn (Int.ofNat 14) (Int.ofNat 4) = (AV.b true = AV.b true) := by kernel_rfl
theorem n_14_5 : Gn (Int.ofNat 14) (Int.ofNat 5) = (AV.b true = AV.b true) := by kernel_rfl
theorem n_14_6 : Gn (Int.ofNat 14) (Int.ofNat 6) = (AV.b true = AV.b true) := by kernel_rfl
theorem n_14_7 : Gn (Int.ofNat 14) (Int.ofNat 7) = (AV.b true = AV.b true) := by kernel_rfl
theorem n_14_8 : Gn (Int.ofNat 14) (Int.ofNat 8) = (AV.b true = AV.b true) := by kernel_rfl
theorem n_14_9 : Gn (Int.ofNat 14) (Int.ofNat 9) = (AV.b true = AV.b true) := by kernel_rfl
theorem n_14_10 : Gn (Int.ofNat 14) (Int.ofNat 10) = (AV.b true = AV.b true) := by kernel_rfl
theorem n_14_11 : Gn (Int.ofNat 14) (Int.ofNat 11) = (AV.b true = AV.b true) := by kernel_rfl
theorem n_14_12 : Gn (Int.ofNat 14) (Int.ofNat 12) = (AV.b true = AV.b true) := by kernel_rfl
theorem n_14_13 : Gn (Int.ofNat 14) (Int.ofNat 13) = (AV.b true = AV.b true) := by kernel_rfl
theorem n_14_14 : Gn (Int.ofNat 14) (Int.ofNat 14) = (AV.b true = AV.b true) := by kernel_rfl
theorem n_14_15 : Gn (Int.ofNat 14) (Int.ofNat 15) = (AV.b true = AV.b true) := by kernel_rfl
theorem n_14_16 : Gn (Int.ofNat 14) (Int.ofNat 16) = (AV.b true = AV.b true) := by kernel_rfl
theorem n_14_17 : Gn (Int.ofNat 14) (Int.ofNat 17) = (AV.b true = AV.b true) := by kernel_rfl
theorem n_14_18 : Gn (Int.ofNat 14) (Int.ofNat 18) = (AV.b true = AV.b true) := by kernel_rfl
theorem n_14_19 : Gn (Int.ofNat 14) (Int.ofNat 19) = (AV.b true = AV.b true) := by kernel_rfl
theorem n_14_20 : Gn (Int.ofNat 14) (Int.ofNat 20) = (AV.b true = AV.b true) := by kernel_rfl
theorem n_14_21 : Gn (Int.ofNat 14) (Int.ofNat 21) = (AV.b true = AV.b true) := by kernel_rfl
theorem n_14_22 : Gn (Int.ofNat 14) (Int.ofNat 22) = (AV.b true = AV.b true) := by kernel_rfl
theorem n_14_23 : Gn (Int.ofNat 14) (Int.ofNat 23) = (AV.b true = AV.b true) := by kernel_rfl
theorem n_14_24 : Gn (Int.ofNat 14) (Int.ofNat 24) = (AV.b true = AV.b true) := by kernel_rfl
theorem n_14_25 : Gn (Int.ofNat 14) (Int.ofNat 25) = (AV.b true = AV.b true) := by kernel_rfl
theorem n_14_26 : Gn (Int.ofNat 14) (Int.ofNat 26) = (AV.b true = AV.b true) := by kernel_rfl
theorem n_14_27 : Gn (Int.ofNat 14) (Int.ofNat 27) = (AV.b true = AV.b true) := by kernel_rfl
theorem n_14_28 : Gn (Int.ofNat 14) (Int.ofNat 28) = (AV.b true = AV.b true) := by kernel_rfl
theorem n_14_29 : Gn (Int.ofNat 14) (Int.ofNat 29) = (AV.b true = AV.b true) := by kernel_rfl
theorem n_14_30 : Gn (Int.ofNat 14) (Int.ofNat 30) = (AV.b true = AV.b true) := by kernel_rfl
theorem n_14_31 : Gn (Int.ofNat 14) (Int.ofNat 31) = (AV.b true = AV.b true) := by kernel_rfl
theorem n_14_32 : Gn (Int.ofNat 14) (Int.ofNat 32) = (AV.b true = AV.b true) := by kernel_rfl
theorem n_14_g (y : Nat) : Gn (Int.ofNat 14) (Int.ofNat (y + 33)) = (AV.b true = AV.b true) := by kernel_rfl
theorem m_14 (b : Int) : Gn (Int.ofNat 14) b := by
  rcases b with n | y
  · by_cases h : n < 33
    · have h : n = 0 ∨ n = 1 ∨ n = 2 ∨ n = 3 ∨ n = 4 ∨ n = 5 ∨ n = 6 ∨ n = 7 ∨ n = 8 ∨ n = 9 ∨ n = 10 ∨ n = 11 ∨ n = 12 ∨ n = 13 ∨ n = 14 ∨ n = 15 ∨ n = 16 ∨ n = 17 ∨ n = 18 ∨ n = 19 ∨ n = 20 ∨ n = 21 ∨ n = 22 ∨ n = 23 ∨ n = 24 ∨ n = 25 ∨ n = 26 ∨ n = 27 ∨ n = 28 ∨ n = 29 ∨ n = 30 ∨ n = 31 ∨ n = 32 := by omega
      rcases h with rfl | rfl | rfl | rfl | rfl | rfl | rfl | rfl | rfl | rfl | rfl | rfl | rfl | rfl | rfl | rfl | rfl | rfl | rfl | rfl | rfl | rfl | rfl | rfl | rfl | rfl | rfl | rfl | rfl | rfl | rfl | rfl | rfl
      · exact of (n_14_0)
      · exact of (n_14_1)
      · exact of (n_14_2)
      · exact of (n_14_3)
      · exact of (n_14_4)
      · exact of (n_14_5)
      · exact of (n_14_6)
      · exact of (n_14_7)
      · exact of (n_14_8)
      · exact of (n_14_9)
      · exact of (n_14_10)
      · exact of (n_14_11)
      · exact of (n_14_12)
      · exact of (n_14_13)
      · exact of (n_14_14)
      · exact of (n_14_15)
      · exact of (n_14_16)
      · exact of (n_14_17)
      · exact of (n_14_18)
      · exact of (n_14_19)
      · exact of (n_14_20)
      · exact of (n_14_21)
      · exact of (n_14_22)
      · exact of (n_14_23)
      · exact of (n_14_24)
      · exact of (n_14_25)
      · exact of (n_14_26)
      · exact of (n_14_27)
      · exact of (n_14_28)
      · exact of (n_14_29)
      · exact of (n_14_30)
      · exact of (n_14_31)
      · exact of (n_14_32)
    · obtain ⟨y, rfl⟩ : ∃ y, n = y + 33 := ⟨n - 33, by omega⟩
      exact of (n_14_g y)
  · exact of (n_14_n y)
theorem n_15_n (y : Nat) : Gn (Int.ofNat 15) (Int.negSucc y) = (AV.b true = AV.b true) := by kernel_rfl
theorem n_15_0 : Gn (Int.ofNat 15) (Int.ofNat 0) = (AV.b true = AV.b true) := by kernel_rfl
theorem n_15_1 : Gn (Int.ofNat 15) (Int.ofNat 1) = (AV.b true = AV.b true) := by kernel_rfl
theorem n_15_2 : Gn (Int.ofNat 15) (Int.ofNat 2) = (AV.b true = AV.b true) := by kernel_rfl
theorem n_15_3 : Gn (Int.ofNat 15) (Int.ofNat 3) = (AV.b true = AV.b true) := by kernel_rfl
theorem n_15_4 : Gn (Int.ofNat 15) (Int.ofNat 4) = (AV.b true = AV.b true) := by kernel_rfl
theorem n_15_5 : Gn (Int.ofNat 15) (Int.ofNat 5) = (AV.b true = AV.b true) := by kernel_rfl
theorem n_15_6 : Gn (Int.ofNat 15) (Int.ofNat 6) = (AV.b true = AV.b true) := by kernel_rfl
theorem n_15_7 : Gn (Int.ofNat 15) (Int.ofNat 7) = (AV.b true = AV.b true) := by kernel_rfl
theorem n_15_8 : Gn (Int.ofNat 15) (Int.ofNat 8) = (AV.b true = AV.b true) := by kernel_rfl
theorem n_15_9 : Gn (Int.ofNat 15) (Int.ofNat 9) = (AV.b true = AV.b true) := by kernel_rfl
theorem n_15_10 : Gn (Int.ofNat 15) (Int.ofNat 10) = (AV.b true = AV.b true) := by kernel_rfl
theorem n_15_11 : Gn (Int.ofNat 15) (Int.ofNat 11) = (AV.b true = AV.b true) := by kernel_rfl
theorem n_15_12 : Gn (Int.ofNat 15) (Int.ofNat 12) = (AV.b true = AV.b true) := by kernel_rfl
theorem n_15_13 : Gn (Int.ofNat 15) (Int.ofNat 13) = (AV.b true = AV.b true) := by kernel_rfl
theorem n_15_14 : Gn (Int.ofNat 15) (Int.ofNat 14) = (AV.b true = AV.b true) := by kernel_rfl
theorem n_15_15 : Gn (Int.ofNat 15) (Int.ofNat 15) = (AV.b true = AV.b true) := by kernel_rfl
theorem n_15_16 : Gn (Int.ofNat 15) (Int.ofNat 16) = (AV.b true = AV.b true) := by kernel_rfl
theorem n_15_17 : Gn (Int.ofNat 15) (Int.ofNat 17) = (AV.b true = AV.b true) := by kernel_rfl
theorem n_15_18 : Gn (Int.ofNat 15) (Int.ofNat 18) = (AV.b true = AV.b true) := by kernel_rfl
theorem n_15_19 : Gn (Int.ofNat 15) (Int.ofNat 19) = (AV.b true = AV.b true) := by kernel_rfl
theorem n_15_20 : Gn (Int.ofNat 15) (Int.ofNat 20) = (AV.b true = AV.b true) := by kernel_rfl
theorem n_15_21 : Gn (Int.ofNat 15) (Int.ofNat 21) = (AV.b true = AV.b true) := by kernel_rfl
theorem n_15_22 : Gn (Int.ofNat 15) (Int.ofNat 22) = (AV.b true = AV.b true) := by kernel_rfl
theorem n_15_23 : Gn (Int.ofNat 15) (Int.ofNat 23) = (AV.b true = AV.b true) := by kernel_rfl
theorem n_15_24 : Gn (Int.ofNat 15) (Int.ofNat 24) = (AV.b true = AV.b true) := by kernel_rfl
theorem n_15_25 : Gn (Int.ofNat 15) (Int.ofNat 25) = (AV.b true = AV.b true) := by kernel_rfl
theorem n_15_26 : Gn (Int.ofNat 15) (Int.ofNat 26) = (AV.b true = AV.b true) := by kernel_rfl
theorem n_15_27 : Gn (Int.ofNat 15) (Int.ofNat 27) = (AV.b true = AV.b true) := by kernel_rfl
theorem n_15_28 : Gn (Int.ofNat 15) (Int.ofNat 28) = (AV.b true = AV.b true) := by kernel_rfl
theorem n_15_29 : Gn (Int.ofNat 15) (Int.ofNat 29) = (AV.b true = AV.b true) := by kernel_rfl
theorem n_15_30 : Gn (Int.ofNat 15) (Int.ofNat 30) = (AV.b true = AV.b true) := by kernel_rfl
theorem n_15_31 : Gn (Int.ofNat 15) (Int.ofNat 31) = (AV.b true = AV.b true) := by kernel_rfl
theorem n_15_32 : Gn (Int.ofNat 15) (Int.ofNat 32) = (AV.b true = AV.b true) := by kernel_rfl
theorem n_15_g (y : Nat) : Gn (Int.ofNat 15) (Int.ofNat (y + 33)) = (AV.b true = AV.b true) := by kernel_rfl
theorem m_15 (b : Int) : Gn (Int.ofNat 15) b := by
  rcases b with n | y
  · by_cases h : n < 33
    · have h : n = 0 ∨ n = 1 ∨ n = 2 ∨ n = 3 ∨ n = 4 ∨ n = 5 ∨ n = 6 ∨ n = 7 ∨ n = 8 ∨ n = 9 ∨ n = 10 ∨ n = 11 ∨ n = 12 ∨ n = 13 ∨ n = 14 ∨ n = 15 ∨ n = 16 ∨ n = 17 ∨ n = 18 ∨ n = 19 ∨ n = 20 ∨ n = 21 ∨ n = 22 ∨ n = 23 ∨ n = 24 ∨ n = 25 ∨ n = 26 ∨ n = 27 ∨ n = 28 ∨ n = 29 ∨ n = 30 ∨ n = 31 ∨ n = 32 := by omega
      rcases h with rfl | rfl | rfl | rfl | rfl | rfl | rfl | rfl | rfl | rfl | rfl | rfl | rfl | rfl | rfl | rfl | rfl | rfl | rfl | rfl | rfl | rfl | rfl | rfl | rfl | rfl | rfl | rfl | rfl | rfl | rfl | rfl | rfl
      · exact of (n_15_0)
      · exact of (n_15_1)
      · exact of (n_15_2)
      · exact of (n_15_3)
      · exact of (n_15_4)
      · exact of (n_15_5)
      · exact of (n_15_6)
      · exact of (n_15_7)
      · exact of (n_15_8)
      · exact of (n_15_9)
      · exact of (n_15_10)
      · exact of (n_15_11)
      · exact of (n_15_12)
      · exact of (n_15_13)
      · exact of (n_15_14)
      · exact of (n_15_15)
      · exact of (n_15_16)
      · exact of (n_15_17)
      · exact of (n_15_18)
      · exact of (n_15_19)
      · exact of (n_15_20)
      · exact of (n_15_21)
      · exact of (n_15_22)
      · exact of (n_15_23)
      · exact of (n_15_24)
      · exact of (n_15_25)
      · exact of (n_15_26)
      · exact of (n_15_27)
      · exact of (n_15_28)
      · exact of (n_15_29)
      · exact of (n_15_30)
      · exact of (n_15_31)
      · exact of (n_15_32)
    · obtain ⟨y, rfl⟩ : ∃ y, n = y + 33 := ⟨n - 33, by omega⟩
      exact of (n_15_g y)
  · exact of (n_15_n y)
theorem n_16_n (y : Nat) : Gn (Int.ofNat 16) (Int.negSucc y) = (AV.b true = AV.b true) := by kernel_rfl
theorem n_16_0 : Gn (Int.ofNat 16) (Int.ofNat 0) = (AV.b true = AV.b true) := by kernel_rfl
theorem n_16_1 : Gn (Int.ofNat 16) (Int.ofNat 1) = (AV.b true = AV.b true) := by kernel_rfl
theorem n_16_2 : Gn (Int.ofNat 16) (Int.ofNat 2) = (AV.b true = AV.b true) := by kernel_rfl
theorem n_16_3 : Gn (Int.ofNat 16) (Int.ofNat 3) = (AV.b true = AV.b true) := by kernel_rfl
theorem n_16_4 : Gn (Int.ofNat 16) (Int.ofNat 4) = (AV.b true = AV.b true) := by kernel_rfl
theorem n_16_5 : Gn (Int.ofNat 16) (Int.ofNat 5) = (AV.b true = AV.b true) := by kernel_rfl
theorem n_16_6 : Gn (Int.ofNat 16) (Int.ofNat 6) = (AV.b true = AV.b true) := by kernel_rfl
theorem n_16_7 : Gn (Int.ofNat 16) (Int.ofNat 7) = (AV.b true = AV.b true) := by kernel_rfl
theorem n_16_8 : Gn (Int.ofNat 16) (Int.ofNat 8) = (AV.b true = AV.b true) := by kernel_rfl
theorem n_16_9 : Gn (Int.ofNat 16) (Int.ofNat 9) = (AV.b true = AV.b true) := by kernel_rfl
theorem n_16_10 : Gn (Int.ofNat 16) (Int.ofNat 10) = (AV.b true = AV.b true) := by kernel_rfl
theorem n_16_11 : Gn (Int.ofNat 16) (Int.ofNat 11) = (AV.b true = AV.b true) := by kernel_rfl
theorem n_16_12 : Gn (Int.ofNat 16) (Int.ofNat 12) = (AV.b true = AV.b true) := by kernel_rfl
theorem n_16_13 : Gn (Int.ofNat 16) (Int.ofNat 13) = (AV.b true = AV.b true) := by kernel_rfl
theorem n_16_14 : Gn (Int.ofNat 16) (Int.ofNat 14) = (AV.b true = AV.b true) := by kernel_rfl
theorem n_16_15 : Gn (Int.ofNat 16) (Int.ofNat 15) = (AV.b true = AV.b true) := by kernel_rfl
theorem n_16_16 : Gn (Int.ofNat 16) (Int.ofNat 16) = (AV.b true = AV.b true) := by kernel_rfl
theorem n_16_17 : Gn (Int.ofNat 16) (Int.ofNat 17) = (AV.b true = AV.b true) := by kernel_rfl
theorem n_16_18 : Gn (Int.ofNat 16) (Int.ofNat 18) = (AV.b true = AV.b true) := by kernel_rfl
theorem n_16_19 : Gn (Int.ofNat 16) (Int.ofNat 19) = (AV.b true = AV.b true) := by kernel_rfl
theorem n_16_20 : Gn (Int.ofNat 16) (Int.ofNat 20) = (AV.b true = AV.b true) := by kernel_rfl
theorem n_16_21 : Gn (Int.ofNat 16) (Int.ofNat 21) = (AV.b true = AV.b true) := by kernel_rfl
theorem n_16_22 : Gn (Int.ofNat 16) (Int.ofNat 22) = (AV.b true = AV.b true) := by kernel_rfl
theorem n_16_23 : Gn (Int.ofNat 16) (Int.ofNat 23) = (AV.b true = AV.b true) := by kernel_rfl
theorem n_16_24 : Gn (Int.ofNat 16) (Int.ofNat 24) = (AV.b true = AV.b true) := by kernel_rfl
theorem n_16_25 : Gn (Int.ofNat 16) (Int.ofNat 25) = (AV.b true = AV.b true) := by kernel_rfl
theorem n_16_26 : Gn (Int.ofNat 16) (Int.ofNat 26) = (AV.b true = AV.b true) := by kernel_rfl
theorem n_16_27 : Gn (Int.ofNat 16) (Int.ofNat 27) = (AV.b true = AV.b true) := by kernel_rfl
theorem n_16_28 : Gn (Int.ofNat 16) (Int.ofNat 28) = (AV.b true = AV.b true) := by kernel_rfl
theorem n_16_29 : Gn (Int.ofNat 16) (Int.ofNat 29) = (AV.b true = AV.b true) := by kernel_rfl
theorem n_16_30 : Gn (Int.ofNat 16) (Int.ofNat 30) = (AV.b true = AV.b true) := by kernel_rfl
theorem n_16_31 : Gn (Int.ofNat 16) (Int.ofNat 31) = (AV.b true = AV.b true) := by kernel_rfl
theorem n_16_32 : Gn (Int.ofNat 16) (Int.ofNat 32) = (AV.b true = AV.b true) := by kernel_rfl
theorem n_16_g (y : Nat) : Gn (Int.ofNat 16) (Int.ofNat (y + 33)) = (AV.b true = AV.b true) := by kernel_rfl
theorem m_16 (b : Int) : Gn (Int.ofNat 16) b := by
  rcases b with n | y
  · by_cases h : n < 33
    · have h : n = 0 ∨ n = 1 ∨ n = 2 ∨ n = 3 ∨ n = 4 ∨ n = 5 ∨ n = 6 ∨ n = 7 ∨ n = 8 ∨ n = 9 ∨ n = 10 ∨ n = 11 ∨ n = 12 ∨ n = 13 ∨ n = 14 ∨ n = 15 ∨ n = 16 ∨ n = 17 ∨ n = 18 ∨ n = 19 ∨ n = 20 ∨ n = 21 ∨ n = 22 ∨ n = 23 ∨ n = 24 ∨ n = 25 ∨ n = 26 ∨ n = 27 ∨ n = 28 ∨ n = 29 ∨ n = 30 ∨ n = 31 ∨ n = 32 := by omega
      rcases h with rfl | rfl | rfl | rfl | rfl | rfl | rfl | rfl | rfl | rfl | rfl | rfl | rfl | rfl | rfl | rfl | rfl | rfl | rfl | rfl | rfl | rfl | rfl | rfl | rfl | rfl | rfl | rfl | rfl | rfl | rfl | rfl | rfl
      · exact of (n_16_0)
      · exact of (n_16_1)
      · exact of (n_16_2)
      · exact of (n_16_3)
      · exact of (n_16_4)
      · exact of (n_16_5)
      · exact of (n_16_6)
      · exact of (n_16_7)
      · exact of (n_16_8)
      · exact of (n_16_9)
      · exact of (n_16_10)
      · exact of (n_16_11)
      · exact of (n_16_12)
      · exact of (n_16_13)
      · exact of (n_16_14)
      · exact of (n_16_15)
      · exact of (n_16_16)
      · exact of (n_16_17)
      · exact of (n_16_18)
      · exact of (n_16_19)
      · exact of (n_16_20)
      · exact of (n_16_21)
      · exact of (n_16_22)
      · exact of (n_16_23)
      · exact of (n_16_24)
      · exact of (n_16_25)
      · exact of (n_16_26)
      · exact of (n_16_27)
      · exact of (n_16_28)
      · exact of (n_16_29)
      · exact of (n_16_30)
      · exact of (n_16_31)
      · exact of (n_16_32)
    · obtain ⟨y, rfl⟩ : ∃ y, n = y + 33 := ⟨n - 33, by omega⟩
      exact of (n_16_g y)
  · exact of (n_16_n y)
theorem n_17_n (y : Nat) : Gn (Int.ofNat 17) (Int.negSucc y) = (AV.b true = AV.b true) := by kernel_rfl
theorem n_17_0 : Gn (Int.ofNat 17) (Int.ofNat 0) = (AV.b true = AV.b true) := by kernel_rfl
theorem n_17_1 : Gn (Int.ofNat 17) (Int.ofNat 1) = (AV.b true = AV.b true) := by kernel_rfl
theorem n_17_2 : Gn (Int.ofNat 17) (Int.ofNat 2) = (AV.b true = AV.b true) := by kernel_rfl
theorem n_17_3 : Gn (Int.ofNat 17) (Int.ofNat 3) = (AV.b true = AV.b true) := by kernel_rfl
theorem n_17_4 : Gn (Int.ofNat 17) (Int.ofNat 4) = (AV.b true = AV.b true) := by kernel_rfl
theorem n_17_5 : Gn (Int.ofNat 17) (Int.ofNat 5) = (AV.b true = AV.b true) := by kernel_rfl
theorem n_17_6 : Gn (Int.ofNat 17) (Int.ofNat 6) = (AV.b true = AV.b true) := by kernel_rfl
theorem n_17_7 : Gn (Int.ofNat 17) (Int.ofNat 7) = (AV.b true = AV.b true) := by kernel_rfl
theorem n_17_8 : Gn (Int.ofNat 17) (Int.ofNat 8) = (AV.b true = AV.b true) := by kernel_rfl
theorem n_17_9 : Gn (Int.ofNat 17) (Int.ofNat 9) = (AV.b true = AV.b true) := by kernel_rfl
theorem n_17_10 : Gn (Int.ofNat 17) (Int.ofNat 10) = (AV.b true = AV.b true) := by kernel_rfl
theorem n_17_11 : Gn (Int.ofNat 17) (Int.ofNat 11) = (AV.b true = AV.b true) := by kernel_rfl
theorem n_17_12 : Gn (Int.ofNat 17) (Int.ofNat 12) = (AV.b true = AV.b true) := by kernel_rfl
theorem n_17_13 : Gn (Int.ofNat 17) (Int.ofNat 13) = (AV.b true = AV.b true) := by kernel_rfl
theorem n_17_14 : Gn (Int.ofNat 17) (Int.ofNat 14) = (AV.b true = AV.b true) := by kernel_rfl
theorem n_17_15 : Gn (Int.ofNat 17) (Int.ofNat 15) = (AV.b true = AV.b true) := by kernel_rfl
theorem n_17_16 : Gn (Int.ofNat 17) (Int.ofNat 16) = (AV.b true = AV.b true) := by kernel_rfl
theorem n_17_17 : Gn (Int.ofNat 17) (Int.ofNat 17) = (AV.b true = AV.b true) := by kernel_rfl
theorem n_17_18 : Gn (Int.ofNat 17) (Int.ofNat 18) = (AV.b true = AV.b true) := by kernel_rfl
theorem n_17_19 : Gn (Int.ofNat 17) (Int.ofNat 19) = (AV.b true = AV.b true) := by kernel_rfl
theorem n_17_20 : Gn (Int.ofNat 17) (Int.ofNat 20) = (AV.b true = AV.b true) := by kernel_rfl
theorem n_17_21 : Gn (Int.ofNat 17) (Int.ofNat 21) = (AV.b true = AV.b true) := by kernel_rfl
theorem n_17_22 : Gn (Int.ofNat 17) (Int.ofNat 22) = (AV.b true = AV.b true) := by kernel_rfl
theorem n_17_23 : Gn (Int.ofNat 17) (Int.ofNat 23) = (AV.b true = AV.b true) := by kernel_rfl
theorem n_17_24 : Gn (Int.ofNat 17) (Int.ofNat 24) = (AV.b true = AV.b true) := by kernel_rfl
theorem n_17_25 : Gn (Int.ofNat 17) (Int.ofNat 25) = (AV.b true = AV.b true) := by kernel_rfl
theorem n_17_26 : Gn (Int.ofNat 17) (Int.ofNat 26) = (AV.b true = AV.b true) := by kernel_rfl
theorem n_17_27 : Gn (Int.ofNat 17) (Int.ofNat 27) = (AV.b true = AV.b true) := by kernel_rfl
theorem n_17_28 : Gn (Int.ofNat 17) (Int.ofNat 28) = (AV.b true = AV.b true) := by kernel_rfl
theorem n_17_29 : Gn (Int.ofNat 17) (Int.ofNat 29) = (AV.b true = AV.b true) := by kernel_rfl
theorem n_17_30 : Gn (Int.ofNat 17) (Int.ofNat 30) = (AV.b true = AV.b true) := by kernel_rfl
theorem n_17_31 : Gn (Int.ofNat 17) (Int.ofNat 31) = (AV.b true = AV.b true) := by kernel_rfl
theorem n_17_32 : Gn (Int.ofNat 17) (Int.ofNat 32) = (AV.b true = AV.b true) := by kernel_rfl
theorem n_17_g (y : Nat) : Gn (Int.ofNat 17) (Int.ofNat (y + 33)) = (AV.b true = AV.b true) := by kernel_rfl
theorem m_17 (b : Int) : Gn (Int.ofNat 17) b := by
  rcases b with n | y
  · by_cases h : n < 33
    · have h : n = 0 ∨ n = 1 ∨ n = 2 ∨ n = 3 ∨ n = 4 ∨ n = 5 ∨ n = 6 ∨ n = 7 ∨ n = 8 ∨ n = 9 ∨ n = 10 ∨ n = 11 ∨ n = 12 ∨ n = 13 ∨ n = 14 ∨ n = 15 ∨ n = 16 ∨ n = 17 ∨ n = 18 ∨ n = 19 ∨ n = 20 ∨ n = 21 ∨ n = 22 ∨ n = 23 ∨ n = 24 ∨ n = 25 ∨ n = 26 ∨ n = 27 ∨ n = 28 ∨ n = 29 ∨ n = 30 ∨ n = 31 ∨ n = 32 := by omega
      rcases h with rfl | rfl | rfl | rfl | rfl | rfl | rfl | rfl | rfl | rfl | rfl | rfl | rfl | rfl | rfl | rfl | rfl | rfl | rfl | rfl | rfl | rfl | rfl | rfl | rfl | rfl | rfl | rfl | rfl | rfl | rfl | rfl | rfl
      · exact of (n_17_0)
      · exact of (n_17_1)
      · exact of (n_17_2)
      · exact of (n_17_3)
      · exact of (n_17_4)
      · exact of (n_17_5)
      · exact of (n_17_6)
      · exact of (n_17_7)
      · exact of (n_17_8)
      · exact of (n_17_9)
      · exact of (n_17_10)
      · exact of (n_17_11)
      · exact of (n_17_12)
      · exact of (n_17_13)
      · exact of (n_17_14)
      · exact of (n_17_15)
      · exact of (n_17_16)
      · exact of (n_17_17)
      · exact of (n_17_18)
      · exact of (n_17_19)
      · exact of (n_17_20)
      · exact of (n_17_21)
      · exact of (n_17_22)
      · exact of (n_17_23)
      · exact of (n_17_24)
      · exact of (n_17_25)
      · exact of (n_17_26)
      · exact of (n_17_27)
      · exact of (n_17_28)
      · exact of (n_17_29)
      · exact of (n_17_30)
      · exact of (n_17_31)
      · exact of (n_17_32)
    · obtain ⟨y, rfl⟩ : ∃ y, n = y + 33 := ⟨n - 33, by omega⟩
      exact of (n_17_g y)
  · exact of (n_17_n y)
theorem n_18_n (y : Nat) : Gn (Int.ofNat 18) (Int.negSucc y) = (AV.b true = AV.b true) := by kernel_rfl
theorem n_18_0 : Gn (Int.ofNat 18) (Int.ofNat 0) = (AV.b true = AV.b true) := by kernel_rfl
theorem n_18_1 : Gn (Int.ofNat 18) (Int.ofNat 1) = (AV.b true = AV.b true) := by kernel_rfl
theorem n_18_2 : Gn (Int.ofNat 18) (Int.ofNat 2) = (AV.b true = AV.b true) := by kernel_rfl
theorem n_18_3 : Gn (Int.ofNat 18) (Int.ofNat 3) = (AV.b true = AV.b true) := by kernel_rfl
theorem n_18_4 : Gn (Int.ofNat 18) (Int.ofNat 4) = (AV.b true = AV.b true) := by kernel_rfl
theorem n_18_5 : Gn (Int.ofNat 18) (Int.ofNat 5) = (AV.b true = AV.b true) := by kernel_rfl
theorem n_18_6 : Gn (Int.ofNat 18) (Int.ofNat 6) = (AV.b true = AV.b true) := by kernel_rfl
theorem n_18_7 : Gn (Int.ofNat 18) (Int.ofNat 7) = (AV.b true = AV.b true) := by kernel_rfl
theorem n_18_8 : Gn (Int.ofNat 18) (Int.ofNat 8) = (AV.b true = AV.b true) := by kernel_rfl
theorem n_18_9 : Gn (Int.ofNat 18) (Int.ofNat 9) = (AV.b true = AV.b true) := by kernel_rfl
theorem n_18_10 : Gn (Int.ofNat 18) (Int.ofNat 10) = (AV.b true = AV.b true) := by kernel_rfl
theorem n_18_11 : Gn (Int.ofNat 18) (Int.ofNat 11) = (AV.b true = AV.b true) := by kernel_rfl
theorem n_18_12 : Gn (Int.ofNat 18) (Int.ofNat 12) = (AV.b true = AV.b true) := by kernel_rfl
theorem n_18_13 : Gn (Int.ofNat 18) (Int.ofNat 13) = (AV.b true = AV.b true) := by kernel_rfl
theorem n_18_14 : Gn (Int.ofNat 18) (Int.ofNat 14) = (AV.b true = AV.b true) := by kernel_rfl
theorem n_18_15 : Gn (Int.ofNat 18) (Int.ofNat 15) = (AV.b true = AV.b true) := by kernel_rfl
theorem n_18_16 : Gn (Int.ofNat 18) (Int.ofNat 16) = (AV.b true = AV.b true) := by kernel_rfl
theorem n_18_17 : Gn (Int.ofNat 18) (Int.ofNat 17) = (AV.b true = AV.b true) := by kernel_rfl
theorem n_18_18 : Gn (Int.ofNat 18) (Int.ofNat 18) = (AV.b true = AV.b true) := by kernel_rfl
theorem n_18_19 : Gn (Int.ofNat 18) (Int.ofNat 19) = (AV.b true = AV.b true) := by kernel_rfl
theorem n_18_20 : Gn (Int.ofNat 18) (Int.ofNat 20) = (AV.b true = AV.b true) := by kernel_rfl
theorem n_18_21 : Gn (Int.ofNat 18) (Int.ofNat 21) = (AV.b true = AV.b true) := by kernel_rfl
theorem n_18_22 : Gn (Int.ofNat 18) (Int.ofNat 22) = (AV.b true = AV.b true) := by kernel_rfl
theorem n_18_23 : Gn (Int.ofNat 18) (Int.ofNat 23) = (AV.b true = AV.b true) := by kernel_rfl
theorem n_18_24 : Gn (Int.ofNat 18) (Int.ofNat 24) = (AV.b true = AV.b true) := by kernel_rfl
theorem n_18_25 : Gn (Int.ofNat 18) (Int.ofNat 25) = (AV.b true = AV.b true) := by kernel_rfl
theorem n_18_26 : Gn (Int.ofNat 18) (Int.ofNat 26) = (AV.b true = AV.b true) := by kernel_rfl
theorem n_18_27 : Gn (Int.ofNat 18) (Int.ofNat 27) = (AV.b true = AV.b true) := by kernel_rfl
theorem n_18_28 : Gn (Int.ofNat 18) (Int.ofNat 28) = (AV.b true = AV.b true) := by kernel_rfl
theorem n_18_29 : Gn (Int.ofNat 18) (Int.ofNat 29) = (AV.b true = AV.b true) := by kernel_rfl
theorem n_18_30 : Gn (Int.ofNat 18) (Int.ofNat 30) = (AV.b true = AV.b true) := by kernel_rfl
theorem n_18_31 : Gn (Int.ofNat 18) (Int.ofNat 31) = (AV.b true = AV.b true) := by kernel_rfl
theorem n_18_32 : Gn (Int.ofNat 18) (Int.ofNat 32) = (AV.b true = AV.b true) := by kernel_rfl
theorem n_18_g (y : Nat) : Gn (Int.ofNat 18) (Int.ofNat (y + 33)) = (AV.b true = AV.b true) := by kernel_rfl
theorem m_18 (b : Int) : Gn (Int.ofNat 18) b := by
  rcases b with n | y
  · by_cases h : n < 33
    · have h : n = 0 ∨ n = 1 ∨ n = 2 ∨ n = 3 ∨ n = 4 ∨ n = 5 ∨ n = 6 ∨ n = 7 ∨ n = 8 ∨ n = 9 ∨ n = 10 ∨ n = 11 ∨ n = 12 ∨ n = 13 ∨ n = 14 ∨ n = 15 ∨ n = 16 ∨ n = 17 ∨ n = 18 ∨ n = 19 ∨ n = 20 ∨ n = 21 ∨ n = 22 ∨ n = 23 ∨ n = 24 ∨ n = 25 ∨ n = 26 ∨ n = 27 ∨ n = 28 ∨ n = 29 ∨ n = 30 ∨ n = 31 ∨ n = 32 := by omega
      rcases h with rfl | rfl | rfl | rfl | rfl | rfl | rfl | rfl | rfl | rfl | rfl | rfl | rfl | rfl | rfl | rfl | rfl | rfl | rfl | rfl | rfl | rfl | rfl | rfl | rfl | rfl | rfl | rfl | rfl | rfl | rfl | rfl | rfl
      · exact of (n_18_0)
      · exact of (n_18_1)
      · exact of (n_18_2)
      · exact of (n_18_3)
      · exact of (n_18_4)
      · exact of (n_18_5)
      · exact of (n_18_6)
      · exact of (n_18_7)
      · exact of (n_18_8)
      · exact of (n_18_9)
      · exact of (n_18_10)
      · exact of (n_18_11)
      · exact of (n_18_12)
      · exact of (n_18_13)
      · exact of (n_18_14)
      · exact of (n_18_15)
      · exact of (n_18_16)
      · exact of (n_18_17)
      · exact of (n_18_18)
      · exact of (n_18_19)
      · exact of (n_18_20)
      · exact of (n_18_21)
      · exact of (n_18_22)
      · exact of (n_18_23)
      · exact of (n_18_24)
      · exact of (n_18_25)
      · exact of (n_18_26)
      · exact of (n_18_27)
      · exact of (n_18_28)
      · exact of (n_18_29)
      · exact of (n_18_30)
      · exact of (n_18_31)
      · exact of (n_18_32)
    · obtain ⟨y, rfl⟩ : ∃ y, n = y + 33 := ⟨n - 33, by omega⟩
      exact of (n_18_g y)
  · exact of (n_18_n y)
end
end Go.Proofs.YtkfcecaoaplfkaaDoor.T
