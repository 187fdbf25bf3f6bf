/- ProgNames: some of the first numbers, each second one: by the kernel. -/
import Derived.Test.YtkfcecaoaplfkaaDoorPn
set_option linter.unusedVariables false
set_option linter.unusedSimpArgs false
set_option maxRecDepth 100000
namespace Go.Proofs.YtkfcecaoaplfkaaDoor.T
open Go.AM
noncomputable section
theorem n_29_n (y : Nat) : Gn (Int.ofNat 29) (Int.negSucc y) = (AV.b true = AV.b true) := by kernel_rfl
theorem n_29_0 : Gn (Int.ofNat 29) (Int.ofNat 0) = (AV.b true = AV.b true) := by kernel_rfl
theorem n_29_1 : Gn (Int.ofNat 29) (Int.ofNat 1) = (AV.b true = AV.b true) := by kernel_rfl
theorem n_29_2 : Gn (Int.ofNat 29) (Int.ofNat 2) = (AV.b true = AV.b true) := by kernel_rfl
theorem n_29_3 : Gn (Int.ofNat 29) (Int.ofNat 3) = (AV.b true = AV.b true) := by kernel_rfl
theorem n_29_4 : Gn (Int.ofNat 29) (Int.ofNat 4) = (AV.b true = AV.b true) := by kernel_rfl
theorem n_29_5 : Gn (Int.ofNat 29) (Int.ofNat 5) = (AV.b true = AV.b true) := by kernel_rfl
theorem n_29_6 : Gn (Int.ofNat 29) (Int.ofNat 6) = (AV.b true = AV.b true) := by kernel_rfl
theorem n_29_7 : Gn (Int.ofNat 29) (Int.ofNat 7) = (AV.b true = AV.b true) := by kernel_rfl
theorem n_29_8 : Gn (Int.ofNat 29) (Int.ofNat 8) = (AV.b true = AV.b true) := by kernel_rfl
theorem n_29_9 : Gn (Int.ofNat 29) (Int.ofNat 9) = (AV.b true = AV.b true) := by kernel_rfl
theorem n_29_10 : Gn (Int.ofNat 29) (Int.ofNat 10) = (AV.b true = AV.b true) := by kernel_rfl
theorem n_29_11 : Gn (Int.ofNat 29) (Int.ofNat 11) = (AV.b true = AV.b true) := by kernel_rfl
theorem n_29_12 : Gn (Int.ofNat 29) (Int.ofNat 12) = (AV.b true = AV.b true) := by kernel_rfl
theorem n_29_13 : Gn (Int.ofNat 29) (Int.ofNat 13) = (AV.b true = AV.b true) := by kernel_rfl
theorem n_29_14 : Gn (Int.ofNat 29) (Int.ofNat 14) = (AV.b true = AV.b true) := by kernel_rfl
theorem n_29_15 : Gn (Int.ofNat 29) (Int.ofNat 15) = (AV.b true = AV.b true) := by kernel_rfl
theorem n_29_16 : Gn (Int.ofNat 29) (Int.ofNat 16) = (AV.b true = AV.b true) := by kernel_rfl
theorem n_29_17 : Gn (Int.ofNat 29) (Int.ofNat 17) = (AV.b true = AV.b true) := by kernel_rfl
theorem n_29_18 : Gn (Int.ofNat 29) (Int.ofNat 18) = (AV.b true = AV.b true) := by kernel_rfl
theorem n_29_19 : Gn (Int.ofNat 29) (Int.ofNat 19) = (AV.b true = AV.b true) := by kernel_rfl
theorem n_29_20 : Gn (Int.ofNat 29) (Int.ofNat 20) = (AV.b true = AV.b true) := by kernel_rfl
theorem n_29_21 : Gn (Int.ofNat 29) (Int.ofNat 21) = (AV.b true = AV.b true) := by kernel_rfl
theorem n_29_22 : Gn (Int.ofNat 29) (Int.ofNat 22) = (AV.b true = AV.b true) := by kernel_rfl
theorem n_29_23 : Gn (Int.ofNat 29) (Int.ofNat 23) = (AV.b true = AV.b true) := by kernel_rfl
theorem n_29_24 : Gn (Int.ofNat 29) (Int.ofNat 24) = (AV.b true = AV.b true) := by kernel_rfl
theorem n_29_25 : Gn (Int.ofNat 29) (Int.ofNat 25) = (AV.b true = AV.b true) := by kernel_rfl
theorem n_29_26 : Gn (Int.ofNat 29) (Int.ofNat 26) = (AV.b true = AV.b true) := by kernel_rfl
theorem n_29_27 : Gn (Int.ofNat 29) (Int.ofNat 27) = (AV.b true = AV.b true) := by kernel_rfl
theorem n_29_28 : Gn (Int.ofNat 29) (Int.ofNat 28) = (AV.b true = AV.b true) := by kernel_rfl
theorem n_29_29 : Gn (Int.ofNat 29) (Int.ofNat 29) = (AV.b true = AV.b true) := by kernel_rfl
theorem n_29_30 : Gn (Int.ofNat 29) (Int.ofNat 30) = (AV.b true = AV.b true) := by kernel_rfl
theorem n_29_31 : Gn (Int.ofNat 29) (Int.ofNat 31) = (AV.b true = AV.b true) := by kernel_rfl
theorem n_29_32 : Gn (Int.ofNat 29) (Int.ofNat 32) = (AV.b true = AV.b true) := by kernel_rfl
theorem n_29_g (y : Nat) : Gn (Int.ofNat 29) (Int.ofNat (y + 33)) = (AV.b true = AV.b true) := by kernel_rfl
theorem m_29 (b : Int) : Gn (Int.ofNat 29) b := by
  rcases b with n | y
  · by_cases h : n < 33
    · have h : n = 0 ∨ n = 1 ∨ n = 2 ∨ n = 3 ∨ n = 4 ∨ n = 5 ∨ n = 6 ∨ n = 7 ∨ n = 8 ∨ n = 9 ∨ n = 10 ∨ n = 11 ∨ n = 12 ∨ n = 13 ∨ n = 14 ∨ n = 15 ∨ n = 16 ∨ n = 17 ∨ n = 18 ∨ n = 19 ∨ n = 20 ∨ n = 21 ∨ n = 22 ∨ n = 23 ∨ n = 24 ∨ n = 25 ∨ n = 26 ∨ n = 27 ∨ n = 28 ∨ n = 29 ∨ n = 30 ∨ n = 31 ∨ n = 32 := by omega
      rcases h with rfl | rfl | rfl | rfl | rfl | rfl | rfl | rfl | rfl | rfl | rfl | rfl | rfl | rfl | rfl | rfl | rfl | rfl | rfl | rfl | rfl | rfl | rfl | rfl | rfl | rfl | rfl | rfl | rfl | rfl | rfl | rfl | rfl
      · exact of (n_29_0)
      · exact of (n_29_1)
      · exact of (n_29_2)
      · exact of (n_29_3)
      · exact of (n_29_4)
      · exact of (n_29_5)
      · exact of (n_29_6)
      · exact of (n_29_7)
      · exact of (n_29_8)
      · exact of (n_29_9)
      · exact of (n_29_10)
      · exact of (n_29_11)
      · exact of (n_29_12)
      · exact of (n_29_13)
      · exact of (n_29_14)
      · exact of (n_29_15)
      · exact of (n_29_16)
      · exact of (n_29_17)
      · exact of (n_29_18)
      · exact of (n_29_19)
      · exact of (n_29_20)
      · exact of (n_29_21)
      · exact of (n_29_22)
      · exact of (n_29_23)
      · exact of (n_29_24)
      · exact of (n_29_25)
      · exact of (n_29_26)
      · exact of (n_29_27)
      · exact of (n_29_28)
      · exact of (n_29_29)
      · exact of (n_29_30)
      · exact of (n_29_31)
      · exact of (n_29_32)
    · obtain ⟨y, rfl⟩ : ∃ y, n = y + 33 := ⟨n - 33, by omega⟩
      exact of (n_29_g y)
  · exact of (n_29_n y)
theorem n_30_n (y : Nat) : Gn (Int.ofNat 30) (Int.negSucc y) = (AV.b true = AV.b true) := by kernel_rfl
theorem n_30_0 : Gn (Int.ofNat 30) (Int.ofNat 0) = (AV.b true = AV.b true) := by kernel_rfl
theorem n_30_1 : Gn (Int.ofNat 30) (Int.ofNat 1) = (AV.b true = AV.b true) := by kernel_rfl
theorem n_30_2 : Gn (Int.ofNat 30) (Int.ofNat 2) = (AV.b true = AV.b true) := by kernel_rfl
theorem n_30_3 : Gn (Int.ofNat 30) (Int.ofNat 3) = (AV.b true = AV.b true) := by kernel_rfl
theorem n_30_4 : Gn (Int.ofNat 30) (Int.ofNat 4) = (AV.b true = AV.b true) := by kernel_rfl
theorem n_30_5 : Gn (Int.ofNat 30) (Int.ofNat 5) = (AV.b true = AV.b true) := by kernel_rfl
theorem n_30_6 : Gn (Int.ofNat 30) (Int.ofNat 6) = (AV.b true = AV.b true) := by kernel_rfl
theorem n_30_7 : Gn (Int.ofNat 30) (Int.ofNat 7) = (AV.b true = AV.b true) := by kernel_rfl
theorem n_30_8 : Gn (Int.ofNat 30) (Int.ofNat 8) = (AV.b true = AV.b true) := by kernel_rfl
theorem n_30_9 : Gn (Int.ofNat 30) (Int.ofNat 9) = (AV.b true = AV.b true) := by kernel_rfl
theorem n_30_10 : Gn (Int.ofNat 30) (Int.ofNat 10) = (AV.b true = AV.b true) := by kernel_rfl
theorem n_30_11 : Gn (Int.ofNat 30) (Int.ofNat 11) = (AV.b true = AV.b true) := by kernel_rfl
theorem n_30_12 : Gn (Int.ofNat 30) (Int.ofNat 12) = (AV.b true = AV.b true) := by kernel_rfl
theorem n_30_13 : Gn (Int.ofNat 30) (Int.ofNat 13) = (AV.b true = AV.b true) := by kernel_rfl
theorem n_30_14 : Gn (Int.ofNat 30) (Int.ofNat 14) = (AV.b true = AV.b true) := by kernel_rfl
theorem n_30_15 : Gn (Int.ofNat 30) (Int.ofNat 15) = (AV.b true = AV.b true) := by kernel_rfl
theorem n_30_16 : Gn (Int.ofNat 30) (Int.ofNat 16) = (AV.b true = AV.b true) := by kernel_rfl
theorem n_30_17 : Gn (Int.ofNat 30) (Int.ofNat 17) = (AV.b true = AV.b true) := by kernel_rfl
theorem n_30_18 : Gn (Int.ofNat 30) (Int.ofNat 18) = (AV.b true = AV.b true) := by kernel_rfl
theorem n_30_19 : Gn (Int.ofNat 30) (Int.ofNat 19) = (AV.b true = AV.b true) := by kernel_rfl
theorem n_30_20 : Gn (Int.ofNat 30) (Int.ofNat 20) = (AV.b true = AV.b true) := by kernel_rfl
theorem n_30_21 : Gn (Int.ofNat 30) (Int.ofNat 21) = (AV.b true = AV.b true) := by kernel_rfl
theorem n_30_22 : Gn (Int.ofNat 30) (Int.ofNat 22) = (AV.b true = AV.b true) := by kernel_rfl
theorem n_30_23 : Gn (Int.ofNat 30) (Int.ofNat 23) = (AV.b true = AV.b true) := by kernel_rfl
theorem n_30_24 : Gn (Int.ofNat 30) (Int.ofNat 24) = (AV.b true = AV.b true) := by kernel_rfl
theorem n_30_25 : Gn (Int.ofNat 30) (Int.ofNat 25) = (AV.b true = AV.b true) := by kernel_rfl
theorem n_30_26 : Gn (Int.ofNat 30) (Int.ofNat 26) = (AV.b true = AV.b true) := by kernel_rfl
theorem n_30_27 : Gn (Int.ofNat 30) (Int.ofNat 27) = (AV.b true = AV.b true) := by kernel_rfl
theorem n_30_28 : Gn (Int.ofNat 30) (Int.ofNat 28) = (AV.b true = AV.b true) := by kernel_rfl
theorem n_30_29 : Gn (Int.ofNat 30) (Int.ofNat 29) = (AV.b true = AV.b true) := by kernel_rfl
theorem n_30_30 : Gn (Int.ofNat 30) (Int.ofNat 30) = (AV.b true = AV.b true) := by kernel_rfl
theorem n_30_31 : Gn (Int.ofNat 30) (Int.ofNat 31) = (AV.b true = AV.b true) := by kernel_rfl
theorem n_30_32 : Gn (Int.ofNat 30) (Int.ofNat 32) = (AV.b true = AV.b true) := by kernel_rfl
theorem n_30_g (y : Nat) : Gn (Int.ofNat 30) (Int.ofNat (y + 33)) = (AV.b true = AV.b true) := by kernel_rfl
theorem m_30 (b : Int) : Gn (Int.ofNat 30) b := by
  rcases b with n | y
  · by_cases h : n < 33
    · have h : n = 0 ∨ n = 1 ∨ n = 2 ∨ n = 3 ∨ n = 4 ∨ n = 5 ∨ n = 6 ∨ n = 7 ∨ n = 8 ∨ n = 9 ∨ n = 10 ∨ n = 11 ∨ n = 12 ∨ n = 13 ∨ n = 14 ∨ n = 15 ∨ n = 16 ∨ n = 17 ∨ n = 18 ∨ n = 19 ∨ n = 20 ∨ n = 21 ∨ n = 22 ∨ n = 23 ∨ n = 24 ∨ n = 25 ∨ n = 26 ∨ n = 27 ∨ n = 28 ∨ n = 29 ∨ n = 30 ∨ n = 31 ∨ n = 32 := by omega
      rcases h with rfl | rfl | rfl | rfl | rfl | rfl | rfl | rfl | rfl | rfl | rfl | rfl | rfl | rfl | rfl | rfl | rfl | rfl | rfl | rfl | rfl | rfl | rfl | rfl | rfl | rfl | rfl | rfl | rfl | rfl | rfl | rfl | rfl
      · exact of (n_30_0)
      · exact of (n_30_1)
      · exact of (n_30_2)
      · exact of (n_30_3)
      · exact of (n_30_4)
      · exact of (n_30_5)
      · exact of (n_30_6)
      · exact of (n_30_7)
      · exact of (n_30_8)
      · exact of (n_30_9)
      · exact of (n_30_10)
      · exact of (n_30_11)
      · exact of (n_30_12)
      · exact of (n_30_13)
      · exact of (n_30_14)
      · exact of (n_30_15)
      · exact of (n_30_16)
      · exact of (n_30_17)
      · exact of (n_30_18)
      · exact of (n_30_19)
      · exact of (n_30_20)
      · exact of (n_30_21)
      · exact of (n_30_22)
      · exact of (n_30_23)
      · exact of (n_30_24)
      · exact of (n_30_25)
      · exact of (n_30_26)
      · exact of (n_30_27)
      · exact of (n_30_28)
      · exact of (n_30_29)
      · exact of (n_30_30)
      · exact of (n_30_31)
      · exact of (n_30_32)
    · obtain ⟨y, rfl⟩ : ∃ y, n = y + 33 := ⟨n - 33, by omega⟩
      exact of (n_30_g y)
  · exact of (n_30_n y)
theorem n_31_n (y : Nat) : Gn (Int.ofNat 31) (Int.negSucc y) = (AV.b true = AV.b true) := by kernel_rfl
theorem n_31_0 : Gn (Int.ofNat 31) (Int.ofNat 0) = (AV.b true = AV.b true) := by kernel_rfl
theorem n_31_1 : Gn (Int.ofNat 31) (Int.ofNat 1) = (AV.b true = AV.b true) := by kernel_rfl
theorem n_31_2 : Gn (Int.ofNat 31) (Int.ofNat 2) = (AV.b true = AV.b true) := by kernel_rfl
theorem n_31_3 : Gn (Int.ofNat 31) (Int.ofNat 3) = (AV.b true = AV.b true) := by kernel_rfl
theorem n_31_4 : Gn (Int.ofNat 31) (Int.ofNat 4) = (AV.b true = AV.b true) := by kernel_rfl
theorem n_31_5 : Gn (Int.ofNat 31) (Int.ofNat 5) = (AV.b true = AV.b true) := by kernel_rfl
theorem n_31_6 : Gn (Int.ofNat 31) (Int.ofNat 6) = (AV.b true = AV.b true) := by kernel_rfl
theorem n_31_7 : Gn (Int.ofNat 31) (Int.ofNat 7) = (AV.b true = AV.b true) := by kernel_rfl
theorem n_31_8 : Gn (Int.ofNat 31) (Int.ofNat 8) = (AV.b true = AV.b true) := by kernel_rfl
theorem n_31_9 : Gn (Int.ofNat 31) (Int.ofNat 9) = (AV.b true = AV.b true) := by kernel_rfl
theorem n_31_10 : Gn (Int.ofNat 31) (Int.ofNat 10) = (AV.b true = AV.b true) := by kernel_rfl
theorem n_31_11 : Gn (Int.ofNat 31) (Int.ofNat 11) = (AV.b true = AV.b true) := by kernel_rfl
theorem n_31_12 : Gn (Int.ofNat 31) (Int.ofNat 12) = (AV.b true = AV.b true) := by kernel_rfl
theorem n_31_13 : Gn (Int.ofNat 31) (Int.ofNat 13) = (AV.b true = AV.b true) := by kernel_rfl
theorem n_31_14 : Gn (Int.ofNat 31) (Int.ofNat 14) = (AV.b true = AV.b true) := by kernel_rfl
theorem n_31_15 : Gn (Int.ofNat 31) (Int.ofNat 15) = (AV.b true = AV.b true) := by kernel_rfl
theorem n_31_16 : Gn (Int.ofNat 31) (Int.ofNat 16) = (AV.b true = AV.b true) := by kernel_rfl
theorem n_31_17 : Gn (Int.ofNat 31) (Int.ofNat 17) = (AV.b true = AV.b true) := by kernel_rfl
theorem n_31_18 : Gn (Int.ofNat 31) (Int.ofNat 18) = (AV.b true = AV.b true) := by kernel_rfl
theorem n_31_19 : Gn (Int.ofNat 31) (Int.ofNat 19) = (AV.b true = AV.b true) := by kernel_rfl
theorem n_31_20 : Gn (Int.ofNat 31) (Int.ofNat 20) = (AV.b true = AV.b true) := by kernel_rfl
theorem n_31_21 : Gn (Int.ofNat 31) (Int.ofNat 21) = (AV.b true = AV.b true) := by kernel_rfl
theorem n_31_22 : Gn (Int.ofNat 31) (Int.ofNat 22) = (AV.b true = AV.b true) := by kernel_rfl
theorem n_31_23 : Gn (Int.ofNat 31) (Int.ofNat 23) = (AV.b true = AV.b true) := by kernel_rfl
theorem n_31_24 : Gn (Int.ofNat 31) (Int.ofNat 24) = (AV.b true = AV.b true) := by kernel_rfl
theorem n_31_25 : Gn (Int.ofNat 31) (Int.ofNat 25) = (AV.b true = AV.b true) := by kernel_rfl
theorem n_31_26 : Gn (Int.ofNat 31) (Int.ofNat 26) = (AV.b true = AV.b true) := by kernel_rfl
theorem n_31_27 : Gn (Int.ofNat 31) (Int.ofNat 27) = (AV.b true = AV.b true) := by kernel_rfl
theorem n_31_28 : Gn (Int.ofNat 31) (Int.ofNat 28) = (AV.b true = AV.b true) := by kernel_rfl
theorem n_31_29 : Gn (Int.ofNat 31) (Int.ofNat 29) = (AV.b true = AV.b true) := by kernel_rfl
theorem n_31_30 : Gn (Int.ofNat 31) (Int.ofNat 30) = (AV.b true = AV.b true) := by kernel_rfl
theorem n_31_31 : Gn (Int.ofNat 31) (Int.ofNat 31) = (AV.b true = AV.b true) := by kernel_rfl
theorem n_31_32 : Gn (Int.ofNat 31) (Int.ofNat 32) = (AV.b true = AV.b true) := by kernel_rfl
theorem n_31_g (y : Nat) : Gn (Int.ofNat 31) (Int.ofNat (y + 33)) = (AV.b true = AV.b true) := by kernel_rfl
theorem m_31 (b : Int) : Gn (Int.ofNat 31) b := by
  rcases b with n | y
  · by_cases h : n < 33
    · have h : n = 0 ∨ n = 1 ∨ n = 2 ∨ n = 3 ∨ n = 4 ∨ n = 5 ∨ n = 6 ∨ n = 7 ∨ n = 8 ∨ n = 9 ∨ n = 10 ∨ n = 11 ∨ n = 12 ∨ n = 13 ∨ n = 14 ∨ n = 15 ∨ n = 16 ∨ n = 17 ∨ n = 18 ∨ n = 19 ∨ n = 20 ∨ n = 21 ∨ n = 22 ∨ n = 23 ∨ n = 24 ∨ n = 25 ∨ n = 26 ∨ n = 27 ∨ n = 28 ∨ n = 29 ∨ n = 30 ∨ n = 31 ∨ n = 32 := by omega
      rcases h with rfl | rfl | rfl | rfl | rfl | rfl | rfl | rfl | rfl | rfl | rfl | rfl | rfl | rfl | rfl | rfl | rfl | rfl | rfl | rfl | rfl | rfl | rfl | rfl | rfl | rfl | rfl | rfl | rfl | rfl | rfl | rfl | rfl
      · exact of (n_31_0)
      · exact of (n_31_1)
      · exact of (n_31_2)
      · exact of (n_31_3)
      · exact of (n_31_4)
      · exact of (n_31_5)
      · exact of (n_31_6)
      · exact of (n_31_7)
      · exact of (n_31_8)
      · exact of (n_31_9)
      · exact of (n_31_10)
      · exact of (n_31_11)
      · exact of (n_31_12)
      · exact of (n_31_13)
      · exact of (n_31_14)
      · exact of (n_31_15)
      · exact of (n_31_16)
      · exact of (n_31_17)
      · exact of (n_31_18)
      · exact of (n_31_19)
      · exact of (n_31_20)
      · exact of (n_31_21)
      · exact of (n_31_22)
      · exact of (n_31_23)
      · exact of (n_31_24)
      · exact of (n_31_25)
      · exact of (n_31_26)
      · exact of (n_31_27)
      · exact of (n_31_28)
      · exact of (n_31_29)
      · exact of (n_31_30)
      · exact of (n_31_31)
      · exact of (n_31_32)
    · obtain ⟨y, rfl⟩ : ∃ y, n = y + 33 := ⟨n - 33, by omega⟩
      exact of (n_31_g y)
  · exact of (n_31_n y)
theorem n_32_n (y : Nat) : Gn (Int.ofNat 32) (Int.negSucc y) = (AV.b true = AV.b true) := by kernel_rfl
theorem n_32_0 : Gn (Int.ofNat 32) (Int.ofNat 0) = (AV.b true = AV.b true) := by kernel_rfl
theorem n_32_1 : Gn (Int.ofNat 32) (Int.ofNat 1) = (AV.b true = AV.b true) := by kernel_rfl
theorem n_32_2 : Gn (Int.ofNat 32) (Int.ofNat 2) = (AV.b true = AV.b true) := by kernel_rfl
theorem n_32_3 : Gn (Int.ofNat 32) (Int.ofNat 3) = (AV.b true = AV.b true) := by kernel_rfl
theorem n_32_4 : Gn (Int.ofNat 32) (Int.ofNat 4) = (AV.b true = AV.b true) := by kernel_rfl
theorem n_32_5 : Gn (Int.ofNat 32) (Int.ofNat 5) = (AV.b true = AV.b true) := by kernel_rfl
theorem n_32_6 : Gn (Int.ofNat 32) (Int.ofNat 6) = (AV.b true = AV.b true) := by kernel_rfl
theorem n_32_7 : Gn (Int.ofNat 32) (Int.ofNat 7) = (AV.b true = AV.b true) := by kernel_rfl
theorem n_32_8 : Gn (Int.ofNat 32) (Int.ofNat 8) = (AV.b true = AV.b true) := by kernel_rfl
theorem n_32_9 : Gn (Int.ofNat 32) (Int.ofNat 9) = (AV.b true = AV.b true) := by kernel_rfl
theorem n_32_10 : Gn (Int.ofNat 32) (Int.ofNat 10) = (AV.b true = AV.b true) := by kernel_rfl
theorem n_32_11 : Gn (Int.ofNat 32) (Int.ofNat 11) = (AV.b true = AV.b true) := by kernel_rfl
theorem n_32_12 : Gn (Int.ofNat 32) (Int.ofNat 12) = (AV.b true = AV.b true) := by kernel_rfl
theorem n_32_13 : Gn (Int.ofNat 32) (Int.ofNat 13) = (AV.b true = AV.b true) := by kernel_rfl
theorem n_32_14 : Gn (Int.ofNat 32) (Int.ofNat 14) = (AV.b true = AV.b true) := by kernel_rfl
theorem n_32_15 : Gn (Int.ofNat 32) (Int.ofNat 15) = (AV.b true = AV.b true) := by kernel_rfl
theorem n_32_16 : Gn (Int.ofNat 32) (Int.ofNat 16) = (AV.b true = AV.b true) := by kernel_rfl
theorem n_32_17 : Gn (Int.ofNat 32) (Int.ofNat 17) = (AV.b true = AV.b true) := by kernel_rfl
theorem n_32_18 : Gn (Int.ofNat 32) (Int.ofNat 18) = (AV.b true = AV.b true) := by kernel_rfl
theorem n_32_19 : Gn (Int.ofNat 32) (Int.ofNat 19) = (AV.b true = AV.b true) := by kernel_rfl
theorem n_32_20 : Gn (Int.ofNat 32) (Int.ofNat 20) = (AV.b true = AV.b true) := by kernel_rfl
theorem n_32_21 : Gn (Int.ofNat 32) (Int.ofNat 21) = (AV.b true = AV.b true) := by kernel_rfl
theorem n_32_22 : Gn (Int.ofNat 32) (Int.ofNat 22) = (AV.b true = AV.b true) := by kernel_rfl
theorem n_32_23 : Gn (Int.ofNat 32) (Int.ofNat 23) = (AV.b true = AV.b true) := by kernel_rfl
theorem n_32_24 : Gn (Int.ofNat 32) (Int.ofNat 24) = (AV.b true = AV.b true) := by kernel_rfl
theorem n_32_25 : Gn (Int.ofNat 32) (Int.ofNat 25) = (AV.b true = AV.b true) := by kernel_rfl
theorem n_32_26 : Gn (Int.ofNat 32) (Int.ofNat 26) = (AV.b true = AV.b true) := by kernel_rfl
theorem n_32_27 : Gn (Int.ofNat 32) (Int.ofNat 27) = (AV.b true = AV.b true) := by kernel_rfl
theorem n_32_28 : Gn (Int.ofNat 32) (Int.ofNat 28) = (AV.b true = AV.b true) := by kernel_rfl
theorem n_32_29 : Gn (Int.ofNat 32) (Int.ofNat 29) = (AV.b true = AV.b true) := by kernel_rfl
theorem n_32_30 : Gn (Int.ofNat 32) (Int.ofNat 30) = (AV.b true = AV.b true) := by kernel_rfl
theorem n_32_31 : Gn (Int.ofNat 32) (Int.ofNat 31) = (AV.b true = AV.b true) := by kernel_rfl
theorem n_32_32 : Gn (Int.ofNat 32) (Int.ofNat 32) = (AV.b true = AV.b true) := by kernel_rfl
theorem n_32_g (y : Nat) : Gn (Int.ofNat 32) (Int.ofNat (y + 33)) = (AV.b true = AV.b true) := by kernel_rfl
theorem m_32 (b : Int) : Gn (Int.ofNat 32) b := by
  rcases b with n | y
  · by_cases h : n < 33
    · have h : n = 0 ∨ n = 1 ∨ n = 2 ∨ n = 3 ∨ n = 4 ∨ n = 5 ∨ n = 6 ∨ n = 7 ∨ n = 8 ∨ n = 9 ∨ n = 10 ∨ n = 11 ∨ n = 12 ∨ n = 13 ∨ n = 14 ∨ n = 15 ∨ n = 16 ∨ n = 17 ∨ n = 18 ∨ n = 19 ∨ n = 20 ∨ n = 21 ∨ n = 22 ∨ n = 23 ∨ n = 24 ∨ n = 25 ∨ n = 26 ∨ n = 27 ∨ n = 28 ∨ n = 29 ∨ n = 30 ∨ n = 31 ∨ n = 32 := by omega
      rcases h with rfl | rfl | rfl | rfl | rfl | rfl | rfl | rfl | rfl | rfl | rfl | rfl | rfl | rfl | rfl | rfl | rfl | rfl | rfl | rfl | rfl | rfl | rfl | rfl | rfl | rfl | rfl | rfl | rfl | rfl | rfl | rfl | rfl
      · exact of (n_32_0)
      · exact of (n_32_1)
      · exact of (n_32_2)
      · exact of (n_32_3)
      · exact of (n_32_4)
      · exact of (n_32_5)
      · exact of (n_32_6)
      · exact of (n_32_7)
      · exact of (n_32_8)
      · exact of (n_32_9)
      · exact of (n_32_10)
      · exact of (n_32_11)
      · exact of (n_32_12)
      · exact of (n_32_13)
      · exact of (n_32_14)
      · exact of (n_32_15)
      · exact of (n_32_16)
      · exact of (n_32_17)
      · exact of (n_32_18)
      · exact of (n_32_19)
      · exact of (n_32_20)
      · exact of (n_32_21)
      · exact of (n_32_22)
      · exact of (n_32_23)
      · exact of (n_32_24)
      · exact of (n_32_25)
      · exact of (n_32_26)
      · exact of (n_32_27)
      · exact of (n_32_28)
      · exact of (n_32_29)
      · exact of (n_32_30)
      · exact of (n_32_31)
      · exact of (n_32_32)
    · obtain ⟨y, rfl⟩ : ∃ y, n = y + 33 := ⟨n - 33, by omega⟩
      exact of (n_32_g y)
  · exact of (n_32_n y)
theorem n_g_n (x : Nat) (y : Nat) : Gn (Int.ofNat (x + 33)) (Int.negSucc y) = (AV.b true = AV.b true) := by kernel_rfl
theorem n_g_0 (x : Nat) : Gn (Int.ofNat (x + 33)) (Int.ofNat 0) = (AV.b true = AV.b true) := by kernel_rfl
theorem n_g_1 (x : Nat) : Gn (Int.ofNat (x + 33)) (Int.ofNat 1) = (AV.b true = AV.b true) := by kernel_rfl
theorem n_g_2 (x : Nat) : Gn (Int.ofNat (x + 33)) (Int.ofNat 2) = (AV.b true = AV.b true) := by kernel_rfl
theorem n_g_3 (x : Nat) : Gn (Int.ofNat (x + 33)) (Int.ofNat 3) = (AV.b true = AV.b true) := by kernel_rfl
theorem n_g_4 (x : Nat) : Gn (Int.ofNat (x + 33)) (Int.ofNat 4) = (AV.b true = AV.b true) := by kernel_rfl
theorem n_g_5 (x : Nat) : Gn (Int.ofNat (x + 33)) (Int.ofNat 5) = (AV.b true = AV.b true) := by kernel_rfl
theorem n_g_6 (x : Nat) : Gn (Int.ofNat (x + 33)) (Int.ofNat 6) = (AV.b true = AV.b true) := by kernel_rfl
theorem n_g_7 (x : Nat) : Gn (Int.ofNat (x + 33)) (Int.ofNat 7) = (AV.b true = AV.b true) := by kernel_rfl
theorem n_g_8 (x : Nat) : Gn (Int.ofNat (x + 33)) (Int.ofNat 8) = (AV.b true = AV.b true) := by kernel_rfl
theorem n_g_9 (x : Nat) : Gn (Int.ofNat (x + 33)) (Int.ofNat 9) = (AV.b true = AV.b true) := by kernel_rfl
theorem n_g_10 (x : Nat) : Gn (Int.ofNat (x + 33)) (Int.ofNat 10) = (AV.b true = AV.b true) := by kernel_rfl
theorem n_g_11 (x : Nat) : Gn (Int.ofNat (x + 33)) (Int.ofNat 11) = (AV.b true = AV.b true) := by kernel_rfl
theorem n_g_12 (x : Nat) : Gn (Int.ofNat (x + 33)) (Int.ofNat 12) = (AV.b true = AV.b true) := by kernel_rfl
theorem n_g_13 (x : Nat) : Gn (Int.ofNat (x + 33)) (Int.ofNat 13) = (AV.b true = AV.b true) := by kernel_rfl
theorem n_g_14 (x : Nat) : Gn (Int.ofNat (x + 33)) (Int.ofNat 14) = (AV.b true = AV.b true) := by kernel_rfl
theorem n_g_15 (x : Nat) : Gn (Int.ofNat (x + 33)) (Int.ofNat 15) = (AV.b true = AV.b true) := by kernel_rfl
theorem n_g_16 (x : Nat) : Gn (Int.ofNat (x + 33)) (Int.ofNat 16) = (AV.b true = AV.b true) := by kernel_rfl
theorem n_g_17 (x : Nat) : Gn (Int.ofNat (x + 33)) (Int.ofNat 17) = (AV.b true = AV.b true) := by kernel_rfl
theorem n_g_18 (x : Nat) : Gn (Int.ofNat (x + 33)) (Int.ofNat 18) = (AV.b true = AV.b true) := by kernel_rfl
theorem n_g_19 (x : Nat) : Gn (Int.ofNat (x + 33)) (Int.ofNat 19) = (AV.b true = AV.b true) := by kernel_rfl
theorem n_g_20 (x : Nat) : Gn (Int.ofNat (x + 33)) (Int.ofNat 20) = (AV.b true = AV.b true) := by kernel_rfl
theorem n_g_21 (x : Nat) : Gn (Int.ofNat (x + 33)) (Int.ofNat 21) = (AV.b true = AV.b true) := by kernel_rfl
theorem n_g_22 (x : Nat) : Gn (Int.ofNat (x + 33)) (Int.ofNat 22) = (AV.b true = AV.b true) := by kernel_rfl
theorem n_g_23 (x : Nat) : Gn (Int.ofNat (x + 33)) (Int.ofNat 23) = (AV.b true = AV.b true) := by kernel_rfl
theorem n_g_24 (x : Nat) : Gn (Int.ofNat (x + 33)) (Int.ofNat 24) = (AV.b true = AV.b true) := by kernel_rfl
theorem n_g_25 (x : Nat) : Gn (Int.ofNat (x + 33)) (Int.ofNat 25) = (AV.b true = AV.b true) := by kernel_rfl
theorem n_g_26 (x : Nat) : Gn (Int.ofNat (x + 33)) (Int.ofNat 26) = (AV.b true = AV.b true) := by kernel_rfl
theorem n_g_27 (x : Nat) : Gn (Int.ofNat (x + 33)) (Int.ofNat 27) = (AV.b true = AV.b true) := by kernel_rfl
theorem n_g_28 (x : Nat) : Gn (Int.ofNat (x + 33)) (Int.ofNat 28) = (AV.b true = AV.b true) := by kernel_rfl
theorem n_g_29 (x : Nat) : Gn (Int.ofNat (x + 33)) (Int.ofNat 29) = (AV.b true = AV.b true) := by kernel_rfl
theorem n_g_30 (x : Nat) : Gn (Int.ofNat (x + 33)) (Int.ofNat 30) = (AV.b true = AV.b true) := by kernel_rfl
theorem n_g_31 (x : Nat) : Gn (Int.ofNat (x + 33)) (Int.ofNat 31) = (AV.b true = AV.b true) := by kernel_rfl
theorem n_g_32 (x : Nat) : Gn (Int.ofNat (x + 33)) (Int.ofNat 32) = (AV.b true = AV.b true) := by kernel_rfl
theorem n_g_g (x : Nat) (y : Nat) : Gn (Int.ofNat (x + 33)) (Int.ofNat (y + 33)) = (AV.b true = AV.b true) := by kernel_rfl
theorem m_g (x : Nat) (b : Int) : Gn (Int.ofNat (x + 33)) b := by
  rcases b with n | y
  · by_cases h : n < 33
    · have h : n = 0 ∨ n = 1 ∨ n = 2 ∨ n = 3 ∨ n = 4 ∨ n = 5 ∨ n = 6 ∨ n = 7 ∨ n = 8 ∨ n = 9 ∨ n = 10 ∨ n = 11 ∨ n = 12 ∨ n = 13 ∨ n = 14 ∨ n = 15 ∨ n = 16 ∨ n = 17 ∨ n = 18 ∨ n = 19 ∨ n = 20 ∨ n = 21 ∨ n = 22 ∨ n = 23 ∨ n = 24 ∨ n = 25 ∨ n = 26 ∨ n = 27 ∨ n = 28 ∨ n = 29 ∨ n = 30 ∨ n = 31 ∨ n = 32 := by omega
      rcases h with rfl | rfl | rfl | rfl | rfl | rfl | rfl | rfl | rfl | rfl | rfl | rfl | rfl | rfl | rfl | rfl | rfl | rfl | rfl | rfl | rfl | rfl | rfl | rfl | rfl | rfl | rfl | rfl | rfl | rfl | rfl | rfl | rfl
      · exact of (n_g_0 x)
      · exact of (n_g_1 x)
      · exact of (n_g_2 x)
      · exact of (n_g_3 x)
      · exact of (n_g_4 x)
      · exact of (n_g_5 x)
      · exact of (n_g_6 x)
      · exact of (n_g_7 x)
      · exact of (n_g_8 x)
      · exact of (n_g_9 x)
      · exact of (n_g_10 x)
      · exact of (n_g_11 x)
      · exact of (n_g_12 x)
      · exact of (n_g_13 x)
      · exact of (n_g_14 x)
      · exact of (n_g_15 x)
      · exact of (n_g_16 x)
      · exact of (n_g_17 x)
      · exact of (n_g_18 x)
      · exact of (n_g_19 x)
      · exact of (n_g_20 x)
      · exact of (n_g_21 x)
      · exact of (n_g_22 x)
      · exact of (n_g_23 x)
      · exact of (n_g_24 x)
      · exact of (n_g_25 x)
      · exact of (n_g_26 x)
      · exact of (n_g_27 x)
      · exact of (n_g_28 x)
      · exact of (n_g_29 x)
      · exact of (n_g_30 x)
      · exact of (n_g_31 x)
      · exact of (n_g_32 x)
    · obtain ⟨y, rfl⟩ : ∃ y, n = y + 33 := ⟨n - 33, by omega⟩
      exact of (n_g_g x y)
  · exact of (n_g_n x y)
end
end Go.Proofs.YtkfcecaoaplfkaaDoor.T
