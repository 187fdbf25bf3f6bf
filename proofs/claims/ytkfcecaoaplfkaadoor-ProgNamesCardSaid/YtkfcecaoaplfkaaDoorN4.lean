/- ProgNames: some of the first numbers, each second one: by the kernel. -/
import Derived.Test.YtkfcecaoaplfkaaDoorPn
set_option linter.unusedVariables false
set_option linter.unusedSimpArgs false
set_option maxRecDepth 100000
namespace Go.Proofs.YtkfcecaoaplfkaaDoor.T
open Go.AM
noncomputable section
theorem n_19_n (y : Nat) : Gn (Int.ofNat 19) (Int.negSucc y) = (AV.b true = AV.b true) := by kernel_rfl
theorem n_19_0 : Gn (Int.ofNat 19) (Int.ofNat 0) = (AV.b true = AV.b true) := by kernel_rfl
theorem n_19_1 : Gn (Int.ofNat 19) (Int.ofNat 1) = (AV.b true = AV.b true) := by kernel_rfl
theorem n_19_2 : Gn (Int.ofNat 19) (Int.ofNat 2) = (AV.b true = AV.b true) := by kernel_rfl
theorem n_19_3 : Gn (Int.ofNat 19) (Int.ofNat 3) = (AV.b true = AV.b true) := by kernel_rfl
theorem n_19_4 : Gn (Int.ofNat 19) (Int.ofNat 4) = (AV.b true = AV.b true) := by kernel_rfl
theorem n_19_5 : Gn (Int.ofNat 19) (Int.ofNat 5) = (AV.b true = AV.b true) := by kernel_rfl
theorem n_19_6 : Gn (Int.ofNat 19) (Int.ofNat 6) = (AV.b true = AV.b true) := by kernel_rfl
theorem n_19_7 : Gn (Int.ofNat 19) (Int.ofNat 7) = (AV.b true = AV.b true) := by kernel_rfl
theorem n_19_8 : Gn (Int.ofNat 19) (Int.ofNat 8) = (AV.b true = AV.b true) := by kernel_rfl
theorem n_19_9 : Gn (Int.ofNat 19) (Int.ofNat 9) = (AV.b true = AV.b true) := by kernel_rfl
theorem n_19_10 : Gn (Int.ofNat 19) (Int.ofNat 10) = (AV.b true = AV.b true) := by kernel_rfl
theorem n_19_11 : Gn (Int.ofNat 19) (Int.ofNat 11) = (AV.b true = AV.b true) := by kernel_rfl
theorem n_19_12 : Gn (Int.ofNat 19) (Int.ofNat 12) = (AV.b true = AV.b true) := by kernel_rfl
theorem n_19_13 : Gn (Int.ofNat 19) (Int.ofNat 13) = (AV.b true = AV.b true) := by kernel_rfl
theorem n_19_14 : Gn (Int.ofNat 19) (Int.ofNat 14) = (AV.b true = AV.b true) := by kernel_rfl
theorem n_19_15 : Gn (Int.ofNat 19) (Int.ofNat 15) = (AV.b true = AV.b true) := by kernel_rfl
theorem n_19_16 : Gn (Int.ofNat 19) (Int.ofNat 16) = (AV.b true = AV.b true) := by kernel_rfl
theorem n_19_17 : Gn (Int.ofNat 19) (Int.ofNat 17) = (AV.b true = AV.b true) := by kernel_rfl
theorem n_19_18 : Gn (Int.ofNat 19) (Int.ofNat 18) = (AV.b true = AV.b true) := by kernel_rfl
theorem n_19_19 : Gn (Int.ofNat 19) (Int.ofNat 19) = (AV.b true = AV.b true) := by kernel_rfl
theorem n_19_20 : Gn (Int.ofNat 19) (Int.ofNat 20) = (AV.b true = AV.b true) := by kernel_rfl
theorem n_19_21 : Gn (Int.ofNat 19) (Int.ofNat 21) = (AV.b true = AV.b true) := by kernel_rfl
theorem n_19_22 : Gn (Int.ofNat 19) (Int.ofNat 22) = (AV.b true = AV.b true) := by kernel_rfl
theorem n_19_23 : Gn (Int.ofNat 19) (Int.ofNat 23) = (AV.b true = AV.b true) := by kernel_rfl
theorem n_19_24 : Gn (Int.ofNat 19) (Int.ofNat 24) = (AV.b true = AV.b true) := by kernel_rfl
theorem n_19_25 : Gn (Int.ofNat 19) (Int.ofNat 25) = (AV.b true = AV.b true) := by kernel_rfl
theorem n_19_26 : Gn (Int.ofNat 19) (Int.ofNat 26) = (AV.b true = AV.b true) := by kernel_rfl
theorem n_19_27 : Gn (Int.ofNat 19) (Int.ofNat 27) = (AV.b true = AV.b true) := by kernel_rfl
theorem n_19_28 : Gn (Int.ofNat 19) (Int.ofNat 28) = (AV.b true = AV.b true) := by kernel_rfl
theorem n_19_29 : Gn (Int.ofNat 19) (Int.ofNat 29) = (AV.b true = AV.b true) := by kernel_rfl
theorem n_19_30 : Gn (Int.ofNat 19) (Int.ofNat 30) = (AV.b true = AV.b true) := by kernel_rfl
theorem n_19_31 : Gn (Int.ofNat 19) (Int.ofNat 31) = (AV.b true = AV.b true) := by kernel_rfl
theorem n_19_32 : Gn (Int.ofNat 19) (Int.ofNat 32) = (AV.b true = AV.b true) := by kernel_rfl
theorem n_19_g (y : Nat) : Gn (Int.ofNat 19) (Int.ofNat (y + 33)) = (AV.b true = AV.b true) := by kernel_rfl
theorem m_19 (b : Int) : Gn (Int.ofNat 19) b := by
  rcases b with n | y
  · by_cases h : n < 33
    · have h : n = 0 ∨ n = 1 ∨ n = 2 ∨ n = 3 ∨ n = 4 ∨ n = 5 ∨ n = 6 ∨ n = 7 ∨ n = 8 ∨ n = 9 ∨ n = 10 ∨ n = 11 ∨ n = 12 ∨ n = 13 ∨ n = 14 ∨ n = 15 ∨ n = 16 ∨ n = 17 ∨ n = 18 ∨ n = 19 ∨ n = 20 ∨ n = 21 ∨ n = 22 ∨ n = 23 ∨ n = 24 ∨ n = 25 ∨ n = 26 ∨ n = 27 ∨ n = 28 ∨ n = 29 ∨ n = 30 ∨ n = 31 ∨ n = 32 := by omega
      rcases h with rfl | rfl | rfl | rfl | rfl | rfl | rfl | rfl | rfl | rfl | rfl | rfl | rfl | rfl | rfl | rfl | rfl | rfl | rfl | rfl | rfl | rfl | rfl | rfl | rfl | rfl | rfl | rfl | rfl | rfl | rfl | rfl | rfl
      · exact of (n_19_0)
      · exact of (n_19_1)
      · exact of (n_19_2)
      · exact of (n_19_3)
      · exact of (n_19_4)
      · exact of (n_19_5)
      · exact of (n_19_6)
      · exact of (n_19_7)
      · exact of (n_19_8)
      · exact of (n_19_9)
      · exact of (n_19_10)
      · exact of (n_19_11)
      · exact of (n_19_12)
      · exact of (n_19_13)
      · exact of (n_19_14)
      · exact of (n_19_15)
      · exact of (n_19_16)
      · exact of (n_19_17)
      · exact of (n_19_18)
      · exact of (n_19_19)
      · exact of (n_19_20)
      · exact of (n_19_21)
      · exact of (n_19_22)
      · exact of (n_19_23)
      · exact of (n_19_24)
      · exact of (n_19_25)
      · exact of (n_19_26)
      · exact of (n_19_27)
      · exact of (n_19_28)
      · exact of (n_19_29)
      · exact of (n_19_30)
      · exact of (n_19_31)
      · exact of (n_19_32)
    · obtain ⟨y, rfl⟩ : ∃ y, n = y + 33 := ⟨n - 33, by omega⟩
      exact of (n_19_g y)
  · exact of (n_19_n y)
theorem n_20_n (y : Nat) : Gn (Int.ofNat 20) (Int.negSucc y) = (AV.b true = AV.b true) := by kernel_rfl
theorem n_20_0 : Gn (Int.ofNat 20) (Int.ofNat 0) = (AV.b true = AV.b true) := by kernel_rfl
theorem n_20_1 : Gn (Int.ofNat 20) (Int.ofNat 1) = (AV.b true = AV.b true) := by kernel_rfl
theorem n_20_2 : Gn (Int.ofNat 20) (Int.ofNat 2) = (AV.b true = AV.b true) := by kernel_rfl
theorem n_20_3 : Gn (Int.ofNat 20) (Int.ofNat 3) = (AV.b true = AV.b true) := by kernel_rfl
theorem n_20_4 : Gn (Int.ofNat 20) (Int.ofNat 4) = (AV.b true = AV.b true) := by kernel_rfl
theorem n_20_5 : Gn (Int.ofNat 20) (Int.ofNat 5) = (AV.b true = AV.b true) := by kernel_rfl
theorem n_20_6 : Gn (Int.ofNat 20) (Int.ofNat 6) = (AV.b true = AV.b true) := by kernel_rfl
theorem n_20_7 : Gn (Int.ofNat 20) (Int.ofNat 7) = (AV.b true = AV.b true) := by kernel_rfl
theorem n_20_8 : Gn (Int.ofNat 20) (Int.ofNat 8) = (AV.b true = AV.b true) := by kernel_rfl
theorem n_20_9 : Gn (Int.ofNat 20) (Int.ofNat 9) = (AV.b true = AV.b true) := by kernel_rfl
theorem n_20_10 : Gn (Int.ofNat 20) (Int.ofNat 10) = (AV.b true = AV.b true) := by kernel_rfl
theorem n_20_11 : Gn (Int.ofNat 20) (Int.ofNat 11) = (AV.b true = AV.b true) := by kernel_rfl
theorem n_20_12 : Gn (Int.ofNat 20) (Int.ofNat 12) = (AV.b true = AV.b true) := by kernel_rfl
theorem n_20_13 : Gn (Int.ofNat 20) (Int.ofNat 13) = (AV.b true = AV.b true) := by kernel_rfl
theorem n_20_14 : Gn (Int.ofNat 20) (Int.ofNat 14) = (AV.b true = AV.b true) := by kernel_rfl
theorem n_20_15 : Gn (Int.ofNat 20) (Int.ofNat 15) = (AV.b true = AV.b true) := by kernel_rfl
theorem n_20_16 : Gn (Int.ofNat 20) (Int.ofNat 16) = (AV.b true = AV.b true) := by kernel_rfl
theorem n_20_17 : Gn (Int.ofNat 20) (Int.ofNat 17) = (AV.b true = AV.b true) := by kernel_rfl
theorem n_20_18 : Gn (Int.ofNat 20) (Int.ofNat 18) = (AV.b true = AV.b true) := by kernel_rfl
theorem n_20_19 : Gn (Int.ofNat 20) (Int.ofNat 19) = (AV.b true = AV.b true) := by kernel_rfl
theorem n_20_20 : Gn (Int.ofNat 20) (Int.ofNat 20) = (AV.b true = AV.b true) := by kernel_rfl
theorem n_20_21 : Gn (Int.ofNat 20) (Int.ofNat 21) = (AV.b true = AV.b true) := by kernel_rfl
theorem n_20_22 : Gn (Int.ofNat 20) (Int.ofNat 22) = (AV.b true = AV.b true) := by kernel_rfl
theorem n_20_23 : Gn (Int.ofNat 20) (Int.ofNat 23) = (AV.b true = AV.b true) := by kernel_rfl
theorem n_20_24 : Gn (Int.ofNat 20) (Int.ofNat 24) = (AV.b true = AV.b true) := by kernel_rfl
theorem n_20_25 : Gn (Int.ofNat 20) (Int.ofNat 25) = (AV.b true = AV.b true) := by kernel_rfl
theorem n_20_26 : Gn (Int.ofNat 20) (Int.ofNat 26) = (AV.b true = AV.b true) := by kernel_rfl
theorem n_20_27 : Gn (Int.ofNat 20) (Int.ofNat 27) = (AV.b true = AV.b true) := by kernel_rfl
theorem n_20_28 : Gn (Int.ofNat 20) (Int.ofNat 28) = (AV.b true = AV.b true) := by kernel_rfl
theorem n_20_29 : Gn (Int.ofNat 20) (Int.ofNat 29) = (AV.b true = AV.b true) := by kernel_rfl
theorem n_20_30 : Gn (Int.ofNat 20) (Int.ofNat 30) = (AV.b true = AV.b true) := by kernel_rfl
theorem n_20_31 : Gn (Int.ofNat 20) (Int.ofNat 31) = (AV.b true = AV.b true) := by kernel_rfl
theorem n_20_32 : Gn (Int.ofNat 20) (Int.ofNat 32) = (AV.b true = AV.b true) := by kernel_rfl
theorem n_20_g (y : Nat) : Gn (Int.ofNat 20) (Int.ofNat (y + 33)) = (AV.b true = AV.b true) := by kernel_rfl
theorem m_20 (b : Int) : Gn (Int.ofNat 20) b := by
  rcases b with n | y
  · by_cases h : n < 33
    · have h : n = 0 ∨ n = 1 ∨ n = 2 ∨ n = 3 ∨ n = 4 ∨ n = 5 ∨ n = 6 ∨ n = 7 ∨ n = 8 ∨ n = 9 ∨ n = 10 ∨ n = 11 ∨ n = 12 ∨ n = 13 ∨ n = 14 ∨ n = 15 ∨ n = 16 ∨ n = 17 ∨ n = 18 ∨ n = 19 ∨ n = 20 ∨ n = 21 ∨ n = 22 ∨ n = 23 ∨ n = 24 ∨ n = 25 ∨ n = 26 ∨ n = 27 ∨ n = 28 ∨ n = 29 ∨ n = 30 ∨ n = 31 ∨ n = 32 := by omega
      rcases h with rfl | rfl | rfl | rfl | rfl | rfl | rfl | rfl | rfl | rfl | rfl | rfl | rfl | rfl | rfl | rfl | rfl | rfl | rfl | rfl | rfl | rfl | rfl | rfl | rfl | rfl | rfl | rfl | rfl | rfl | rfl | rfl | rfl
      · exact of (n_20_0)
      · exact of (n_20_1)
      · exact of (n_20_2)
      · exact of (n_20_3)
      · exact of (n_20_4)
      · exact of (n_20_5)
      · exact of (n_20_6)
      · exact of (n_20_7)
      · exact of (n_20_8)
      · exact of (n_20_9)
      · exact of (n_20_10)
      · exact of (n_20_11)
      · exact of (n_20_12)
      · exact of (n_20_13)
      · exact of (n_20_14)
      · exact of (n_20_15)
      · exact of (n_20_16)
      · exact of (n_20_17)
      · exact of (n_20_18)
      · exact of (n_20_19)
      · exact of (n_20_20)
      · exact of (n_20_21)
      · exact of (n_20_22)
      · exact of (n_20_23)
      · exact of (n_20_24)
      · exact of (n_20_25)
      · exact of (n_20_26)
      · exact of (n_20_27)
      · exact of (n_20_28)
      · exact of (n_20_29)
      · exact of (n_20_30)
      · exact of (n_20_31)
      · exact of (n_20_32)
    · obtain ⟨y, rfl⟩ : ∃ y, n = y + 33 := ⟨n - 33, by omega⟩
      exact of (n_20_g y)
  · exact of (n_20_n y)
theorem n_21_n (y : Nat) : Gn (Int.ofNat 21) (Int.negSucc y) = (AV.b true = AV.b true) := by kernel_rfl
theorem n_21_0 : Gn (Int.ofNat 21) (Int.ofNat 0) = (AV.b true = AV.b true) := by kernel_rfl
theorem n_21_1 : Gn (Int.ofNat 21) (Int.ofNat 1) = (AV.b true = AV.b true) := by kernel_rfl
theorem n_21_2 : Gn (Int.ofNat 21) (Int.ofNat 2) = (AV.b true = AV.b true) := by kernel_rfl
theorem n_21_3 : Gn (Int.ofNat 21) (Int.ofNat 3) = (AV.b true = AV.b true) := by kernel_rfl
theorem n_21_4 : Gn (Int.ofNat 21) (Int.ofNat 4) = (AV.b true = AV.b true) := by kernel_rfl
theorem n_21_5 : Gn (Int.ofNat 21) (Int.ofNat 5) = (AV.b true = AV.b true) := by kernel_rfl
theorem n_21_6 : Gn (Int.ofNat 21) (Int.ofNat 6) = (AV.b true = AV.b true) := by kernel_rfl
theorem n_21_7 : Gn (Int.ofNat 21) (Int.ofNat 7) = (AV.b true = AV.b true) := by kernel_rfl
theorem n_21_8 : Gn (Int.ofNat 21) (Int.ofNat 8) = (AV.b true = AV.b true) := by kernel_rfl
theorem n_21_9 : Gn (Int.ofNat 21) (Int.ofNat 9) = (AV.b true = AV.b true) := by kernel_rfl
theorem n_21_10 : Gn (Int.ofNat 21) (Int.ofNat 10) = (AV.b true = AV.b true) := by kernel_rfl
theorem n_21_11 : Gn (Int.ofNat 21) (Int.ofNat 11) = (AV.b true = AV.b true) := by kernel_rfl
theorem n_21_12 : Gn (Int.ofNat 21) (Int.ofNat 12) = (AV.b true = AV.b true) := by kernel_rfl
theorem n_21_13 : Gn (Int.ofNat 21) (Int.ofNat 13) = (AV.b true = AV.b true) := by kernel_rfl
theorem n_21_14 : Gn (Int.ofNat 21) (Int.ofNat 14) = (AV.b true = AV.b true) := by kernel_rfl
theorem n_21_15 : Gn (Int.ofNat 21) (Int.ofNat 15) = (AV.b true = AV.b true) := by kernel_rfl
theorem n_21_16 : Gn (Int.ofNat 21) (Int.ofNat 16) = (AV.b true = AV.b true) := by kernel_rfl
theorem n_21_17 : Gn (Int.ofNat 21) (Int.ofNat 17) = (AV.b true = AV.b true) := by kernel_rfl
theorem n_21_18 : Gn (Int.ofNat 21) (Int.ofNat 18) = (AV.b true = AV.b true) := by kernel_rfl
theorem n_21_19 : Gn (Int.ofNat 21) (Int.ofNat 19) = (AV.b true = AV.b true) := by kernel_rfl
theorem n_21_20 : Gn (Int.ofNat 21) (Int.ofNat 20) = (AV.b true = AV.b true) := by kernel_rfl
theorem n_21_21 : Gn (Int.ofNat 21) (Int.ofNat 21) = (AV.b true = AV.b true) := by kernel_rfl
theorem n_21_22 : Gn (Int.ofNat 21) (Int.ofNat 22) = (AV.b true = AV.b true) := by kernel_rfl
theorem n_21_23 : Gn (Int.ofNat 21) (Int.ofNat 23) = (AV.b true = AV.b true) := by kernel_rfl
theorem n_21_24 : Gn (Int.ofNat 21) (Int.ofNat 24) = (AV.b true = AV.b true) := by kernel_rfl
theorem n_21_25 : Gn (Int.ofNat 21) (Int.ofNat 25) = (AV.b true = AV.b true) := by kernel_rfl
theorem n_21_26 : Gn (Int.ofNat 21) (Int.ofNat 26) = (AV.b true = AV.b true) := by kernel_rfl
theorem n_21_27 : Gn (Int.ofNat 21) (Int.ofNat 27) = (AV.b true = AV.b true) := by kernel_rfl
theorem n_21_28 : Gn (Int.ofNat 21) (Int.ofNat 28) = (AV.b true = AV.b true) := by kernel_rfl
theorem n_21_29 : Gn (Int.ofNat 21) (Int.ofNat 29) = (AV.b true = AV.b true) := by kernel_rfl
theorem n_21_30 : Gn (Int.ofNat 21) (Int.ofNat 30) = (AV.b true = AV.b true) := by kernel_rfl
theorem n_21_31 : Gn (Int.ofNat 21) (Int.ofNat 31) = (AV.b true = AV.b true) := by kernel_rfl
theorem n_21_32 : Gn (Int.ofNat 21) (Int.ofNat 32) = (AV.b true = AV.b true) := by kernel_rfl
theorem n_21_g (y : Nat) : Gn (Int.ofNat 21) (Int.ofNat (y + 33)) = (AV.b true = AV.b true) := by kernel_rfl
theorem m_21 (b : Int) : Gn (Int.ofNat 21) b := by
  rcases b with n | y
  · by_cases h : n < 33
    · have h : n = 0 ∨ n = 1 ∨ n = 2 ∨ n = 3 ∨ n = 4 ∨ n = 5 ∨ n = 6 ∨ n = 7 ∨ n = 8 ∨ n = 9 ∨ n = 10 ∨ n = 11 ∨ n = 12 ∨ n = 13 ∨ n = 14 ∨ n = 15 ∨ n = 16 ∨ n = 17 ∨ n = 18 ∨ n = 19 ∨ n = 20 ∨ n = 21 ∨ n = 22 ∨ n = 23 ∨ n = 24 ∨ n = 25 ∨ n = 26 ∨ n = 27 ∨ n = 28 ∨ n = 29 ∨ n = 30 ∨ n = 31 ∨ n = 32 := by omega
      rcases h with rfl | rfl | rfl | rfl | rfl | rfl | rfl | rfl | rfl | rfl | rfl | rfl | rfl | rfl | rfl | rfl | rfl | rfl | rfl | rfl | rfl | rfl | rfl | rfl | rfl | rfl | rfl | rfl | rfl | rfl | rfl | rfl | rfl
      · exact of (n_21_0)
      · exact of (n_21_1)
      · exact of (n_21_2)
      · exact of (n_21_3)
      · exact of (n_21_4)
      · exact of (n_21_5)
      · exact of (n_21_6)
      · exact of (n_21_7)
      · exact of (n_21_8)
      · exact of (n_21_9)
      · exact of (n_21_10)
      · exact of (n_21_11)
      · exact of (n_21_12)
      · exact of (n_21_13)
      · exact of (n_21_14)
      · exact of (n_21_15)
      · exact of (n_21_16)
      · exact of (n_21_17)
      · exact of (n_21_18)
      · exact of (n_21_19)
      · exact of (n_21_20)
      · exact of (n_21_21)
      · exact of (n_21_22)
      · exact of (n_21_23)
      · exact of (n_21_24)
      · exact of (n_21_25)
      · exact of (n_21_26)
      · exact of (n_21_27)
      · exact of (n_21_28)
      · exact of (n_21_29)
      · exact of (n_21_30)
      · exact of (n_21_31)
      · exact of (n_21_32)
    · obtain ⟨y, rfl⟩ : ∃ y, n = y + 33 := ⟨n - 33, by omega⟩
      exact of (n_21_g y)
  · exact of (n_21_n y)
theorem n_22_n (y : Nat) : Gn (Int.ofNat 22) (Int.negSucc y) = (AV.b true = AV.b true) := by kernel_rfl
theorem n_22_0 : Gn (Int.ofNat 22) (Int.ofNat 0) = (AV.b true = AV.b true) := by kernel_rfl
theorem n_22_1 : Gn (Int.ofNat 22) (Int.ofNat 1) = (AV.b true = AV.b true) := by kernel_rfl
theorem n_22_2 : Gn (Int.ofNat 22) (Int.ofNat 2) = (AV.b true = AV.b true) := by kernel_rfl
theorem n_22_3 : Gn (Int.ofNat 22) (Int.ofNat 3) = (AV.b true = AV.b true) := by kernel_rfl
theorem n_22_4 : Gn (Int.ofNat 22) (Int.ofNat 4) = (AV.b true = AV.b true) := by kernel_rfl
theorem n_22_5 : Gn (Int.ofNat 22) (Int.ofNat 5) = (AV.b true = AV.b true) := by kernel_rfl
theorem n_22_6 : Gn (Int.ofNat 22) (Int.ofNat 6) = (AV.b true = AV.b true) := by kernel_rfl
theorem n_22_7 : Gn (Int.ofNat 22) (Int.ofNat 7) = (AV.b true = AV.b true) := by kernel_rfl
theorem n_22_8 : Gn (Int.ofNat 22) (Int.ofNat 8) = (AV.b true = AV.b true) := by kernel_rfl
theorem n_22_9 : Gn (Int.ofNat 22) (Int.ofNat 9) = (AV.b true = AV.b true) := by kernel_rfl
theorem n_22_10 : Gn (Int.ofNat 22) (Int.ofNat 10) = (AV.b true = AV.b true) := by kernel_rfl
theorem n_22_11 : Gn (Int.ofNat 22) (Int.ofNat 11) = (AV.b true = AV.b true) := by kernel_rfl
theorem n_22_12 : Gn (Int.ofNat 22) (Int.ofNat 12) = (AV.b true = AV.b true) := by kernel_rfl
theorem n_22_13 : Gn (Int.ofNat 22) (Int.ofNat 13) = (AV.b true = AV.b true) := by kernel_rfl
theorem n_22_14 : Gn (Int.ofNat 22) (Int.ofNat 14) = (AV.b true = AV.b true) := by kernel_rfl
theorem n_22_15 : Gn (Int.ofNat 22) (Int.ofNat 15) = (AV.b true = AV.b true) := by kernel_rfl
theorem n_22_16 : Gn (Int.ofNat 22) (Int.ofNat 16) = (AV.b true = AV.b true) := by kernel_rfl
theorem n_22_17 : Gn (Int.ofNat 22) (Int.ofNat 17) = (AV.b true = AV.b true) := by kernel_rfl
theorem n_22_18 : Gn (Int.ofNat 22) (Int.ofNat 18) = (AV.b true = AV.b true) := by kernel_rfl
theorem n_22_19 : Gn (Int.ofNat 22) (Int.ofNat 19) = (AV.b true = AV.b true) := by kernel_rfl
theorem n_22_20 : Gn (Int.ofNat 22) (Int.ofNat 20) = (AV.b true = AV.b true) := by kernel_rfl
theorem n_22_21 : Gn (Int.ofNat 22) (Int.ofNat 21) = (AV.b true = AV.b true) := by kernel_rfl
theorem n_22_22 : Gn (Int.ofNat 22) (Int.ofNat 22) = (AV.b true = AV.b true) := by kernel_rfl
theorem n_22_23 : Gn (Int.ofNat 22) (Int.ofNat 23) = (AV.b true = AV.b true) := by kernel_rfl
theorem n_22_24 : Gn (Int.ofNat 22) (Int.ofNat 24) = (AV.b true = AV.b true) := by kernel_rfl
theorem n_22_25 : Gn (Int.ofNat 22) (Int.ofNat 25) = (AV.b true = AV.b true) := by kernel_rfl
theorem n_22_26 : Gn (Int.ofNat 22) (Int.ofNat 26) = (AV.b true = AV.b true) := by kernel_rfl
theorem n_22_27 : Gn (Int.ofNat 22) (Int.ofNat 27) = (AV.b true = AV.b true) := by kernel_rfl
theorem n_22_28 : Gn (Int.ofNat 22) (Int.ofNat 28) = (AV.b true = AV.b true) := by kernel_rfl
theorem n_22_29 : Gn (Int.ofNat 22) (Int.ofNat 29) = (AV.b true = AV.b true) := by kernel_rfl
theorem n_22_30 : Gn (Int.ofNat 22) (Int.ofNat 30) = (AV.b true = AV.b true) := by kernel_rfl
theorem n_22_31 : Gn (Int.ofNat 22) (Int.ofNat 31) = (AV.b true = AV.b true) := by kernel_rfl
theorem n_22_32 : Gn (Int.ofNat 22) (Int.ofNat 32) = (AV.b true = AV.b true) := by kernel_rfl
theorem n_22_g (y : Nat) : Gn (Int.ofNat 22) (Int.ofNat (y + 33)) = (AV.b true = AV.b true) := by kernel_rfl
theorem m_22 (b : Int) : Gn (Int.ofNat 22) b := by
  rcases b with n | y
  · by_cases h : n < 33
    · have h : n = 0 ∨ n = 1 ∨ n = 2 ∨ n = 3 ∨ n = 4 ∨ n = 5 ∨ n = 6 ∨ n = 7 ∨ n = 8 ∨ n = 9 ∨ n = 10 ∨ n = 11 ∨ n = 12 ∨ n = 13 ∨ n = 14 ∨ n = 15 ∨ n = 16 ∨ n = 17 ∨ n = 18 ∨ n = 19 ∨ n = 20 ∨ n = 21 ∨ n = 22 ∨ n = 23 ∨ n = 24 ∨ n = 25 ∨ n = 26 ∨ n = 27 ∨ n = 28 ∨ n = 29 ∨ n = 30 ∨ n = 31 ∨ n = 32 := by omega
      rcases h with rfl | rfl | rfl | rfl | rfl | rfl | rfl | rfl | rfl | rfl | rfl | rfl | rfl | rfl | rfl | rfl | rfl | rfl | rfl | rfl | rfl | rfl | rfl | rfl | rfl | rfl | rfl | rfl | rfl | rfl | rfl | rfl | rfl
      · exact of (n_22_0)
      · exact of (n_22_1)
      · exact of (n_22_2)
      · exact of (n_22_3)
      · exact of (n_22_4)
      · exact of (n_22_5)
      · exact of (n_22_6)
      · exact of (n_22_7)
      · exact of (n_22_8)
      · exact of (n_22_9)
      · exact of (n_22_10)
      · exact of (n_22_11)
      · exact of (n_22_12)
      · exact of (n_22_13)
      · exact of (n_22_14)
      · exact of (n_22_15)
      · exact of (n_22_16)
      · exact of (n_22_17)
      · exact of (n_22_18)
      · exact of (n_22_19)
      · exact of (n_22_20)
      · exact of (n_22_21)
      · exact of (n_22_22)
      · exact of (n_22_23)
      · exact of (n_22_24)
      · exact of (n_22_25)
      · exact of (n_22_26)
      · exact of (n_22_27)
      · exact of (n_22_28)
      · exact of (n_22_29)
      · exact of (n_22_30)
      · exact of (n_22_31)
      · exact of (n_22_32)
    · obtain ⟨y, rfl⟩ : ∃ y, n = y + 33 := ⟨n - 33, by omega⟩
      exact of (n_22_g y)
  · exact of (n_22_n y)
theorem n_23_n (y : Nat) : Gn (Int.ofNat 23) (Int.negSucc y) = (AV.b true = AV.b true) := by kernel_rfl
theorem n_23_0 : Gn (Int.ofNat 23) (Int.ofNat 0) = (AV.b true = AV.b true) := by kernel_rfl
theorem n_23_1 : Gn (Int.ofNat 23) (Int.ofNat 1) = (AV.b true = AV.b true) := by kernel_rfl
theorem n_23_2 : Gn (Int.ofNat 23) (Int.ofNat 2) = (AV.b true = AV.b true) := by kernel_rfl
theorem n_23_3 : Gn (Int.ofNat 23) (Int.ofNat 3) = (AV.b true = AV.b true) := by kernel_rfl
theorem n_23_4 : Gn (Int.ofNat 23) (Int.ofNat 4) = (AV.b true = AV.b true) := by kernel_rfl
theorem n_23_5 : Gn (Int.ofNat 23) (Int.ofNat 5) = (AV.b true = AV.b true) := by kernel_rfl
theorem n_23_6 : Gn (Int.ofNat 23) (Int.ofNat 6) = (AV.b true = AV.b true) := by kernel_rfl
theorem n_23_7 : Gn (Int.ofNat 23) (Int.ofNat 7) = (AV.b true = AV.b true) := by kernel_rfl
theorem n_23_8 : Gn (Int.ofNat 23) (Int.ofNat 8) = (AV.b true = AV.b true) := by kernel_rfl
theorem n_23_9 : Gn (Int.ofNat 23) (Int.ofNat 9) = (AV.b true = AV.b true) := by kernel_rfl
theorem n_23_10 : Gn (Int.ofNat 23) (Int.ofNat 10) = (AV.b true = AV.b true) := by kernel_rfl
theorem n_23_11 : Gn (Int.ofNat 23) (Int.ofNat 11) = (AV.b true = AV.b true) := by kernel_rfl
theorem n_23_12 : Gn (Int.ofNat 23) (Int.ofNat 12) = (AV.b true = AV.b true) := by kernel_rfl
theorem n_23_13 : Gn (Int.ofNat 23) (Int.ofNat 13) = (AV.b true = AV.b true) := by kernel_rfl
theorem n_23_14 : Gn (Int.ofNat 23) (Int.ofNat 14) = (AV.b true = AV.b true) := by kernel_rfl
theorem n_23_15 : Gn (Int.ofNat 23) (Int.ofNat 15) = (AV.b true = AV.b true) := by kernel_rfl
theorem n_23_16 : Gn (Int.ofNat 23) (Int.ofNat 16) = (AV.b true = AV.b true) := by kernel_rfl
theorem n_23_17 : Gn (Int.ofNat 23) (Int.ofNat 17) = (AV.b true = AV.b true) := by kernel_rfl
theorem n_23_18 : Gn (Int.ofNat 23) (Int.ofNat 18) = (AV.b true = AV.b true) := by kernel_rfl
theorem n_23_19 : Gn (Int.ofNat 23) (Int.ofNat 19) = (AV.b true = AV.b true) := by kernel_rfl
theorem n_23_20 : Gn (Int.ofNat 23) (Int.ofNat 20) = (AV.b true = AV.b true) := by kernel_rfl
theorem n_23_21 : Gn (Int.ofNat 23) (Int.ofNat 21) = (AV.b true = AV.b true) := by kernel_rfl
theorem n_23_22 : Gn (Int.ofNat 23) (Int.ofNat 22) = (AV.b true = AV.b true) := by kernel_rfl
theorem n_23_23 : Gn (Int.ofNat 23) (Int.ofNat 23) = (AV.b true = AV.b true) := by kernel_rfl
theorem n_23_24 : Gn (Int.ofNat 23) (Int.ofNat 24) = (AV.b true = AV.b true) := by kernel_rfl
theorem n_23_25 : Gn (Int.ofNat 23) (Int.ofNat 25) = (AV.b true = AV.b true) := by kernel_rfl
theorem n_23_26 : Gn (Int.ofNat 23) (Int.ofNat 26) = (AV.b true = AV.b true) := by kernel_rfl
theorem n_23_27 : Gn (Int.ofNat 23) (Int.ofNat 27) = (AV.b true = AV.b true) := by kernel_rfl
theorem n_23_28 : Gn (Int.ofNat 23) (Int.ofNat 28) = (AV.b true = AV.b true) := by kernel_rfl
theorem n_23_29 : Gn (Int.ofNat 23) (Int.ofNat 29) = (AV.b true = AV.b true) := by kernel_rfl
theorem n_23_30 : Gn (Int.ofNat 23) (Int.ofNat 30) = (AV.b true = AV.b true) := by kernel_rfl
theorem n_23_31 : Gn (Int.ofNat 23) (Int.ofNat 31) = (AV.b true = AV.b true) := by kernel_rfl
theorem n_23_32 : Gn (Int.ofNat 23) (Int.ofNat 32) = (AV.b true = AV.b true) := by kernel_rfl
theorem n_23_g (y : Nat) : Gn (Int.ofNat 23) (Int.ofNat (y + 33)) = (AV.b true = AV.b true) := by kernel_rfl
theorem m_23 (b : Int) : Gn (Int.ofNat 23) b := by
  rcases b with n | y
  · by_cases h : n < 33
    · have h : n = 0 ∨ n = 1 ∨ n = 2 ∨ n = 3 ∨ n = 4 ∨ n = 5 ∨ n = 6 ∨ n = 7 ∨ n = 8 ∨ n = 9 ∨ n = 10 ∨ n = 11 ∨ n = 12 ∨ n = 13 ∨ n = 14 ∨ n = 15 ∨ n = 16 ∨ n = 17 ∨ n = 18 ∨ n = 19 ∨ n = 20 ∨ n = 21 ∨ n = 22 ∨ n = 23 ∨ n = 24 ∨ n = 25 ∨ n = 26 ∨ n = 27 ∨ n = 28 ∨ n = 29 ∨ n = 30 ∨ n = 31 ∨ n = 32 := by omega
      rcases h with rfl | rfl | rfl | rfl | rfl | rfl | rfl | rfl | rfl | rfl | rfl | rfl | rfl | rfl | rfl | rfl | rfl | rfl | rfl | rfl | rfl | rfl | rfl | rfl | rfl | rfl | rfl | rfl | rfl | rfl | rfl | rfl | rfl
      · exact of (n_23_0)
      · exact of (n_23_1)
      · exact of (n_23_2)
      · exact of (n_23_3)
      · exact of (n_23_4)
      · exact of (n_23_5)
      · exact of (n_23_6)
      · exact of (n_23_7)
      · exact of (n_23_8)
      · exact of (n_23_9)
      · exact of (n_23_10)
      · exact of (n_23_11)
      · exact of (n_23_12)
      · exact of (n_23_13)
      · exact of (n_23_14)
      · exact of (n_23_15)
      · exact of (n_23_16)
      · exact of (n_23_17)
      · exact of (n_23_18)
      · exact of (n_23_19)
      · exact of (n_23_20)
      · exact of (n_23_21)
      · exact of (n_23_22)
      · exact of (n_23_23)
      · exact of (n_23_24)
      · exact of (n_23_25)
      · exact of (n_23_26)
      · exact of (n_23_27)
      · exact of (n_23_28)
      · exact of (n_23_29)
      · exact of (n_23_30)
      · exact of (n_23_31)
      · exact of (n_23_32)
    · obtain ⟨y, rfl⟩ : ∃ y, n = y + 33 := ⟨n - 33, by omega⟩
      exact of (n_23_g y)
  · exact of (n_23_n y)
end
end Go.Proofs.YtkfcecaoaplfkaaDoor.T
