/- ProgNames: some of the first numbers, each second one: by the kernel. -/
import Derived.Test.YtkfcecaoaplfkaaDoorPn
set_option linter.unusedVariables false
set_option linter.unusedSimpArgs false
set_option maxRecDepth 100000
namespace Go.Proofs.YtkfcecaoaplfkaaDoor.T
open Go.AM
noncomputable section
theorem n_9_n (y : Nat) : Gn (Int.ofNat 9) (Int.negSucc y) = (AV.b true = AV.b true) := by kernel_rfl
theorem n_9_0 : Gn (Int.ofNat 9) (Int.ofNat 0) = (AV.b true = AV.b true) := by kernel_rfl
theorem n_9_1 : Gn (Int.ofNat 9) (Int.ofNat 1) = (AV.b true = AV.b true) := by kernel_rfl
theorem n_9_2 : Gn (Int.ofNat 9) (Int.ofNat 2) = (AV.b true = AV.b true) := by kernel_rfl
theorem n_9_3 : Gn (Int.ofNat 9) (Int.ofNat 3) = (AV.b true = AV.b true) := by kernel_rfl
theorem n_9_4 : Gn (Int.ofNat 9) (Int.ofNat 4) = (AV.b true = AV.b true) := by kernel_rfl
theorem n_9_5 : Gn (Int.ofNat 9) (Int.ofNat 5) = (AV.b true = AV.b true) := by kernel_rfl
theorem n_9_6 : Gn (Int.ofNat 9) (Int.ofNat 6) = (AV.b true = AV.b true) := by kernel_rfl
theorem n_9_7 : Gn (Int.ofNat 9) (Int.ofNat 7) = (AV.b true = AV.b true) := by kernel_rfl
theorem n_9_8 : Gn (Int.ofNat 9) (Int.ofNat 8) = (AV.b true = AV.b true) := by kernel_rfl
theorem n_9_9 : Gn (Int.ofNat 9) (Int.ofNat 9) = (AV.b true = AV.b true) := by kernel_rfl
theorem n_9_10 : Gn (Int.ofNat 9) (Int.ofNat 10) = (AV.b true = AV.b true) := by kernel_rfl
theorem n_9_11 : Gn (Int.ofNat 9) (Int.ofNat 11) = (AV.b true = AV.b true) := by kernel_rfl
theorem n_9_12 : Gn (Int.ofNat 9) (Int.ofNat 12) = (AV.b true = AV.b true) := by kernel_rfl
theorem n_9_13 : Gn (Int.ofNat 9) (Int.ofNat 13) = (AV.b true = AV.b true) := by kernel_rfl
theorem n_9_14 : Gn (Int.ofNat 9) (Int.ofNat 14) = (AV.b true = AV.b true) := by kernel_rfl
theorem n_9_15 : Gn (Int.ofNat 9) (Int.ofNat 15) = (AV.b true = AV.b true) := by kernel_rfl
theorem n_9_16 : Gn (Int.ofNat 9) (Int.ofNat 16) = (AV.b true = AV.b true) := by kernel_rfl
theorem n_9_17 : Gn (Int.ofNat 9) (Int.ofNat 17) = (AV.b true = AV.b true) := by kernel_rfl
theorem n_9_18 : Gn (Int.ofNat 9) (Int.ofNat 18) = (AV.b true = AV.b true) := by kernel_rfl
theorem n_9_19 : Gn (Int.ofNat 9) (Int.ofNat 19) = (AV.b true = AV.b true) := by kernel_rfl
theorem n_9_20 : Gn (Int.ofNat 9) (Int.ofNat 20) = (AV.b true = AV.b true) := by kernel_rfl
theorem n_9_21 : Gn (Int.ofNat 9) (Int.ofNat 21) = (AV.b true = AV.b true) := by kernel_rfl
theorem n_9_22 : Gn (Int.ofNat 9) (Int.ofNat 22) = (AV.b true = AV.b true) := by kernel_rfl
theorem n_9_23 : Gn (Int.ofNat 9) (Int.ofNat 23) = (AV.b true = AV.b true) := by kernel_rfl
theorem n_9_24 : Gn (Int.ofNat 9) (Int.ofNat 24) = (AV.b true = AV.b true) := by kernel_rfl
theorem n_9_25 : Gn (Int.ofNat 9) (Int.ofNat 25) = (AV.b true = AV.b true) := by kernel_rfl
theorem n_9_26 : Gn (Int.ofNat 9) (Int.ofNat 26) = (AV.b true = AV.b true) := by kernel_rfl
theorem n_9_27 : Gn (Int.ofNat 9) (Int.ofNat 27) = (AV.b true = AV.b true) := by kernel_rfl
theorem n_9_28 : Gn (Int.ofNat 9) (Int.ofNat 28) = (AV.b true = AV.b true) := by kernel_rfl
theorem n_9_29 : Gn (Int.ofNat 9) (Int.ofNat 29) = (AV.b true = AV.b true) := by kernel_rfl
theorem n_9_30 : Gn (Int.ofNat 9) (Int.ofNat 30) = (AV.b true = AV.b true) := by kernel_rfl
theorem n_9_31 : Gn (Int.ofNat 9) (Int.ofNat 31) = (AV.b true = AV.b true) := by kernel_rfl
theorem n_9_32 : Gn (Int.ofNat 9) (Int.ofNat 32) = (AV.b true = AV.b true) := by kernel_rfl
theorem n_9_g (y : Nat) : Gn (Int.ofNat 9) (Int.ofNat (y + 33)) = (AV.b true = AV.b true) := by kernel_rfl
theorem m_9 (b : Int) : Gn (Int.ofNat 9) b := by
  rcases b with n | y
  · by_cases h : n < 33
    · have h : n = 0 ∨ n = 1 ∨ n = 2 ∨ n = 3 ∨ n = 4 ∨ n = 5 ∨ n = 6 ∨ n = 7 ∨ n = 8 ∨ n = 9 ∨ n = 10 ∨ n = 11 ∨ n = 12 ∨ n = 13 ∨ n = 14 ∨ n = 15 ∨ n = 16 ∨ n = 17 ∨ n = 18 ∨ n = 19 ∨ n = 20 ∨ n = 21 ∨ n = 22 ∨ n = 23 ∨ n = 24 ∨ n = 25 ∨ n = 26 ∨ n = 27 ∨ n = 28 ∨ n = 29 ∨ n = 30 ∨ n = 31 ∨ n = 32 := by omega
      rcases h with rfl | rfl | rfl | rfl | rfl | rfl | rfl | rfl | rfl | rfl | rfl | rfl | rfl | rfl | rfl | rfl | rfl | rfl | rfl | rfl | rfl | rfl | rfl | rfl | rfl | rfl | rfl | rfl | rfl | rfl | rfl | rfl | rfl
      · exact of (n_9_0)
      · exact of (n_9_1)
      · exact of (n_9_2)
      · exact of (n_9_3)
      · exact of (n_9_4)
      · exact of (n_9_5)
      · exact of (n_9_6)
      · exact of (n_9_7)
      · exact of (n_9_8)
      · exact of (n_9_9)
      · exact of (n_9_10)
      · exact of (n_9_11)
      · exact of (n_9_12)
      · exact of (n_9_13)
      · exact of (n_9_14)
      · exact of (n_9_15)
      · exact of (n_9_16)
      · exact of (n_9_17)
      · exact of (n_9_18)
      · exact of (n_9_19)
      · exact of (n_9_20)
      · exact of (n_9_21)
      · exact of (n_9_22)
      · exact of (n_9_23)
      · exact of (n_9_24)
      · exact of (n_9_25)
      · exact of (n_9_26)
      · exact of (n_9_27)
      · exact of (n_9_28)
      · exact of (n_9_29)
      · exact of (n_9_30)
      · exact of (n_9_31)
      · exact of (n_9_32)
    · obtain ⟨y, rfl⟩ : ∃ y, n = y + 33 := ⟨n - 33, by omega⟩
      exact of (n_9_g y)
  · exact of (n_9_n y)
theorem n_10_n (y : Nat) : Gn (Int.ofNat 10) (Int.negSucc y) = (AV.b true = AV.b true) := by kernel_rfl
theorem n_10_0 : Gn (Int.ofNat 10) (Int.ofNat 0) = (AV.b true = AV.b true) := by kernel_rfl
theorem n_10_1 : Gn (Int.ofNat 10) (Int.ofNat 1) = (AV.b true = AV.b true) := by kernel_rfl
theorem n_10_2 : Gn (Int.ofNat 10) (Int.ofNat 2) = (AV.b true = AV.b true) := by kernel_rfl
theorem n_10_3 : Gn (Int.ofNat 10) (Int.ofNat 3) = (AV.b true = AV.b true) := by kernel_rfl
theorem n_10_4 : Gn (Int.ofNat 10) (Int.ofNat 4) = (AV.b true = AV.b true) := by kernel_rfl
theorem n_10_5 : Gn (Int.ofNat 10) (Int.ofNat 5) = (AV.b true = AV.b true) := by kernel_rfl
theorem n_10_6 : Gn (Int.ofNat 10) (Int.ofNat 6) = (AV.b true = AV.b true) := by kernel_rfl
theorem n_10_7 : Gn (Int.ofNat 10) (Int.ofNat 7) = (AV.b true = AV.b true) := by kernel_rfl
theorem n_10_8 : Gn (Int.ofNat 10) (Int.ofNat 8) = (AV.b true = AV.b true) := by kernel_rfl
theorem n_10_9 : Gn (Int.ofNat 10) (Int.ofNat 9) = (AV.b true = AV.b true) := by kernel_rfl
theorem n_10_10 : Gn (Int.ofNat 10) (Int.ofNat 10) = (AV.b true = AV.b true) := by kernel_rfl
theorem n_10_11 : Gn (Int.ofNat 10) (Int.ofNat 11) = (AV.b true = AV.b true) := by kernel_rfl
theorem n_10_12 : Gn (Int.ofNat 10) (Int.ofNat 12) = (AV.b true = AV.b true) := by kernel_rfl
theorem n_10_13 : Gn (Int.ofNat 10) (Int.ofNat 13) = (AV.b true = AV.b true) := by kernel_rfl
theorem n_10_14 : Gn (Int.ofNat 10) (Int.ofNat 14) = (AV.b true = AV.b true) := by kernel_rfl
theorem n_10_15 : Gn (Int.ofNat 10) (Int.ofNat 15) = (AV.b true = AV.b true) := by kernel_rfl
theorem n_10_16 : Gn (Int.ofNat 10) (Int.ofNat 16) = (AV.b true = AV.b true) := by kernel_rfl
theorem n_10_17 : Gn (Int.ofNat 10) (Int.ofNat 17) = (AV.b true = AV.b true) := by kernel_rfl
theorem n_10_18 : Gn (Int.ofNat 10) (Int.ofNat 18) = (AV.b true = AV.b true) := by kernel_rfl
theorem n_10_19 : Gn (Int.ofNat 10) (Int.ofNat 19) = (AV.b true = AV.b true) := by kernel_rfl
theorem n_10_20 : Gn (Int.ofNat 10) (Int.ofNat 20) = (AV.b true = AV.b true) := by kernel_rfl
theorem n_10_21 : Gn (Int.ofNat 10) (Int.ofNat 21) = (AV.b true = AV.b true) := by kernel_rfl
theorem n_10_22 : Gn (Int.ofNat 10) (Int.ofNat 22) = (AV.b true = AV.b true) := by kernel_rfl
theorem n_10_23 : Gn (Int.ofNat 10) (Int.ofNat 23) = (AV.b true = AV.b true) := by kernel_rfl
theorem n_10_24 : Gn (Int.ofNat 10) (Int.ofNat 24) = (AV.b true = AV.b true) := by kernel_rfl
theorem n_10_25 : Gn (Int.ofNat 10) (Int.ofNat 25) = (AV.b true = AV.b true) := by kernel_rfl
theorem n_10_26 : Gn (Int.ofNat 10) (Int.ofNat 26) = (AV.b true = AV.b true) := by kernel_rfl
theorem n_10_27 : Gn (Int.ofNat 10) (Int.ofNat 27) = (AV.b true = AV.b true) := by kernel_rfl
theorem n_10_28 : Gn (Int.ofNat 10) (Int.ofNat 28) = (AV.b true = AV.b true) := by kernel_rfl
theorem n_10_29 : Gn (Int.ofNat 10) (Int.ofNat 29) = (AV.b true = AV.b true) := by kernel_rfl
theorem n_10_30 : Gn (Int.ofNat 10) (Int.ofNat 30) = (AV.b true = AV.b true) := by kernel_rfl
theorem n_10_31 : Gn (Int.ofNat 10) (Int.ofNat 31) = (AV.b true = AV.b true) := by kernel_rfl
theorem n_10_32 : Gn (Int.ofNat 10) (Int.ofNat 32) = (AV.b true = AV.b true) := by kernel_rfl
theorem n_10_g (y : Nat) : Gn (Int.ofNat 10) (Int.ofNat (y + 33)) = (AV.b true = AV.b true) := by kernel_rfl
theorem m_10 (b : Int) : Gn (Int.ofNat 10) b := by
  rcases b with n | y
  · by_cases h : n < 33
    · have h : n = 0 ∨ n = 1 ∨ n = 2 ∨ n = 3 ∨ n = 4 ∨ n = 5 ∨ n = 6 ∨ n = 7 ∨ n = 8 ∨ n = 9 ∨ n = 10 ∨ n = 11 ∨ n = 12 ∨ n = 13 ∨ n = 14 ∨ n = 15 ∨ n = 16 ∨ n = 17 ∨ n = 18 ∨ n = 19 ∨ n = 20 ∨ n = 21 ∨ n = 22 ∨ n = 23 ∨ n = 24 ∨ n = 25 ∨ n = 26 ∨ n = 27 ∨ n = 28 ∨ n = 29 ∨ n = 30 ∨ n = 31 ∨ n = 32 := by omega
      rcases h with rfl | rfl | rfl | rfl | rfl | rfl | rfl | rfl | rfl | rfl | rfl | rfl | rfl | rfl | rfl | rfl | rfl | rfl | rfl | rfl | rfl | rfl | rfl | rfl | rfl | rfl | rfl | rfl | rfl | rfl | rfl | rfl | rfl
      · exact of (n_10_0)
      · exact of (n_10_1)
      · exact of (n_10_2)
      · exact of (n_10_3)
      · exact of (n_10_4)
      · exact of (n_10_5)
      · exact of (n_10_6)
      · exact of (n_10_7)
      · exact of (n_10_8)
      · exact of (n_10_9)
      · exact of (n_10_10)
      · exact of (n_10_11)
      · exact of (n_10_12)
      · exact of (n_10_13)
      · exact of (n_10_14)
      · exact of (n_10_15)
      · exact of (n_10_16)
      · exact of (n_10_17)
      · exact of (n_10_18)
      · exact of (n_10_19)
      · exact of (n_10_20)
      · exact of (n_10_21)
      · exact of (n_10_22)
      · exact of (n_10_23)
      · exact of (n_10_24)
      · exact of (n_10_25)
      · exact of (n_10_26)
      · exact of (n_10_27)
      · exact of (n_10_28)
      · exact of (n_10_29)
      · exact of (n_10_30)
      · exact of (n_10_31)
      · exact of (n_10_32)
    · obtain ⟨y, rfl⟩ : ∃ y, n = y + 33 := ⟨n - 33, by omega⟩
      exact of (n_10_g y)
  · exact of (n_10_n y)
theorem n_11_n (y : Nat) : Gn (Int.ofNat 11) (Int.negSucc y) = (AV.b true = AV.b true) := by kernel_rfl
theorem n_11_0 : Gn (Int.ofNat 11) (Int.ofNat 0) = (AV.b true = AV.b true) := by kernel_rfl
theorem n_11_1 : Gn (Int.ofNat 11) (Int.ofNat 1) = (AV.b true = AV.b true) := by kernel_rfl
theorem n_11_2 : Gn (Int.ofNat 11) (Int.ofNat 2) = (AV.b true = AV.b true) := by kernel_rfl
theorem n_11_3 : Gn (Int.ofNat 11) (Int.ofNat 3) = (AV.b true = AV.b true) := by kernel_rfl
theorem n_11_4 : Gn (Int.ofNat 11) (Int.ofNat 4) = (AV.b true = AV.b true) := by kernel_rfl
theorem n_11_5 : Gn (Int.ofNat 11) (Int.ofNat 5) = (AV.b true = AV.b true) := by kernel_rfl
theorem n_11_6 : Gn (Int.ofNat 11) (Int.ofNat 6) = (AV.b true = AV.b true) := by kernel_rfl
theorem n_11_7 : Gn (Int.ofNat 11) (Int.ofNat 7) = (AV.b true = AV.b true) := by kernel_rfl
theorem n_11_8 : Gn (Int.ofNat 11) (Int.ofNat 8) = (AV.b true = AV.b true) := by kernel_rfl
theorem n_11_9 : Gn (Int.ofNat 11) (Int.ofNat 9) = (AV.b true = AV.b true) := by kernel_rfl
theorem n_11_10 : Gn (Int.ofNat 11) (Int.ofNat 10) = (AV.b true = AV.b true) := by kernel_rfl
theorem n_11_11 : Gn (Int.ofNat 11) (Int.ofNat 11) = (AV.b true = AV.b true) := by kernel_rfl
theorem n_11_12 : Gn (Int.ofNat 11) (Int.ofNat 12) = (AV.b true = AV.b true) := by kernel_rfl
theorem n_11_13 : Gn (Int.ofNat 11) (Int.ofNat 13) = (AV.b true = AV.b true) := by kernel_rfl
theorem n_11_14 : Gn (Int.ofNat 11) (Int.ofNat 14) = (AV.b true = AV.b true) := by kernel_rfl
theorem n_11_15 : Gn (Int.ofNat 11) (Int.ofNat 15) = (AV.b true = AV.b true) := by kernel_rfl
theorem n_11_16 : Gn (Int.ofNat 11) (Int.ofNat 16) = (AV.b true = AV.b true) := by kernel_rfl
theorem n_11_17 : Gn (Int.ofNat 11) (Int.ofNat 17) = (AV.b true = AV.b true) := by kernel_rfl
theorem n_11_18 : Gn (Int.ofNat 11) (Int.ofNat 18) = (AV.b true = AV.b true) := by kernel_rfl
theorem n_11_19 : Gn (Int.ofNat 11) (Int.ofNat 19) = (AV.b true = AV.b true) := by kernel_rfl
theorem n_11_20 : Gn (Int.ofNat 11) (Int.ofNat 20) = (AV.b true = AV.b true) := by kernel_rfl
theorem n_11_21 : Gn (Int.ofNat 11) (Int.ofNat 21) = (AV.b true = AV.b true) := by kernel_rfl
theorem n_11_22 : Gn (Int.ofNat 11) (Int.ofNat 22) = (AV.b true = AV.b true) := by kernel_rfl
theorem n_11_23 : Gn (Int.ofNat 11) (Int.ofNat 23) = (AV.b true = AV.b true) := by kernel_rfl
theorem n_11_24 : Gn (Int.ofNat 11) (Int.ofNat 24) = (AV.b true = AV.b true) := by kernel_rfl
theorem n_11_25 : Gn (Int.ofNat 11) (Int.ofNat 25) = (AV.b true = AV.b true) := by kernel_rfl
theorem n_11_26 : Gn (Int.ofNat 11) (Int.ofNat 26) = (AV.b true = AV.b true) := by kernel_rfl
theorem n_11_27 : Gn (Int.ofNat 11) (Int.ofNat 27) = (AV.b true = AV.b true) := by kernel_rfl
theorem n_11_28 : Gn (Int.ofNat 11) (Int.ofNat 28) = (AV.b true = AV.b true) := by kernel_rfl
theorem n_11_29 : Gn (Int.ofNat 11) (Int.ofNat 29) = (AV.b true = AV.b true) := by kernel_rfl
theorem n_11_30 : Gn (Int.ofNat 11) (Int.ofNat 30) = (AV.b true = AV.b true) := by kernel_rfl
theorem n_11_31 : Gn (Int.ofNat 11) (Int.ofNat 31) = (AV.b true = AV.b true) := by kernel_rfl
theorem n_11_32 : Gn (Int.ofNat 11) (Int.ofNat 32) = (AV.b true = AV.b true) := by kernel_rfl
theorem n_11_g (y : Nat) : Gn (Int.ofNat 11) (Int.ofNat (y + 33)) = (AV.b true = AV.b true) := by kernel_rfl
theorem m_11 (b : Int) : Gn (Int.ofNat 11) b := by
  rcases b with n | y
  · by_cases h : n < 33
    · have h : n = 0 ∨ n = 1 ∨ n = 2 ∨ n = 3 ∨ n = 4 ∨ n = 5 ∨ n = 6 ∨ n = 7 ∨ n = 8 ∨ n = 9 ∨ n = 10 ∨ n = 11 ∨ n = 12 ∨ n = 13 ∨ n = 14 ∨ n = 15 ∨ n = 16 ∨ n = 17 ∨ n = 18 ∨ n = 19 ∨ n = 20 ∨ n = 21 ∨ n = 22 ∨ n = 23 ∨ n = 24 ∨ n = 25 ∨ n = 26 ∨ n = 27 ∨ n = 28 ∨ n = 29 ∨ n = 30 ∨ n = 31 ∨ n = 32 := by omega
      rcases h with rfl | rfl | rfl | rfl | rfl | rfl | rfl | rfl | rfl | rfl | rfl | rfl | rfl | rfl | rfl | rfl | rfl | rfl | rfl | rfl | rfl | rfl | rfl | rfl | rfl | rfl | rfl | rfl | rfl | rfl | rfl | rfl | rfl
      · exact of (n_11_0)
      · exact of (n_11_1)
      · exact of (n_11_2)
      · exact of (n_11_3)
      · exact of (n_11_4)
      · exact of (n_11_5)
      · exact of (n_11_6)
      · exact of (n_11_7)
      · exact of (n_11_8)
      · exact of (n_11_9)
      · exact of (n_11_10)
      · exact of (n_11_11)
      · exact of (n_11_12)
      · exact of (n_11_13)
      · exact of (n_11_14)
      · exact of (n_11_15)
      · exact of (n_11_16)
      · exact of (n_11_17)
      · exact of (n_11_18)
      · exact of (n_11_19)
      · exact of (n_11_20)
      · exact of (n_11_21)
      · exact of (n_11_22)
      · exact of (n_11_23)
      · exact of (n_11_24)
      · exact of (n_11_25)
      · exact of (n_11_26)
      · exact of (n_11_27)
      · exact of (n_11_28)
      · exact of (n_11_29)
      · exact of (n_11_30)
      · exact of (n_11_31)
      · exact of (n_11_32)
    · obtain ⟨y, rfl⟩ : ∃ y, n = y + 33 := ⟨n - 33, by omega⟩
      exact of (n_11_g y)
  · exact of (n_11_n y)
theorem n_12_n (y : Nat) : Gn (Int.ofNat 12) (Int.negSucc y) = (AV.b true = AV.b true) := by kernel_rfl
theorem n_12_0 : Gn (Int.ofNat 12) (Int.ofNat 0) = (AV.b true = AV.b true) := by kernel_rfl
theorem n_12_1 : Gn (Int.ofNat 12) (Int.ofNat 1) = (AV.b true = AV.b true) := by kernel_rfl
theorem n_12_2 : Gn (Int.ofNat 12) (Int.ofNat 2) = (AV.b true = AV.b true) := by kernel_rfl
theorem n_12_3 : Gn (Int.ofNat 12) (Int.ofNat 3) = (AV.b true = AV.b true) := by kernel_rfl
theorem n_12_4 : Gn (Int.ofNat 12) (Int.ofNat 4) = (AV.b true = AV.b true) := by kernel_rfl
theorem n_12_5 : Gn (Int.ofNat 12) (Int.ofNat 5) = (AV.b true = AV.b true) := by kernel_rfl
theorem n_12_6 : Gn (Int.ofNat 12) (Int.ofNat 6) = (AV.b true = AV.b true) := by kernel_rfl
theorem n_12_7 : Gn (Int.ofNat 12) (Int.ofNat 7) = (AV.b true = AV.b true) := by kernel_rfl
theorem n_12_8 : Gn (Int.ofNat 12) (Int.ofNat 8) = (AV.b true = AV.b true) := by kernel_rfl
theorem n_12_9 : Gn (Int.ofNat 12) (Int.ofNat 9) = (AV.b true = AV.b true) := by kernel_rfl
theorem n_12_10 : Gn (Int.ofNat 12) (Int.ofNat 10) = (AV.b true = AV.b true) := by kernel_rfl
theorem n_12_11 : Gn (Int.ofNat 12) (Int.ofNat 11) = (AV.b true = AV.b true) := by kernel_rfl
theorem n_12_12 : Gn (Int.ofNat 12) (Int.ofNat 12) = (AV.b true = AV.b true) := by kernel_rfl
theorem n_12_13 : Gn (Int.ofNat 12) (Int.ofNat 13) = (AV.b true = AV.b true) := by kernel_rfl
theorem n_12_14 : Gn (Int.ofNat 12) (Int.ofNat 14) = (AV.b true = AV.b true) := by kernel_rfl
theorem n_12_15 : Gn (Int.ofNat 12) (Int.ofNat 15) = (AV.b true = AV.b true) := by kernel_rfl
theorem n_12_16 : Gn (Int.ofNat 12) (Int.ofNat 16) = (AV.b true = AV.b true) := by kernel_rfl
theorem n_12_17 : Gn (Int.ofNat 12) (Int.ofNat 17) = (AV.b true = AV.b true) := by kernel_rfl
theorem n_12_18 : Gn (Int.ofNat 12) (Int.ofNat 18) = (AV.b true = AV.b true) := by kernel_rfl
theorem n_12_19 : Gn (Int.ofNat 12) (Int.ofNat 19) = (AV.b true = AV.b true) := by kernel_rfl
theorem n_12_20 : Gn (Int.ofNat 12) (Int.ofNat 20) = (AV.b true = AV.b true) := by kernel_rfl
theorem n_12_21 : Gn (Int.ofNat 12) (Int.ofNat 21) = (AV.b true = AV.b true) := by kernel_rfl
theorem n_12_22 : Gn (Int.ofNat 12) (Int.ofNat 22) = (AV.b true = AV.b true) := by kernel_rfl
theorem n_12_23 : Gn (Int.ofNat 12) (Int.ofNat 23) = (AV.b true = AV.b true) := by kernel_rfl
theorem n_12_24 : Gn (Int.ofNat 12) (Int.ofNat 24) = (AV.b true = AV.b true) := by kernel_rfl
theorem n_12_25 : Gn (Int.ofNat 12) (Int.ofNat 25) = (AV.b true = AV.b true) := by kernel_rfl
theorem n_12_26 : Gn (Int.ofNat 12) (Int.ofNat 26) = (AV.b true = AV.b true) := by kernel_rfl
theorem n_12_27 : Gn (Int.ofNat 12) (Int.ofNat 27) = (AV.b true = AV.b true) := by kernel_rfl
theorem n_12_28 : Gn (Int.ofNat 12) (Int.ofNat 28) = (AV.b true = AV.b true) := by kernel_rfl
theorem n_12_29 : Gn (Int.ofNat 12) (Int.ofNat 29) = (AV.b true = AV.b true) := by kernel_rfl
theorem n_12_30 : Gn (Int.ofNat 12) (Int.ofNat 30) = (AV.b true = AV.b true) := by kernel_rfl
theorem n_12_31 : Gn (Int.ofNat 12) (Int.ofNat 31) = (AV.b true = AV.b true) := by kernel_rfl
theorem n_12_32 : Gn (Int.ofNat 12) (Int.ofNat 32) = (AV.b true = AV.b true) := by kernel_rfl
theorem n_12_g (y : Nat) : Gn (Int.ofNat 12) (Int.ofNat (y + 33)) = (AV.b true = AV.b true) := by kernel_rfl
theorem m_12 (b : Int) : Gn (Int.ofNat 12) b := by
  rcases b with n | y
  · by_cases h : n < 33
    · have h : n = 0 ∨ n = 1 ∨ n = 2 ∨ n = 3 ∨ n = 4 ∨ n = 5 ∨ n = 6 ∨ n = 7 ∨ n = 8 ∨ n = 9 ∨ n = 10 ∨ n = 11 ∨ n = 12 ∨ n = 13 ∨ n = 14 ∨ n = 15 ∨ n = 16 ∨ n = 17 ∨ n = 18 ∨ n = 19 ∨ n = 20 ∨ n = 21 ∨ n = 22 ∨ n = 23 ∨ n = 24 ∨ n = 25 ∨ n = 26 ∨ n = 27 ∨ n = 28 ∨ n = 29 ∨ n = 30 ∨ n = 31 ∨ n = 32 := by omega
      rcases h with rfl | rfl | rfl | rfl | rfl | rfl | rfl | rfl | rfl | rfl | rfl | rfl | rfl | rfl | rfl | rfl | rfl | rfl | rfl | rfl | rfl | rfl | rfl | rfl | rfl | rfl | rfl | rfl | rfl | rfl | rfl | rfl | rfl
      · exact of (n_12_0)
      · exact of (n_12_1)
      · exact of (n_12_2)
      · exact of (n_12_3)
      · exact of (n_12_4)
      · exact of (n_12_5)
      · exact of (n_12_6)
      · exact of (n_12_7)
      · exact of (n_12_8)
      · exact of (n_12_9)
      · exact of (n_12_10)
      · exact of (n_12_11)
      · exact of (n_12_12)
      · exact of (n_12_13)
      · exact of (n_12_14)
      · exact of (n_12_15)
      · exact of (n_12_16)
      · exact of (n_12_17)
      · exact of (n_12_18)
      · exact of (n_12_19)
      · exact of (n_12_20)
      · exact of (n_12_21)
      · exact of (n_12_22)
      · exact of (n_12_23)
      · exact of (n_12_24)
      · exact of (n_12_25)
      · exact of (n_12_26)
      · exact of (n_12_27)
      · exact of (n_12_28)
      · exact of (n_12_29)
      · exact of (n_12_30)
      · exact of (n_12_31)
      · exact of (n_12_32)
    · obtain ⟨y, rfl⟩ : ∃ y, n = y + 33 := ⟨n - 33, by omega⟩
      exact of (n_12_g y)
  · exact of (n_12_n y)
theorem n_13_n (y : Nat) : Gn (Int.ofNat 13) (Int.negSucc y) = (AV.b true = AV.b true) := by kernel_rfl
theorem n_13_0 : Gn (Int.ofNat 13) (Int.ofNat 0) = (AV.b true = AV.b true) := by kernel_rfl
theorem n_13_1 : Gn (Int.ofNat 13) (Int.ofNat 1) = (AV.b true = AV.b true) := by kernel_rfl
theorem n_13_2 : Gn (Int.ofNat 13) (Int.ofNat 2) = (AV.b true = AV.b true) := by kernel_rfl
theorem n_13_3 : Gn (Int.ofNat 13) (Int.ofNat 3) = (AV.b true = AV.b true) := by kernel_rfl
theorem n_13_4 : Gn (Int.ofNat 13) (Int.ofNat 4) = (AV.b true = AV.b true) := by kernel_rfl
theorem n_13_5 : Gn (Int.ofNat 13) (Int.ofNat 5) = (AV.b true = AV.b true) := by kernel_rfl
theorem n_13_6 : Gn (Int.ofNat 13) (Int.ofNat 6) = (AV.b true = AV.b true) := by kernel_rfl
theorem n_13_7 : Gn (Int.ofNat 13) (Int.ofNat 7) = (AV.b true = AV.b true) := by kernel_rfl
theorem n_13_8 : Gn (Int.ofNat 13) (Int.ofNat 8) = (AV.b true = AV.b true) := by kernel_rfl
theorem n_13_9 : Gn (Int.ofNat 13) (Int.ofNat 9) = (AV.b true = AV.b true) := by kernel_rfl
theorem n_13_10 : Gn (Int.ofNat 13) (Int.ofNat 10) = (AV.b true = AV.b true) := by kernel_rfl
theorem n_13_11 : Gn (Int.ofNat 13) (Int.ofNat 11) = (AV.b true = AV.b true) := by kernel_rfl
theorem n_13_12 : Gn (Int.ofNat 13) (Int.ofNat 12) = (AV.b true = AV.b true) := by kernel_rfl
theorem n_13_13 : Gn (Int.ofNat 13) (Int.ofNat 13) = (AV.b true = AV.b true) := by kernel_rfl
theorem n_13_14 : Gn (Int.ofNat 13) (Int.ofNat 14) = (AV.b true = AV.b true) := by kernel_rfl
theorem n_13_15 : Gn (Int.ofNat 13) (Int.ofNat 15) = (AV.b true = AV.b true) := by kernel_rfl
theorem n_13_16 : Gn (Int.ofNat 13) (Int.ofNat 16) = (AV.b true = AV.b true) := by kernel_rfl
theorem n_13_17 : Gn (Int.ofNat 13) (Int.ofNat 17) = (AV.b true = AV.b true) := by kernel_rfl
theorem n_13_18 : Gn (Int.ofNat 13) (Int.ofNat 18) = (AV.b true = AV.b true) := by kernel_rfl
theorem n_13_19 : Gn (Int.ofNat 13) (Int.ofNat 19) = (AV.b true = AV.b true) := by kernel_rfl
theorem n_13_20 : Gn (Int.ofNat 13) (Int.ofNat 20) = (AV.b true = AV.b true) := by kernel_rfl
theorem n_13_21 : Gn (Int.ofNat 13) (Int.ofNat 21) = (AV.b true = AV.b true) := by kernel_rfl
theorem n_13_22 : Gn (Int.ofNat 13) (Int.ofNat 22) = (AV.b true = AV.b true) := by kernel_rfl
theorem n_13_23 : Gn (Int.ofNat 13) (Int.ofNat 23) = (AV.b true = AV.b true) := by kernel_rfl
theorem n_13_24 : Gn (Int.ofNat 13) (Int.ofNat 24) = (AV.b true = AV.b true) := by kernel_rfl
theorem n_13_25 : Gn (Int.ofNat 13) (Int.ofNat 25) = (AV.b true = AV.b true) := by kernel_rfl
theorem n_13_26 : Gn (Int.ofNat 13) (Int.ofNat 26) = (AV.b true = AV.b true) := by kernel_rfl
theorem n_13_27 : Gn (Int.ofNat 13) (Int.ofNat 27) = (AV.b true = AV.b true) := by kernel_rfl
theorem n_13_28 : Gn (Int.ofNat 13) (Int.ofNat 28) = (AV.b true = AV.b true) := by kernel_rfl
theorem n_13_29 : Gn (Int.ofNat 13) (Int.ofNat 29) = (AV.b true = AV.b true) := by kernel_rfl
theorem n_13_30 : Gn (Int.ofNat 13) (Int.ofNat 30) = (AV.b true = AV.b true) := by kernel_rfl
theorem n_13_31 : Gn (Int.ofNat 13) (Int.ofNat 31) = (AV.b true = AV.b true) := by kernel_rfl
theorem n_13_32 : Gn (Int.ofNat 13) (Int.ofNat 32) = (AV.b true = AV.b true) := by kernel_rfl
theorem n_13_g (y : Nat) : Gn (Int.ofNat 13) (Int.ofNat (y + 33)) = (AV.b true = AV.b true) := by kernel_rfl
theorem m_13 (b : Int) : Gn (Int.ofNat 13) b := by
  rcases b with n | y
  · by_cases h : n < 33
    · have h : n = 0 ∨ n = 1 ∨ n = 2 ∨ n = 3 ∨ n = 4 ∨ n = 5 ∨ n = 6 ∨ n = 7 ∨ n = 8 ∨ n = 9 ∨ n = 10 ∨ n = 11 ∨ n = 12 ∨ n = 13 ∨ n = 14 ∨ n = 15 ∨ n = 16 ∨ n = 17 ∨ n = 18 ∨ n = 19 ∨ n = 20 ∨ n = 21 ∨ n = 22 ∨ n = 23 ∨ n = 24 ∨ n = 25 ∨ n = 26 ∨ n = 27 ∨ n = 28 ∨ n = 29 ∨ n = 30 ∨ n = 31 ∨ n = 32 := by omega
      rcases h with rfl | rfl | rfl | rfl | rfl | rfl | rfl | rfl | rfl | rfl | rfl | rfl | rfl | rfl | rfl | rfl | rfl | rfl | rfl | rfl | rfl | rfl | rfl | rfl | rfl | rfl | rfl | rfl | rfl | rfl | rfl | rfl | rfl
      · exact of (n_13_0)
      · exact of (n_13_1)
      · exact of (n_13_2)
      · exact of (n_13_3)
      · exact of (n_13_4)
      · exact of (n_13_5)
      · exact of (n_13_6)
      · exact of (n_13_7)
      · exact of (n_13_8)
      · exact of (n_13_9)
      · exact of (n_13_10)
      · exact of (n_13_11)
      · exact of (n_13_12)
      · exact of (n_13_13)
      · exact of (n_13_14)
      · exact of (n_13_15)
      · exact of (n_13_16)
      · exact of (n_13_17)
      · exact of (n_13_18)
      · exact of (n_13_19)
      · exact of (n_13_20)
      · exact of (n_13_21)
      · exact of (n_13_22)
      · exact of (n_13_23)
      · exact of (n_13_24)
      · exact of (n_13_25)
      · exact of (n_13_26)
      · exact of (n_13_27)
      · exact of (n_13_28)
      · exact of (n_13_29)
      · exact of (n_13_30)
      · exact of (n_13_31)
      · exact of (n_13_32)
    · obtain ⟨y, rfl⟩ : ∃ y, n = y + 33 := ⟨n - 33, by omega⟩
      exact of (n_13_g y)
  · exact of (n_13_n y)
end
end Go.Proofs.YtkfcecaoaplfkaaDoor.T
