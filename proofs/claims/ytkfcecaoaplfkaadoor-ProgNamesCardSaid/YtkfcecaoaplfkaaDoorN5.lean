/- ProgNames: some of the first numbers, each second one: by the kernel. -/
import Derived.Test.YtkfcecaoaplfkaaDoorPn
set_option linter.unusedVariables false
set_option linter.unusedSimpArgs false
set_option maxRecDepth 100000
namespace Go.Proofs.YtkfcecaoaplfkaaDoor.T
open Go.AM
noncomputable section
theorem n_24_n (y : Nat) : Gn (Int.ofNat 24) (Int.negSucc y) = (AV.b true = AV.b true) := by kernel_rfl
theorem n_24_0 : Gn (Int.ofNat 24) (Int.ofNat 0) = (AV.b true = AV.b true) := by kernel_rfl
theorem n_24_1 : Gn (Int.ofNat 24) (Int.ofNat 1) = (AV.b true = AV.b true) := by kernel_rfl
theorem n_24_2 : Gn (Int.ofNat 24) (Int.ofNat 2) = (AV.b true = AV.b true) := by kernel_rfl
theorem n_24_3 : Gn (Int.ofNat 24) (Int.ofNat 3) = (AV.b true = AV.b true) := by kernel_rfl
theorem n_24_4 : Gn (Int.ofNat 24) (Int.ofNat 4) = (AV.b true = AV.b true) := by kernel_rfl
theorem n_24_5 : Gn (Int.ofNat 24) (Int.ofNat 5) = (AV.b true = AV.b true) := by kernel_rfl
theorem n_24_6 : Gn (Int.ofNat 24) (Int.ofNat 6) = (AV.b true = AV.b true) := by kernel_rfl
theorem n_24_7 : Gn (Int.ofNat 24) (Int.ofNat 7) = (AV.b true = AV.b true) := by kernel_rfl
theorem n_24_8 : Gn (Int.ofNat 24) (Int.ofNat 8) = (AV.b true = AV.b true) := by kernel_rfl
theorem n_24_9 : Gn (Int.ofNat 24) (Int.ofNat 9) = (AV.b true = AV.b true) := by kernel_rfl
theorem n_24_10 : Gn (Int.ofNat 24) (Int.ofNat 10) = (AV.b true = AV.b true) := by kernel_rfl
theorem n_24_11 : Gn (Int.ofNat 24) (Int.ofNat 11) = (AV.b true = AV.b true) := by kernel_rfl
theorem n_24_12 : Gn (Int.ofNat 24) (Int.ofNat 12) = (AV.b true = AV.b true) := by kernel_rfl
theorem n_24_13 : Gn (Int.ofNat 24) (Int.ofNat 13) = (AV.b true = AV.b true) := by kernel_rfl
theorem n_24_14 : Gn (Int.ofNat 24) (Int.ofNat 14) = (AV.b true = AV.b true) := by kernel_rfl
theorem n_24_15 : Gn (Int.ofNat 24) (Int.ofNat 15) = (AV.b true = AV.b true) := by kernel_rfl
theorem n_24_16 : Gn (Int.ofNat 24) (Int.ofNat 16) = (AV.b true = AV.b true) := by kernel_rfl
theorem n_24_17 : Gn (Int.ofNat 24) (Int.ofNat 17) = (AV.b true = AV.b true) := by kernel_rfl
theorem n_24_18 : Gn (Int.ofNat 24) (Int.ofNat 18) = (AV.b true = AV.b true) := by kernel_rfl
theorem n_24_19 : Gn (Int.ofNat 24) (Int.ofNat 19) = (AV.b true = AV.b true) := by kernel_rfl
theorem n_24_20 : Gn (Int.ofNat 24) (Int.ofNat 20) = (AV.b true = AV.b true) := by kernel_rfl
theorem n_24_21 : Gn (Int.ofNat 24) (Int.ofNat 21) = (AV.b true = AV.b true) := by kernel_rfl
theorem n_24_22 : Gn (Int.ofNat 24) (Int.ofNat 22) = (AV.b true = AV.b true) := by kernel_rfl
theorem n_24_23 : Gn (Int.ofNat 24) (Int.ofNat 23) = (AV.b true = AV.b true) := by kernel_rfl
theorem n_24_24 : Gn (Int.ofNat 24) (Int.ofNat 24) = (AV.b true = AV.b true) := by kernel_rfl
theorem n_24_25 : Gn (Int.ofNat 24) (Int.ofNat 25) = (AV.b true = AV.b true) := by kernel_rfl
theorem n_24_26 : Gn (Int.ofNat 24) (Int.ofNat 26) = (AV.b true = AV.b true) := by kernel_rfl
theorem n_24_27 : Gn (Int.ofNat 24) (Int.ofNat 27) = (AV.b true = AV.b true) := by kernel_rfl
theorem n_24_28 : Gn (Int.ofNat 24) (Int.ofNat 28) = (AV.b true = AV.b true) := by kernel_rfl
theorem n_24_29 : Gn (Int.ofNat 24) (Int.ofNat 29) = (AV.b true = AV.b true) := by kernel_rfl
theorem n_24_30 : Gn (Int.ofNat 24) (Int.ofNat 30) = (AV.b true = AV.b true) := by kernel_rfl
theorem n_24_31 : Gn (Int.ofNat 24) (Int.ofNat 31) = (AV.b true = AV.b true) := by kernel_rfl
theorem n_24_32 : Gn (Int.ofNat 24) (Int.ofNat 32) = (AV.b true = AV.b true) := by kernel_rfl
theorem n_24_g (y : Nat) : Gn (Int.ofNat 24) (Int.ofNat (y + 33)) = (AV.b true = AV.b true) := by kernel_rfl
theorem m_24 (b : Int) : Gn (Int.ofNat 24) b := by
  rcases b with n | y
  · by_cases h : n < 33
    · have h : n = 0 ∨ n = 1 ∨ n = 2 ∨ n = 3 ∨ n = 4 ∨ n = 5 ∨ n = 6 ∨ n = 7 ∨ n = 8 ∨ n = 9 ∨ n = 10 ∨ n = 11 ∨ n = 12 ∨ n = 13 ∨ n = 14 ∨ n = 15 ∨ n = 16 ∨ n = 17 ∨ n = 18 ∨ n = 19 ∨ n = 20 ∨ n = 21 ∨ n = 22 ∨ n = 23 ∨ n = 24 ∨ n = 25 ∨ n = 26 ∨ n = 27 ∨ n = 28 ∨ n = 29 ∨ n = 30 ∨ n = 31 ∨ n = 32 := by omega
      rcases h with rfl | rfl | rfl | rfl | rfl | rfl | rfl | rfl | rfl | rfl | rfl | rfl | rfl | rfl | rfl | rfl | rfl | rfl | rfl | rfl | rfl | rfl | rfl | rfl | rfl | rfl | rfl | rfl | rfl | rfl | rfl | rfl | rfl
      · exact of (n_24_0)
      · exact of (n_24_1)
      · exact of (n_24_2)
      · exact of (n_24_3)
      · exact of (n_24_4)
      · exact of (n_24_5)
      · exact of (n_24_6)
      · exact of (n_24_7)
      · exact of (n_24_8)
      · exact of (n_24_9)
      · exact of (n_24_10)
      · exact of (n_24_11)
      · exact of (n_24_12)
      · exact of (n_24_13)
      · exact of (n_24_14)
      · exact of (n_24_15)
      · exact of (n_24_16)
      · exact of (n_24_17)
      · exact of (n_24_18)
      · exact of (n_24_19)
      · exact of (n_24_20)
      · exact of (n_24_21)
      · exact of (n_24_22)
      · exact of (n_24_23)
      · exact of (n_24_24)
      · exact of (n_24_25)
      · exact of (n_24_26)
      · exact of (n_24_27)
      · exact of (n_24_28)
      · exact of (n_24_29)
      · exact of (n_24_30)
      · exact of (n_24_31)
      · exact of (n_24_32)
    · obtain ⟨y, rfl⟩ : ∃ y, n = y + 33 := ⟨n - 33, by omega⟩
      exact of (n_24_g y)
  · exact of (n_24_n y)
theorem n_25_n (y : Nat) : Gn (Int.ofNat 25) (Int.negSucc y) = (AV.b true = AV.b true) := by kernel_rfl
theorem n_25_0 : Gn (Int.ofNat 25) (Int.ofNat 0) = (AV.b true = AV.b true) := by kernel_rfl
theorem n_25_1 : Gn (Int.ofNat 25) (Int.ofNat 1) = (AV.b true = AV.b true) := by kernel_rfl
theorem n_25_2 : Gn (Int.ofNat 25) (Int.ofNat 2) = (AV.b true = AV.b true) := by kernel_rfl
theorem n_25_3 : Gn (Int.ofNat 25) (Int.ofNat 3) = (AV.b true = AV.b true) := by kernel_rfl
theorem n_25_4 : Gn (Int.ofNat 25) (Int.ofNat 4) = (AV.b true = AV.b true) := by kernel_rfl
theorem n_25_5 : Gn (Int.ofNat 25) (Int.ofNat 5) = (AV.b true = AV.b true) := by kernel_rfl
theorem n_25_6 : Gn (Int.ofNat 25) (Int.ofNat 6) = (AV.b true = AV.b true) := by kernel_rfl
theorem n_25_7 : Gn (Int.ofNat 25) (Int.ofNat 7) = (AV.b true = AV.b true) := by kernel_rfl
theorem n_25_8 : Gn (Int.ofNat 25) (Int.ofNat 8) = (AV.b true = AV.b true) := by kernel_rfl
theorem n_25_9 : Gn (Int.ofNat 25) (Int.ofNat 9) = (AV.b true = AV.b true) := by kernel_rfl
theorem n_25_10 : Gn (Int.ofNat 25) (Int.ofNat 10) = (AV.b true = AV.b true) := by kernel_rfl
theorem n_25_11 : Gn (Int.ofNat 25) (Int.ofNat 11) = (AV.b true = AV.b true) := by kernel_rfl
theorem n_25_12 : Gn (Int.ofNat 25) (Int.ofNat 12) = (AV.b true = AV.b true) := by kernel_rfl
theorem n_25_13 : Gn (Int.ofNat 25) (Int.ofNat 13) = (AV.b true = AV.b true) := by kernel_rfl
theorem n_25_14 : Gn (Int.ofNat 25) (Int.ofNat 14) = (AV.b true = AV.b true) := by kernel_rfl
theorem n_25_15 : Gn (Int.ofNat 25) (Int.ofNat 15) = (AV.b true = AV.b true) := by kernel_rfl
theorem n_25_16 : Gn (Int.ofNat 25) (Int.ofNat 16) = (AV.b true = AV.b true) := by kernel_rfl
theorem n_25_17 : Gn (Int.ofNat 25) (Int.ofNat 17) = (AV.b true = AV.b true) := by kernel_rfl
theorem n_25_18 : Gn (Int.ofNat 25) (Int.ofNat 18) = (AV.b true = AV.b true) := by kernel_rfl
theorem n_25_19 : Gn (Int.ofNat 25) (Int.ofNat 19) = (AV.b true = AV.b true) := by kernel_rfl
theorem n_25_20 : Gn (Int.ofNat 25) (Int.ofNat 20) = (AV.b true = AV.b true) := by kernel_rfl
theorem n_25_21 : Gn (Int.ofNat 25) (Int.ofNat 21) = (AV.b true = AV.b true) := by kernel_rfl
theorem n_25_22 : Gn (Int.ofNat 25) (Int.ofNat 22) = (AV.b true = AV.b true) := by kernel_rfl
theorem n_25_23 : Gn (Int.ofNat 25) (Int.ofNat 23) = (AV.b true = AV.b true) := by kernel_rfl
theorem n_25_24 : Gn (Int.ofNat 25) (Int.ofNat 24) = (AV.b true = AV.b true) := by kernel_rfl
theorem n_25_25 : Gn (Int.ofNat 25) (Int.ofNat 25) = (AV.b true = AV.b true) := by kernel_rfl
theorem n_25_26 : Gn (Int.ofNat 25) (Int.ofNat 26) = (AV.b true = AV.b true) := by kernel_rfl
theorem n_25_27 : Gn (Int.ofNat 25) (Int.ofNat 27) = (AV.b true = AV.b true) := by kernel_rfl
theorem n_25_28 : Gn (Int.ofNat 25) (Int.ofNat 28) = (AV.b true = AV.b true) := by kernel_rfl
theorem n_25_29 : Gn (Int.ofNat 25) (Int.ofNat 29) = (AV.b true = AV.b true) := by kernel_rfl
theorem n_25_30 : Gn (Int.ofNat 25) (Int.ofNat 30) = (AV.b true = AV.b true) := by kernel_rfl
theorem n_25_31 : Gn (Int.ofNat 25) (Int.ofNat 31) = (AV.b true = AV.b true) := by kernel_rfl
theorem n_25_32 : Gn (Int.ofNat 25) (Int.ofNat 32) = (AV.b true = AV.b true) := by kernel_rfl
theorem n_25_g (y : Nat) : Gn (Int.ofNat 25) (Int.ofNat (y + 33)) = (AV.b true = AV.b true) := by kernel_rfl
theorem m_25 (b : Int) : Gn (Int.ofNat 25) b := by
  rcases b with n | y
  · by_cases h : n < 33
    · have h : n = 0 ∨ n = 1 ∨ n = 2 ∨ n = 3 ∨ n = 4 ∨ n = 5 ∨ n = 6 ∨ n = 7 ∨ n = 8 ∨ n = 9 ∨ n = 10 ∨ n = 11 ∨ n = 12 ∨ n = 13 ∨ n = 14 ∨ n = 15 ∨ n = 16 ∨ n = 17 ∨ n = 18 ∨ n = 19 ∨ n = 20 ∨ n = 21 ∨ n = 22 ∨ n = 23 ∨ n = 24 ∨ n = 25 ∨ n = 26 ∨ n = 27 ∨ n = 28 ∨ n = 29 ∨ n = 30 ∨ n = 31 ∨ n = 32 := by omega
      rcases h with rfl | rfl | rfl | rfl | rfl | rfl | rfl | rfl | rfl | rfl | rfl | rfl | rfl | rfl | rfl | rfl | rfl | rfl | rfl | rfl | rfl | rfl | rfl | rfl | rfl | rfl | rfl | rfl | rfl | rfl | rfl | rfl | rfl
      · exact of (n_25_0)
      · exact of (n_25_1)
      · exact of (n_25_2)
      · exact of (n_25_3)
      · exact of (n_25_4)
      · exact of (n_25_5)
      · exact of (n_25_6)
      · exact of (n_25_7)
      · exact of (n_25_8)
      · exact of (n_25_9)
      · exact of (n_25_10)
      · exact of (n_25_11)
      · exact of (n_25_12)
      · exact of (n_25_13)
      · exact of (n_25_14)
      · exact of (n_25_15)
      · exact of (n_25_16)
      · exact of (n_25_17)
      · exact of (n_25_18)
      · exact of (n_25_19)
      · exact of (n_25_20)
      · exact of (n_25_21)
      · exact of (n_25_22)
      · exact of (n_25_23)
      · exact of (n_25_24)
      · exact of (n_25_25)
      · exact of (n_25_26)
      · exact of (n_25_27)
      · exact of (n_25_28)
      · exact of (n_25_29)
      · exact of (n_25_30)
      · exact of (n_25_31)
      · exact of (n_25_32)
    · obtain ⟨y, rfl⟩ : ∃ y, n = y + 33 := ⟨n - 33, by omega⟩
      exact of (n_25_g y)
  · exact of (n_25_n y)
theorem n_26_n (y : Nat) : Gn (Int.ofNat 26) (Int.negSucc y) = (AV.b true = AV.b true) := by kernel_rfl
theorem n_26_0 : Gn (Int.ofNat 26) (Int.ofNat 0) = (AV.b true = AV.b true) := by kernel_rfl
theorem n_26_1 : Gn (Int.ofNat 26) (Int.ofNat 1) = (AV.b true = AV.b true) := by kernel_rfl
theorem n_26_2 : Gn (Int.ofNat 26) (Int.ofNat 2) = (AV.b true = AV.b true) := by kernel_rfl
theorem n_26_3 : Gn (Int.ofNat 26) (Int.ofNat 3) = (AV.b true = AV.b true) := by kernel_rfl
theorem n_26_4 : Gn (Int.ofNat 26) (Int.ofNat 4) = (AV.b true = AV.b true) := by kernel_rfl
theorem n_26_5 : Gn (Int.ofNat 26) (Int.ofNat 5) = (AV.b true = AV.b true) := by kernel_rfl
theorem n_26_6 : Gn (Int.ofNat 26) (Int.ofNat 6) = (AV.b true = AV.b true) := by kernel_rfl
theorem n_26_7 : Gn (Int.ofNat 26) (Int.ofNat 7) = (AV.b true = AV.b true) := by kernel_rfl
theorem n_26_8 : Gn (Int.ofNat 26) (Int.ofNat 8) = (AV.b true = AV.b true) := by kernel_rfl
theorem n_26_9 : Gn (Int.ofNat 26) (Int.ofNat 9) = (AV.b true = AV.b true) := by kernel_rfl
theorem n_26_10 : Gn (Int.ofNat 26) (Int.ofNat 10) = (AV.b true = AV.b true) := by kernel_rfl
theorem n_26_11 : Gn (Int.ofNat 26) (Int.ofNat 11) = (AV.b true = AV.b true) := by kernel_rfl
theorem n_26_12 : Gn (Int.ofNat 26) (Int.ofNat 12) = (AV.b true = AV.b true) := by kernel_rfl
theorem n_26_13 : Gn (Int.ofNat 26) (Int.ofNat 13) = (AV.b true = AV.b true) := by kernel_rfl
theorem n_26_14 : Gn (Int.ofNat 26) (Int.ofNat 14) = (AV.b true = AV.b true) := by kernel_rfl
theorem n_26_15 : Gn (Int.ofNat 26) (Int.ofNat 15) = (AV.b true = AV.b true) := by kernel_rfl
theorem n_26_16 : Gn (Int.ofNat 26) (Int.ofNat 16) = (AV.b true = AV.b true) := by kernel_rfl
theorem n_26_17 : Gn (Int.ofNat 26) (Int.ofNat 17) = (AV.b true = AV.b true) := by kernel_rfl
theorem n_26_18 : Gn (Int.ofNat 26) (Int.ofNat 18) = (AV.b true = AV.b true) := by kernel_rfl
theorem n_26_19 : Gn (Int.ofNat 26) (Int.ofNat 19) = (AV.b true = AV.b true) := by kernel_rfl
theorem n_26_20 : Gn (Int.ofNat 26) (Int.ofNat 20) = (AV.b true = AV.b true) := by kernel_rfl
theorem n_26_21 : Gn (Int.ofNat 26) (Int.ofNat 21) = (AV.b true = AV.b true) := by kernel_rfl
theorem n_26_22 : Gn (Int.ofNat 26) (Int.ofNat 22) = (AV.b true = AV.b true) := by kernel_rfl
theorem n_26_23 : Gn (Int.ofNat 26) (Int.ofNat 23) = (AV.b true = AV.b true) := by kernel_rfl
theorem n_26_24 : Gn (Int.ofNat 26) (Int.ofNat 24) = (AV.b true = AV.b true) := by kernel_rfl
theorem n_26_25 : Gn (Int.ofNat 26) (Int.ofNat 25) = (AV.b true = AV.b true) := by kernel_rfl
theorem n_26_26 : Gn (Int.ofNat 26) (Int.ofNat 26) = (AV.b true = AV.b true) := by kernel_rfl
theorem n_26_27 : Gn (Int.ofNat 26) (Int.ofNat 27) = (AV.b true = AV.b true) := by kernel_rfl
theorem n_26_28 : Gn (Int.ofNat 26) (Int.ofNat 28) = (AV.b true = AV.b true) := by kernel_rfl
theorem n_26_29 : Gn (Int.ofNat 26) (Int.ofNat 29) = (AV.b true = AV.b true) := by kernel_rfl
theorem n_26_30 : Gn (Int.ofNat 26) (Int.ofNat 30) = (AV.b true = AV.b true) := by kernel_rfl
theorem n_26_31 : Gn (Int.ofNat 26) (Int.ofNat 31) = (AV.b true = AV.b true) := by kernel_rfl
theorem n_26_32 : Gn (Int.ofNat 26) (Int.ofNat 32) = (AV.b true = AV.b true) := by kernel_rfl
theorem n_26_g (y : Nat) : Gn (Int.ofNat 26) (Int.ofNat (y + 33)) = (AV.b true = AV.b true) := by kernel_rfl
theorem m_26 (b : Int) : Gn (Int.ofNat 26) b := by
  rcases b with n | y
  · by_cases h : n < 33
    · have h : n = 0 ∨ n = 1 ∨ n = 2 ∨ n = 3 ∨ n = 4 ∨ n = 5 ∨ n = 6 ∨ n = 7 ∨ n = 8 ∨ n = 9 ∨ n = 10 ∨ n = 11 ∨ n = 12 ∨ n = 13 ∨ n = 14 ∨ n = 15 ∨ n = 16 ∨ n = 17 ∨ n = 18 ∨ n = 19 ∨ n = 20 ∨ n = 21 ∨ n = 22 ∨ n = 23 ∨ n = 24 ∨ n = 25 ∨ n = 26 ∨ n = 27 ∨ n = 28 ∨ n = 29 ∨ n = 30 ∨ n = 31 ∨ n = 32 := by omega
      rcases h with rfl | rfl | rfl | rfl | rfl | rfl | rfl | rfl | rfl | rfl | rfl | rfl | rfl | rfl | rfl | rfl | rfl | rfl | rfl | rfl | rfl | rfl | rfl | rfl | rfl | rfl | rfl | rfl | rfl | rfl | rfl | rfl | rfl
      · exact of (n_26_0)
      · exact of (n_26_1)
      · exact of (n_26_2)
      · exact of (n_26_3)
      · exact of (n_26_4)
      · exact of (n_26_5)
      · exact of (n_26_6)
      · exact of (n_26_7)
      · exact of (n_26_8)
      · exact of (n_26_9)
      · exact of (n_26_10)
      · exact of (n_26_11)
      · exact of (n_26_12)
      · exact of (n_26_13)
      · exact of (n_26_14)
      · exact of (n_26_15)
      · exact of (n_26_16)
      · exact of (n_26_17)
      · exact of (n_26_18)
      · exact of (n_26_19)
      · exact of (n_26_20)
      · exact of (n_26_21)
      · exact of (n_26_22)
      · exact of (n_26_23)
      · exact of (n_26_24)
      · exact of (n_26_25)
      · exact of (n_26_26)
      · exact of (n_26_27)
      · exact of (n_26_28)
      · exact of (n_26_29)
      · exact of (n_26_30)
      · exact of (n_26_31)
      · exact of (n_26_32)
    · obtain ⟨y, rfl⟩ : ∃ y, n = y + 33 := ⟨n - 33, by omega⟩
      exact of (n_26_g y)
  · exact of (n_26_n y)
theorem n_27_n (y : Nat) : Gn (Int.ofNat 27) (Int.negSucc y) = (AV.b true = AV.b true) := by kernel_rfl
theorem n_27_0 : Gn (Int.ofNat 27) (Int.ofNat 0) = (AV.b true = AV.b true) := by kernel_rfl
theorem n_27_1 : Gn (Int.ofNat 27) (Int.ofNat 1) = (AV.b true = AV.b true) := by kernel_rfl
theorem n_27_2 : Gn (Int.ofNat 27) (Int.ofNat 2) = (AV.b true = AV.b true) := by kernel_rfl
theorem n_27_3 : Gn (Int.ofNat 27) (Int.ofNat 3) = (AV.b true = AV.b true) := by kernel_rfl
theorem n_27_4 : Gn (Int.ofNat 27) (Int.ofNat 4) = (AV.b true = AV.b true) := by kernel_rfl
theorem n_27_5 : Gn (Int.ofNat 27) (Int.ofNat 5) = (AV.b true = AV.b true) := by kernel_rfl
theorem n_27_6 : Gn (Int.ofNat 27) (Int.ofNat 6) = (AV.b true = AV.b true) := by kernel_rfl
theorem n_27_7 : Gn (Int.ofNat 27) (Int.ofNat 7) = (AV.b true = AV.b true) := by kernel_rfl
theorem n_27_8 : Gn (Int.ofNat 27) (Int.ofNat 8) = (AV.b true = AV.b true) := by kernel_rfl
theorem n_27_9 : Gn (Int.ofNat 27) (Int.ofNat 9) = (AV.b true = AV.b true) := by kernel_rfl
theorem n_27_10 : Gn (Int.ofNat 27) (Int.ofNat 10) = (AV.b true = AV.b true) := by kernel_rfl
theorem n_27_11 : Gn (Int.ofNat 27) (Int.ofNat 11) = (AV.b true = AV.b true) := by kernel_rfl
theorem n_27_12 : Gn (Int.ofNat 27) (Int.ofNat 12) = (AV.b true = AV.b true) := by kernel_rfl
theorem n_27_13 : Gn (Int.ofNat 27) (Int.ofNat 13) = (AV.b true = AV.b true) := by kernel_rfl
theorem n_27_14 : Gn (Int.ofNat 27) (Int.ofNat 14) = (AV.b true = AV.b true) := by kernel_rfl
theorem n_27_15 : Gn (Int.ofNat 27) (Int.ofNat 15) = (AV.b true = AV.b true) := by kernel_rfl
theorem n_27_16 : Gn (Int.ofNat 27) (Int.ofNat 16) = (AV.b true = AV.b true) := by kernel_rfl
theorem n_27_17 : Gn (Int.ofNat 27) (Int.ofNat 17) = (AV.b true = AV.b true) := by kernel_rfl
theorem n_27_18 : Gn (Int.ofNat 27) (Int.ofNat 18) = (AV.b true = AV.b true) := by kernel_rfl
theorem n_27_19 : Gn (Int.ofNat 27) (Int.ofNat 19) = (AV.b true = AV.b true) := by kernel_rfl
theorem n_27_20 : Gn (Int.ofNat 27) (Int.ofNat 20) = (AV.b true = AV.b true) := by kernel_rfl
theorem n_27_21 : Gn (Int.ofNat 27) (Int.ofNat 21) = (AV.b true = AV.b true) := by kernel_rfl
theorem n_27_22 : Gn (Int.ofNat 27) (Int.ofNat 22) = (AV.b true = AV.b true) := by kernel_rfl
theorem n_27_23 : Gn (Int.ofNat 27) (Int.ofNat 23) = (AV.b true = AV.b true) := by kernel_rfl
theorem n_27_24 : Gn (Int.ofNat 27) (Int.ofNat 24) = (AV.b true = AV.b true) := by kernel_rfl
theorem n_27_25 : Gn (Int.ofNat 27) (Int.ofNat 25) = (AV.b true = AV.b true) := by kernel_rfl
theorem n_27_26 : Gn (Int.ofNat 27) (Int.ofNat 26) = (AV.b true = AV.b true) := by kernel_rfl
theorem n_27_27 : Gn (Int.ofNat 27) (Int.ofNat 27) = (AV.b true = AV.b true) := by kernel_rfl
theorem n_27_28 : Gn (Int.ofNat 27) (Int.ofNat 28) = (AV.b true = AV.b true) := by kernel_rfl
theorem n_27_29 : Gn (Int.ofNat 27) (Int.ofNat 29) = (AV.b true = AV.b true) := by kernel_rfl
theorem n_27_30 : Gn (Int.ofNat 27) (Int.ofNat 30) = (AV.b true = AV.b true) := by kernel_rfl
theorem n_27_31 : Gn (Int.ofNat 27) (Int.ofNat 31) = (AV.b true = AV.b true) := by kernel_rfl
theorem n_27_32 : Gn (Int.ofNat 27) (Int.ofNat 32) = (AV.b true = AV.b true) := by kernel_rfl
theorem n_27_g (y : Nat) : Gn (Int.ofNat 27) (Int.ofNat (y + 33)) = (AV.b true = AV.b true) := by kernel_rfl
theorem m_27 (b : Int) : Gn (Int.ofNat 27) b := by
  rcases b with n | y
  · by_cases h : n < 33
    · have h : n = 0 ∨ n = 1 ∨ n = 2 ∨ n = 3 ∨ n = 4 ∨ n = 5 ∨ n = 6 ∨ n = 7 ∨ n = 8 ∨ n = 9 ∨ n = 10 ∨ n = 11 ∨ n = 12 ∨ n = 13 ∨ n = 14 ∨ n = 15 ∨ n = 16 ∨ n = 17 ∨ n = 18 ∨ n = 19 ∨ n = 20 ∨ n = 21 ∨ n = 22 ∨ n = 23 ∨ n = 24 ∨ n = 25 ∨ n = 26 ∨ n = 27 ∨ n = 28 ∨ n = 29 ∨ n = 30 ∨ n = 31 ∨ n = 32 := by omega
      rcases h with rfl | rfl | rfl | rfl | rfl | rfl | rfl | rfl | rfl | rfl | rfl | rfl | rfl | rfl | rfl | rfl | rfl | rfl | rfl | rfl | rfl | rfl | rfl | rfl | rfl | rfl | rfl | rfl | rfl | rfl | rfl | rfl | rfl
      · exact of (n_27_0)
      · exact of (n_27_1)
      · exact of (n_27_2)
      · exact of (n_27_3)
      · exact of (n_27_4)
      · exact of (n_27_5)
      · exact of (n_27_6)
      · exact of (n_27_7)
      · exact of (n_27_8)
      · exact of (n_27_9)
      · exact of (n_27_10)
      · exact of (n_27_11)
      · exact of (n_27_12)
      · exact of (n_27_13)
      · exact of (n_27_14)
      · exact of (n_27_15)
      · exact of (n_27_16)
      · exact of (n_27_17)
      · exact of (n_27_18)
      · exact of (n_27_19)
      · exact of (n_27_20)
      · exact of (n_27_21)
      · exact of (n_27_22)
      · exact of (n_27_23)
      · exact of (n_27_24)
      · exact of (n_27_25)
      · exact of (n_27_26)
      · exact of (n_27_27)
      · exact of (n_27_28)
      · exact of (n_27_29)
      · exact of (n_27_30)
      · exact of (n_27_31)
      · exact of (n_27_32)
    · obtain ⟨y, rfl⟩ : ∃ y, n = y + 33 := ⟨n - 33, by omega⟩
      exact of (n_27_g y)
  · exact of (n_27_n y)
theorem n_28_n (y : Nat) : Gn (Int.ofNat 28) (Int.negSucc y) = (AV.b true = AV.b true) := by kernel_rfl
theorem n_28_0 : Gn (Int.ofNat 28) (Int.ofNat 0) = (AV.b true = AV.b true) := by kernel_rfl
theorem n_28_1 : Gn (Int.ofNat 28) (Int.ofNat 1) = (AV.b true = AV.b true) := by kernel_rfl
theorem n_28_2 : Gn (Int.ofNat 28) (Int.ofNat 2) = (AV.b true = AV.b true) := by kernel_rfl
theorem n_28_3 : Gn (Int.ofNat 28) (Int.ofNat 3) = (AV.b true = AV.b true) := by kernel_rfl
theorem n_28_4 : Gn (Int.ofNat 28) (Int.ofNat 4) = (AV.b true = AV.b true) := by kernel_rfl
theorem n_28_5 : Gn (Int.ofNat 28) (Int.ofNat 5) = (AV.b true = AV.b true) := by kernel_rfl
theorem n_28_6 : Gn (Int.ofNat 28) (Int.ofNat 6) = (AV.b true = AV.b true) := by kernel_rfl
theorem n_28_7 : Gn (Int.ofNat 28) (Int.ofNat 7) = (AV.b true = AV.b true) := by kernel_rfl
theorem n_28_8 : Gn (Int.ofNat 28) (Int.ofNat 8) = (AV.b true = AV.b true) := by kernel_rfl
theorem n_28_9 : Gn (Int.ofNat 28) (Int.ofNat 9) = (AV.b true = AV.b true) := by kernel_rfl
theorem n_28_10 : Gn (Int.ofNat 28) (Int.ofNat 10) = (AV.b true = AV.b true) := by kernel_rfl
theorem n_28_11 : Gn (Int.ofNat 28) (Int.ofNat 11) = (AV.b true = AV.b true) := by kernel_rfl
theorem n_28_12 : Gn (Int.ofNat 28) (Int.ofNat 12) = (AV.b true = AV.b true) := by kernel_rfl
theorem n_28_13 : Gn (Int.ofNat 28) (Int.ofNat 13) = (AV.b true = AV.b true) := by kernel_rfl
theorem n_28_14 : Gn (Int.ofNat 28) (Int.ofNat 14) = (AV.b true = AV.b true) := by kernel_rfl
theorem n_28_15 : Gn (Int.ofNat 28) (Int.ofNat 15) = (AV.b true = AV.b true) := by kernel_rfl
theorem n_28_16 : Gn (Int.ofNat 28) (Int.ofNat 16) = (AV.b true = AV.b true) := by kernel_rfl
theorem n_28_17 : Gn (Int.ofNat 28) (Int.ofNat 17) = (AV.b true = AV.b true) := by kernel_rfl
theorem n_28_18 : Gn (Int.ofNat 28) (Int.ofNat 18) = (AV.b true = AV.b true) := by kernel_rfl
theorem n_28_19 : Gn (Int.ofNat 28) (Int.ofNat 19) = (AV.b true = AV.b true) := by kernel_rfl
theorem n_28_20 : Gn (Int.ofNat 28) (Int.ofNat 20) = (AV.b true = AV.b true) := by kernel_rfl
theorem n_28_21 : Gn (Int.ofNat 28) (Int.ofNat 21) = (AV.b true = AV.b true) := by kernel_rfl
theorem n_28_22 : Gn (Int.ofNat 28) (Int.ofNat 22) = (AV.b true = AV.b true) := by kernel_rfl
theorem n_28_23 : Gn (Int.ofNat 28) (Int.ofNat 23) = (AV.b true = AV.b true) := by kernel_rfl
theorem n_28_24 : Gn (Int.ofNat 28) (Int.ofNat 24) = (AV.b true = AV.b true) := by kernel_rfl
theorem n_28_25 : Gn (Int.ofNat 28) (Int.ofNat 25) = (AV.b true = AV.b true) := by kernel_rfl
theorem n_28_26 : Gn (Int.ofNat 28) (Int.ofNat 26) = (AV.b true = AV.b true) := by kernel_rfl
theorem n_28_27 : Gn (Int.ofNat 28) (Int.ofNat 27) = (AV.b true = AV.b true) := by kernel_rfl
theorem n_28_28 : Gn (Int.ofNat 28) (Int.ofNat 28) = (AV.b true = AV.b true) := by kernel_rfl
theorem n_28_29 : Gn (Int.ofNat 28) (Int.ofNat 29) = (AV.b true = AV.b true) := by kernel_rfl
theorem n_28_30 : Gn (Int.ofNat 28) (Int.ofNat 30) = (AV.b true = AV.b true) := by kernel_rfl
theorem n_28_31 : Gn (Int.ofNat 28) (Int.ofNat 31) = (AV.b true = AV.b true) := by kernel_rfl
theorem n_28_32 : Gn (Int.ofNat 28) (Int.ofNat 32) = (AV.b true = AV.b true) := by kernel_rfl
theorem n_28_g (y : Nat) : Gn (Int.ofNat 28) (Int.ofNat (y + 33)) = (AV.b true = AV.b true) := by kernel_rfl
theorem m_28 (b : Int) : Gn (Int.ofNat 28) b := by
  rcases b with n | y
  · by_cases h : n < 33
    · have h : n = 0 ∨ n = 1 ∨ n = 2 ∨ n = 3 ∨ n = 4 ∨ n = 5 ∨ n = 6 ∨ n = 7 ∨ n = 8 ∨ n = 9 ∨ n = 10 ∨ n = 11 ∨ n = 12 ∨ n = 13 ∨ n = 14 ∨ n = 15 ∨ n = 16 ∨ n = 17 ∨ n = 18 ∨ n = 19 ∨ n = 20 ∨ n = 21 ∨ n = 22 ∨ n = 23 ∨ n = 24 ∨ n = 25 ∨ n = 26 ∨ n = 27 ∨ n = 28 ∨ n = 29 ∨ n = 30 ∨ n = 31 ∨ n = 32 := by omega
      rcases h with rfl | rfl | rfl | rfl | rfl | rfl | rfl | rfl | rfl | rfl | rfl | rfl | rfl | rfl | rfl | rfl | rfl | rfl | rfl | rfl | rfl | rfl | rfl | rfl | rfl | rfl | rfl | rfl | rfl | rfl | rfl | rfl | rfl
      · exact of (n_28_0)
      · exact of (n_28_1)
      · exact of (n_28_2)
      · exact of (n_28_3)
      · exact of (n_28_4)
      · exact of (n_28_5)
      · exact of (n_28_6)
      · exact of (n_28_7)
      · exact of (n_28_8)
      · exact of (n_28_9)
      · exact of (n_28_10)
      · exact of (n_28_11)
      · exact of (n_28_12)
      · exact of (n_28_13)
      · exact of (n_28_14)
      · exact of (n_28_15)
      · exact of (n_28_16)
      · exact of (n_28_17)
      · exact of (n_28_18)
      · exact of (n_28_19)
      · exact of (n_28_20)
      · exact of (n_28_21)
      · exact of (n_28_22)
      · exact of (n_28_23)
      · exact of (n_28_24)
      · exact of (n_28_25)
      · exact of (n_28_26)
      · exact of (n_28_27)
      · exact of (n_28_28)
      · exact of (n_28_29)
      · exact of (n_28_30)
      · exact of (n_28_31)
      · exact of (n_28_32)
    · obtain ⟨y, rfl⟩ : ∃ y, n = y + 33 := ⟨n - 33, by omega⟩
      exact of (n_28_g y)
  · exact of (n_28_n y)
end
end Go.Proofs.YtkfcecaoaplfkaaDoor.T
