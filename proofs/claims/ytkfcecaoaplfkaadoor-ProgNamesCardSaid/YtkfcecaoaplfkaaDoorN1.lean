/- ProgNames: some of the first numbers, each second one: by the kernel. -/
import Derived.Test.YtkfcecaoaplfkaaDoorPn
set_option linter.unusedVariables false
set_option linter.unusedSimpArgs false
set_option maxRecDepth 100000
namespace Go.Proofs.YtkfcecaoaplfkaaDoor.T
open Go.AM
noncomputable section
theorem n_4_n (y : Nat) : Gn (Int.ofNat 4) (Int.negSucc y) = (AV.b true = AV.b true) := by kernel_rfl
theorem n_4_0 : Gn (Int.ofNat 4) (Int.ofNat 0) = (AV.b true = AV.b true) := by kernel_rfl
theorem n_4_1 : Gn (Int.ofNat 4) (Int.ofNat 1) = (AV.b true = AV.b true) := by kernel_rfl
theorem n_4_2 : Gn (Int.ofNat 4) (Int.ofNat 2) = (AV.b true = AV.b true) := by kernel_rfl
theorem n_4_3 : Gn (Int.ofNat 4) (Int.ofNat 3) = (AV.b true = AV.b true) := by kernel_rfl
theorem n_4_4 : Gn (Int.ofNat 4) (Int.ofNat 4) = (AV.b true = AV.b true) := by kernel_rfl
theorem n_4_5 : Gn (Int.ofNat 4) (Int.ofNat 5) = (AV.b true = AV.b true) := by kernel_rfl
theorem n_4_6 : Gn (Int.ofNat 4) (Int.ofNat 6) = (AV.b true = AV.b true) := by kernel_rfl
theorem n_4_7 : Gn (Int.ofNat 4) (Int.ofNat 7) = (AV.b true = AV.b true) := by kernel_rfl
theorem n_4_8 : Gn (Int.ofNat 4) (Int.ofNat 8) = (AV.b true = AV.b true) := by kernel_rfl
theorem n_4_9 : Gn (Int.ofNat 4) (Int.ofNat 9) = (AV.b true = AV.b true) := by kernel_rfl
theorem n_4_10 : Gn (Int.ofNat 4) (Int.ofNat 10) = (AV.b true = AV.b true) := by kernel_rfl
theorem n_4_11 : Gn (Int.ofNat 4) (Int.ofNat 11) = (AV.b true = AV.b true) := by kernel_rfl
theorem n_4_12 : Gn (Int.ofNat 4) (Int.ofNat 12) = (AV.b true = AV.b true) := by kernel_rfl
theorem n_4_13 : Gn (Int.ofNat 4) (Int.ofNat 13) = (AV.b true = AV.b true) := by kernel_rfl
theorem n_4_14 : Gn (Int.ofNat 4) (Int.ofNat 14) = (AV.b true = AV.b true) := by kernel_rfl
theorem n_4_15 : Gn (Int.ofNat 4) (Int.ofNat 15) = (AV.b true = AV.b true) := by kernel_rfl
theorem n_4_16 : Gn (Int.ofNat 4) (Int.ofNat 16) = (AV.b true = AV.b true) := by kernel_rfl
theorem n_4_17 : Gn (Int.ofNat 4) (Int.ofNat 17) = (AV.b true = AV.b true) := by kernel_rfl
theorem n_4_18 : Gn (Int.ofNat 4) (Int.ofNat 18) = (AV.b true = AV.b true) := by kernel_rfl
theorem n_4_19 : Gn (Int.ofNat 4) (Int.ofNat 19) = (AV.b true = AV.b true) := by kernel_rfl
theorem n_4_20 : Gn (Int.ofNat 4) (Int.ofNat 20) = (AV.b true = AV.b true) := by kernel_rfl
theorem n_4_21 : Gn (Int.ofNat 4) (Int.ofNat 21) = (AV.b true = AV.b true) := by kernel_rfl
theorem n_4_22 : Gn (Int.ofNat 4) (Int.ofNat 22) = (AV.b true = AV.b true) := by kernel_rfl
theorem n_4_23 : Gn (Int.ofNat 4) (Int.ofNat 23) = (AV.b true = AV.b true) := by kernel_rfl
theorem n_4_24 : Gn (Int.ofNat 4) (Int.ofNat 24) = (AV.b true = AV.b true) := by kernel_rfl
theorem n_4_25 : Gn (Int.ofNat 4) (Int.ofNat 25) = (AV.b true = AV.b true) := by kernel_rfl
theorem n_4_26 : Gn (Int.ofNat 4) (Int.ofNat 26) = (AV.b true = AV.b true) := by kernel_rfl
theorem n_4_27 : Gn (Int.ofNat 4) (Int.ofNat 27) = (AV.b true = AV.b true) := by kernel_rfl
theorem n_4_28 : Gn (Int.ofNat 4) (Int.ofNat 28) = (AV.b true = AV.b true) := by kernel_rfl
theorem n_4_29 : Gn (Int.ofNat 4) (Int.ofNat 29) = (AV.b true = AV.b true) := by kernel_rfl
theorem n_4_30 : Gn (Int.ofNat 4) (Int.ofNat 30) = (AV.b true = AV.b true) := by kernel_rfl
theorem n_4_31 : Gn (Int.ofNat 4) (Int.ofNat 31) = (AV.b true = AV.b true) := by kernel_rfl
theorem n_4_32 : Gn (Int.ofNat 4) (Int.ofNat 32) = (AV.b true = AV.b true) := by kernel_rfl
theorem n_4_g (y : Nat) : Gn (Int.ofNat 4) (Int.ofNat (y + 33)) = (AV.b true = AV.b true) := by kernel_rfl
theorem m_4 (b : Int) : Gn (Int.ofNat 4) b := by
  rcases b with n | y
  · by_cases h : n < 33
    · have h : n = 0 ∨ n = 1 ∨ n = 2 ∨ n = 3 ∨ n = 4 ∨ n = 5 ∨ n = 6 ∨ n = 7 ∨ n = 8 ∨ n = 9 ∨ n = 10 ∨ n = 11 ∨ n = 12 ∨ n = 13 ∨ n = 14 ∨ n = 15 ∨ n = 16 ∨ n = 17 ∨ n = 18 ∨ n = 19 ∨ n = 20 ∨ n = 21 ∨ n = 22 ∨ n = 23 ∨ n = 24 ∨ n = 25 ∨ n = 26 ∨ n = 27 ∨ n = 28 ∨ n = 29 ∨ n = 30 ∨ n = 31 ∨ n = 32 := by omega
      rcases h with rfl | rfl | rfl | rfl | rfl | rfl | rfl | rfl | rfl | rfl | rfl | rfl | rfl | rfl | rfl | rfl | rfl | rfl | rfl | rfl | rfl | rfl | rfl | rfl | rfl | rfl | rfl | rfl | rfl | rfl | rfl | rfl | rfl
      · exact of (n_4_0)
      · exact of (n_4_1)
      · exact of (n_4_2)
      · exact of (n_4_3)
      · exact of (n_4_4)
      · exact of (n_4_5)
      · exact of (n_4_6)
      · exact of (n_4_7)
      · exact of (n_4_8)
      · exact of (n_4_9)
      · exact of (n_4_10)
      · exact of (n_4_11)
      · exact of (n_4_12)
      · exact of (n_4_13)
      · exact of (n_4_14)
      · exact of (n_4_15)
      · exact of (n_4_16)
      · exact of (n_4_17)
      · exact of (n_4_18)
      · exact of (n_4_19)
      · exact of (n_4_20)
      · exact of (n_4_21)
      · exact of (n_4_22)
      · exact of (n_4_23)
      · exact of (n_4_24)
      · exact of (n_4_25)
      · exact of (n_4_26)
      · exact of (n_4_27)
      · exact of (n_4_28)
      · exact of (n_4_29)
      · exact of (n_4_30)
      · exact of (n_4_31)
      · exact of (n_4_32)
    · obtain ⟨y, rfl⟩ : ∃ y, n = y + 33 := ⟨n - 33, by omega⟩
      exact of (n_4_g y)
  · exact of (n_4_n y)
theorem n_5_n (y : Nat) : Gn (Int.ofNat 5) (Int.negSucc y) = (AV.b true = AV.b true) := by kernel_rfl
theorem n_5_0 : Gn (Int.ofNat 5) (Int.ofNat 0) = (AV.b true = AV.b true) := by kernel_rfl
theorem n_5_1 : Gn (Int.ofNat 5) (Int.ofNat 1) = (AV.b true = AV.b true) := by kernel_rfl
theorem n_5_2 : Gn (Int.ofNat 5) (Int.ofNat 2) = (AV.b true = AV.b true) := by kernel_rfl
theorem n_5_3 : Gn (Int.ofNat 5) (Int.ofNat 3) = (AV.b true = AV.b true) := by kernel_rfl
theorem n_5_4 : Gn (Int.ofNat 5) (Int.ofNat 4) = (AV.b true = AV.b true) := by kernel_rfl
theorem n_5_5 : Gn (Int.ofNat 5) (Int.ofNat 5) = (AV.b true = AV.b true) := by kernel_rfl
theorem n_5_6 : Gn (Int.ofNat 5) (Int.ofNat 6) = (AV.b true = AV.b true) := by kernel_rfl
theorem n_5_7 : Gn (Int.ofNat 5) (Int.ofNat 7) = (AV.b true = AV.b true) := by kernel_rfl
theorem n_5_8 : Gn (Int.ofNat 5) (Int.ofNat 8) = (AV.b true = AV.b true) := by kernel_rfl
theorem n_5_9 : Gn (Int.ofNat 5) (Int.ofNat 9) = (AV.b true = AV.b true) := by kernel_rfl
theorem n_5_10 : Gn (Int.ofNat 5) (Int.ofNat 10) = (AV.b true = AV.b true) := by kernel_rfl
theorem n_5_11 : Gn (Int.ofNat 5) (Int.ofNat 11) = (AV.b true = AV.b true) := by kernel_rfl
theorem n_5_12 : Gn (Int.ofNat 5) (Int.ofNat 12) = (AV.b true = AV.b true) := by kernel_rfl
theorem n_5_13 : Gn (Int.ofNat 5) (Int.ofNat 13) = (AV.b true = AV.b true) := by kernel_rfl
theorem n_5_14 : Gn (Int.ofNat 5) (Int.ofNat 14) = (AV.b true = AV.b true) := by kernel_rfl
theorem n_5_15 : Gn (Int.ofNat 5) (Int.ofNat 15) = (AV.b true = AV.b true) := by kernel_rfl
theorem n_5_16 : Gn (Int.ofNat 5) (Int.ofNat 16) = (AV.b true = AV.b true) := by kernel_rfl
theorem n_5_17 : Gn (Int.ofNat 5) (Int.ofNat 17) = (AV.b true = AV.b true) := by kernel_rfl
theorem n_5_18 : Gn (Int.ofNat 5) (Int.ofNat 18) = (AV.b true = AV.b true) := by kernel_rfl
theorem n_5_19 : Gn (Int.ofNat 5) (Int.ofNat 19) = (AV.b true = AV.b true) := by kernel_rfl
theorem n_5_20 : Gn (Int.ofNat 5) (Int.ofNat 20) = (AV.b true = AV.b true) := by kernel_rfl
theorem n_5_21 : Gn (Int.ofNat 5) (Int.ofNat 21) = (AV.b true = AV.b true) := by kernel_rfl
theorem n_5_22 : Gn (Int.ofNat 5) (Int.ofNat 22) = (AV.b true = AV.b true) := by kernel_rfl
theorem n_5_23 : Gn (Int.ofNat 5) (Int.ofNat 23) = (AV.b true = AV.b true) := by kernel_rfl
theorem n_5_24 : Gn (Int.ofNat 5) (Int.ofNat 24) = (AV.b true = AV.b true) := by kernel_rfl
theorem n_5_25 : Gn (Int.ofNat 5) (Int.ofNat 25) = (AV.b true = AV.b true) := by kernel_rfl
theorem n_5_26 : Gn (Int.ofNat 5) (Int.ofNat 26) = (AV.b true = AV.b true) := by kernel_rfl
theorem n_5_27 : Gn (Int.ofNat 5) (Int.ofNat 27) = (AV.b true = AV.b true) := by kernel_rfl
theorem n_5_28 : Gn (Int.ofNat 5) (Int.ofNat 28) = (AV.b true = AV.b true) := by kernel_rfl
theorem n_5_29 : Gn (Int.ofNat 5) (Int.ofNat 29) = (AV.b true = AV.b true) := by kernel_rfl
theorem n_5_30 : Gn (Int.ofNat 5) (Int.ofNat 30) = (AV.b true = AV.b true) := by kernel_rfl
theorem n_5_31 : Gn (Int.ofNat 5) (Int.ofNat 31) = (AV.b true = AV.b true) := by kernel_rfl
theorem n_5_32 : Gn (Int.ofNat 5) (Int.ofNat 32) = (AV.b true = AV.b true) := by kernel_rfl
theorem n_5_g (y : Nat) : Gn (Int.ofNat 5) (Int.ofNat (y + 33)) = (AV.b true = AV.b true) := by kernel_rfl
theorem m_5 (b : Int) : Gn (Int.ofNat 5) b := by
  rcases b with n | y
  · by_cases h : n < 33
    · have h : n = 0 ∨ n = 1 ∨ n = 2 ∨ n = 3 ∨ n = 4 ∨ n = 5 ∨ n = 6 ∨ n = 7 ∨ n = 8 ∨ n = 9 ∨ n = 10 ∨ n = 11 ∨ n = 12 ∨ n = 13 ∨ n = 14 ∨ n = 15 ∨ n = 16 ∨ n = 17 ∨ n = 18 ∨ n = 19 ∨ n = 20 ∨ n = 21 ∨ n = 22 ∨ n = 23 ∨ n = 24 ∨ n = 25 ∨ n = 26 ∨ n = 27 ∨ n = 28 ∨ n = 29 ∨ n = 30 ∨ n = 31 ∨ n = 32 := by omega
      rcases h with rfl | rfl | rfl | rfl | rfl | rfl | rfl | rfl | rfl | rfl | rfl | rfl | rfl | rfl | rfl | rfl | rfl | rfl | rfl | rfl | rfl | rfl | rfl | rfl | rfl | rfl | rfl | rfl | rfl | rfl | rfl | rfl | rfl
      · exact of (n_5_0)
      · exact of (n_5_1)
      · exact of (n_5_2)
      · exact of (n_5_3)
      · exact of (n_5_4)
      · exact of (n_5_5)
      · exact of (n_5_6)
      · exact of (n_5_7)
      · exact of (n_5_8)
      · exact of (n_5_9)
      · exact of (n_5_10)
      · exact of (n_5_11)
      · exact of (n_5_12)
      · exact of (n_5_13)
      · exact of (n_5_14)
      · exact of (n_5_15)
      · exact of (n_5_16)
      · exact of (n_5_17)
      · exact of (n_5_18)
      · exact of (n_5_19)
      · exact of (n_5_20)
      · exact of (n_5_21)
      · exact of (n_5_22)
      · exact of (n_5_23)
      · exact of (n_5_24)
      · exact of (n_5_25)
      · exact of (n_5_26)
      · exact of (n_5_27)
      · exact of (n_5_28)
      · exact of (n_5_29)
      · exact of (n_5_30)
      · exact of (n_5_31)
      · exact of (n_5_32)
    · obtain ⟨y, rfl⟩ : ∃ y, n = y + 33 := ⟨n - 33, by omega⟩
      exact of (n_5_g y)
  · exact of (n_5_n y)
theorem n_6_n (y : Nat) : Gn (Int.ofNat 6) (Int.negSucc y) = (AV.b true = AV.b true) := by kernel_rfl
theorem n_6_0 : Gn (Int.ofNat 6) (Int.ofNat 0) = (AV.b true = AV.b true) := by kernel_rfl
theorem n_6_1 : Gn (Int.ofNat 6) (Int.ofNat 1) = (AV.b true = AV.b true) := by kernel_rfl
theorem n_6_2 : Gn (Int.ofNat 6) (Int.ofNat 2) = (AV.b true = AV.b true) := by kernel_rfl
theorem n_6_3 : Gn (Int.ofNat 6) (Int.ofNat 3) = (AV.b true = AV.b true) := by kernel_rfl
theorem n_6_4 : Gn (Int.ofNat 6) (Int.ofNat 4) = (AV.b true = AV.b true) := by kernel_rfl
theorem n_6_5 : Gn (Int.ofNat 6) (Int.ofNat 5) = (AV.b true = AV.b true) := by kernel_rfl
theorem n_6_6 : Gn (Int.ofNat 6) (Int.ofNat 6) = (AV.b true = AV.b true) := by kernel_rfl
theorem n_6_7 : Gn (Int.ofNat 6) (Int.ofNat 7) = (AV.b true = AV.b true) := by kernel_rfl
theorem n_6_8 : Gn (Int.ofNat 6) (Int.ofNat 8) = (AV.b true = AV.b true) := by kernel_rfl
theorem n_6_9 : Gn (Int.ofNat 6) (Int.ofNat 9) = (AV.b true = AV.b true) := by kernel_rfl
theorem n_6_10 : Gn (Int.ofNat 6) (Int.ofNat 10) = (AV.b true = AV.b true) := by kernel_rfl
theorem n_6_11 : Gn (Int.ofNat 6) (Int.ofNat 11) = (AV.b true = AV.b true) := by kernel_rfl
theorem n_6_12 : Gn (Int.ofNat 6) (Int.ofNat 12) = (AV.b true = AV.b true) := by kernel_rfl
theorem n_6_13 : Gn (Int.ofNat 6) (Int.ofNat 13) = (AV.b true = AV.b true) := by kernel_rfl
theorem n_6_14 : Gn (Int.ofNat 6) (Int.ofNat 14) = (AV.b true = AV.b true) := by kernel_rfl
theorem n_6_15 : Gn (Int.ofNat 6) (Int.ofNat 15) = (AV.b true = AV.b true) := by kernel_rfl
theorem n_6_16 : Gn (Int.ofNat 6) (Int.ofNat 16) = (AV.b true = AV.b true) := by kernel_rfl
theorem n_6_17 : Gn (Int.ofNat 6) (Int.ofNat 17) = (AV.b true = AV.b true) := by kernel_rfl
theorem n_6_18 : Gn (Int.ofNat 6) (Int.ofNat 18) = (AV.b true = AV.b true) := by kernel_rfl
theorem n_6_19 : Gn (Int.ofNat 6) (Int.ofNat 19) = (AV.b true = AV.b true) := by kernel_rfl
theorem n_6_20 : Gn (Int.ofNat 6) (Int.ofNat 20) = (AV.b true = AV.b true) := by kernel_rfl
theorem n_6_21 : Gn (Int.ofNat 6) (Int.ofNat 21) = (AV.b true = AV.b true) := by kernel_rfl
theorem n_6_22 : Gn (Int.ofNat 6) (Int.ofNat 22) = (AV.b true = AV.b true) := by kernel_rfl
theorem n_6_23 : Gn (Int.ofNat 6) (Int.ofNat 23) = (AV.b true = AV.b true) := by kernel_rfl
theorem n_6_24 : Gn (Int.ofNat 6) (Int.ofNat 24) = (AV.b true = AV.b true) := by kernel_rfl
theorem n_6_25 : Gn (Int.ofNat 6) (Int.ofNat 25) = (AV.b true = AV.b true) := by kernel_rfl
theorem n_6_26 : Gn (Int.ofNat 6) (Int.ofNat 26) = (AV.b true = AV.b true) := by kernel_rfl
theorem n_6_27 : Gn (Int.ofNat 6) (Int.ofNat 27) = (AV.b true = AV.b true) := by kernel_rfl
theorem n_6_28 : Gn (Int.ofNat 6) (Int.ofNat 28) = (AV.b true = AV.b true) := by kernel_rfl
theorem n_6_29 : Gn (Int.ofNat 6) (Int.ofNat 29) = (AV.b true = AV.b true) := by kernel_rfl
theorem n_6_30 : Gn (Int.ofNat 6) (Int.ofNat 30) = (AV.b true = AV.b true) := by kernel_rfl
theorem n_6_31 : Gn (Int.ofNat 6) (Int.ofNat 31) = (AV.b true = AV.b true) := by kernel_rfl
theorem n_6_32 : Gn (Int.ofNat 6) (Int.ofNat 32) = (AV.b true = AV.b true) := by kernel_rfl
theorem n_6_g (y : Nat) : Gn (Int.ofNat 6) (Int.ofNat (y + 33)) = (AV.b true = AV.b true) := by kernel_rfl
theorem m_6 (b : Int) : Gn (Int.ofNat 6) b := by
  rcases b with n | y
  · by_cases h : n < 33
    · have h : n = 0 ∨ n = 1 ∨ n = 2 ∨ n = 3 ∨ n = 4 ∨ n = 5 ∨ n = 6 ∨ n = 7 ∨ n = 8 ∨ n = 9 ∨ n = 10 ∨ n = 11 ∨ n = 12 ∨ n = 13 ∨ n = 14 ∨ n = 15 ∨ n = 16 ∨ n = 17 ∨ n = 18 ∨ n = 19 ∨ n = 20 ∨ n = 21 ∨ n = 22 ∨ n = 23 ∨ n = 24 ∨ n = 25 ∨ n = 26 ∨ n = 27 ∨ n = 28 ∨ n = 29 ∨ n = 30 ∨ n = 31 ∨ n = 32 := by omega
      rcases h with rfl | rfl | rfl | rfl | rfl | rfl | rfl | rfl | rfl | rfl | rfl | rfl | rfl | rfl | rfl | rfl | rfl | rfl | rfl | rfl | rfl | rfl | rfl | rfl | rfl | rfl | rfl | rfl | rfl | rfl | rfl | rfl | rfl
      · exact of (n_6_0)
      · exact of (n_6_1)
      · exact of (n_6_2)
      · exact of (n_6_3)
      · exact of (n_6_4)
      · exact of (n_6_5)
      · exact of (n_6_6)
      · exact of (n_6_7)
      · exact of (n_6_8)
      · exact of (n_6_9)
      · exact of (n_6_10)
      · exact of (n_6_11)
      · exact of (n_6_12)
      · exact of (n_6_13)
      · exact of (n_6_14)
      · exact of (n_6_15)
      · exact of (n_6_16)
      · exact of (n_6_17)
      · exact of (n_6_18)
      · exact of (n_6_19)
      · exact of (n_6_20)
      · exact of (n_6_21)
      · exact of (n_6_22)
      · exact of (n_6_23)
      · exact of (n_6_24)
      · exact of (n_6_25)
      · exact of (n_6_26)
      · exact of (n_6_27)
      · exact of (n_6_28)
      · exact of (n_6_29)
      · exact of (n_6_30)
      · exact of (n_6_31)
      · exact of (n_6_32)
    · obtain ⟨y, rfl⟩ : ∃ y, n = y + 33 := ⟨n - 33, by omega⟩
      exact of (n_6_g y)
  · exact of (n_6_n y)
theorem n_7_n (y : Nat) : Gn (Int.ofNat 7) (Int.negSucc y) = (AV.b true = AV.b true) := by kernel_rfl
theorem n_7_0 : Gn (Int.ofNat 7) (Int.ofNat 0) = (AV.b true = AV.b true) := by kernel_rfl
theorem n_7_1 : Gn (Int.ofNat 7) (Int.ofNat 1) = (AV.b true = AV.b true) := by kernel_rfl
theorem n_7_2 : Gn (Int.ofNat 7) (Int.ofNat 2) = (AV.b true = AV.b true) := by kernel_rfl
theorem n_7_3 : Gn (Int.ofNat 7) (Int.ofNat 3) = (AV.b true = AV.b true) := by kernel_rfl
theorem n_7_4 : Gn (Int.ofNat 7) (Int.ofNat 4) = (AV.b true = AV.b true) := by kernel_rfl
theorem n_7_5 : Gn (Int.ofNat 7) (Int.ofNat 5) = (AV.b true = AV.b true) := by kernel_rfl
theorem n_7_6 : Gn (Int.ofNat 7) (Int.ofNat 6) = (AV.b true = AV.b true) := by kernel_rfl
theorem n_7_7 : Gn (Int.ofNat 7) (Int.ofNat 7) = (AV.b true = AV.b true) := by kernel_rfl
theorem n_7_8 : Gn (Int.ofNat 7) (Int.ofNat 8) = (AV.b true = AV.b true) := by kernel_rfl
theorem n_7_9 : Gn (Int.ofNat 7) (Int.ofNat 9) = (AV.b true = AV.b true) := by kernel_rfl
theorem n_7_10 : Gn (Int.ofNat 7) (Int.ofNat 10) = (AV.b true = AV.b true) := by kernel_rfl
theorem n_7_11 : Gn (Int.ofNat 7) (Int.ofNat 11) = (AV.b true = AV.b true) := by kernel_rfl
theorem n_7_12 : Gn (Int.ofNat 7) (Int.ofNat 12) = (AV.b true = AV.b true) := by kernel_rfl
theorem n_7_13 : Gn (Int.ofNat 7) (Int.ofNat 13) = (AV.b true = AV.b true) := by kernel_rfl
theorem n_7_14 : Gn (Int.ofNat 7) (Int.ofNat 14) = (AV.b true = AV.b true) := by kernel_rfl
theorem n_7_15 : Gn (Int.ofNat 7) (Int.ofNat 15) = (AV.b true = AV.b true) := by kernel_rfl
theorem n_7_16 : Gn (Int.ofNat 7) (Int.ofNat 16) = (AV.b true = AV.b true) := by kernel_rfl
theorem n_7_17 : Gn (Int.ofNat 7) (Int.ofNat 17) = (AV.b true = AV.b true) := by kernel_rfl
theorem n_7_18 : Gn (Int.ofNat 7) (Int.ofNat 18) = (AV.b true = AV.b true) := by kernel_rfl
theorem n_7_19 : Gn (Int.ofNat 7) (Int.ofNat 19) = (AV.b true = AV.b true) := by kernel_rfl
theorem n_7_20 : Gn (Int.ofNat 7) (Int.ofNat 20) = (AV.b true = AV.b true) := by kernel_rfl
theorem n_7_21 : Gn (Int.ofNat 7) (Int.ofNat 21) = (AV.b true = AV.b true) := by kernel_rfl
theorem n_7_22 : Gn (Int.ofNat 7) (Int.ofNat 22) = (AV.b true = AV.b true) := by kernel_rfl
theorem n_7_23 : Gn (Int.ofNat 7) (Int.ofNat 23) = (AV.b true = AV.b true) := by kernel_rfl
theorem n_7_24 : Gn (Int.ofNat 7) (Int.ofNat 24) = (AV.b true = AV.b true) := by kernel_rfl
theorem n_7_25 : Gn (Int.ofNat 7) (Int.ofNat 25) = (AV.b true = AV.b true) := by kernel_rfl
theorem n_7_26 : Gn (Int.ofNat 7) (Int.ofNat 26) = (AV.b true = AV.b true) := by kernel_rfl
theorem n_7_27 : Gn (Int.ofNat 7) (Int.ofNat 27) = (AV.b true = AV.b true) := by kernel_rfl
theorem n_7_28 : Gn (Int.ofNat 7) (Int.ofNat 28) = (AV.b true = AV.b true) := by kernel_rfl
theorem n_7_29 : Gn (Int.ofNat 7) (Int.ofNat 29) = (AV.b true = AV.b true) := by kernel_rfl
theorem n_7_30 : Gn (Int.ofNat 7) (Int.ofNat 30) = (AV.b true = AV.b true) := by kernel_rfl
theorem n_7_31 : Gn (Int.ofNat 7) (Int.ofNat 31) = (AV.b true = AV.b true) := by kernel_rfl
theorem n_7_32 : Gn (Int.ofNat 7) (Int.ofNat 32) = (AV.b true = AV.b true) := by kernel_rfl
theorem n_7_g (y : Nat) : Gn (Int.ofNat 7) (Int.ofNat (y + 33)) = (AV.b true = AV.b true) := by kernel_rfl
theorem m_7 (b : Int) : Gn (Int.ofNat 7) b := by
  rcases b with n | y
  · by_cases h : n < 33
    · have h : n = 0 ∨ n = 1 ∨ n = 2 ∨ n = 3 ∨ n = 4 ∨ n = 5 ∨ n = 6 ∨ n = 7 ∨ n = 8 ∨ n = 9 ∨ n = 10 ∨ n = 11 ∨ n = 12 ∨ n = 13 ∨ n = 14 ∨ n = 15 ∨ n = 16 ∨ n = 17 ∨ n = 18 ∨ n = 19 ∨ n = 20 ∨ n = 21 ∨ n = 22 ∨ n = 23 ∨ n = 24 ∨ n = 25 ∨ n = 26 ∨ n = 27 ∨ n = 28 ∨ n = 29 ∨ n = 30 ∨ n = 31 ∨ n = 32 := by omega
      rcases h with rfl | rfl | rfl | rfl | rfl | rfl | rfl | rfl | rfl | rfl | rfl | rfl | rfl | rfl | rfl | rfl | rfl | rfl | rfl | rfl | rfl | rfl | rfl | rfl | rfl | rfl | rfl | rfl | rfl | rfl | rfl | rfl | rfl
      · exact of (n_7_0)
      · exact of (n_7_1)
      · exact of (n_7_2)
      · exact of (n_7_3)
      · exact of (n_7_4)
      · exact of (n_7_5)
      · exact of (n_7_6)
      · exact of (n_7_7)
      · exact of (n_7_8)
      · exact of (n_7_9)
      · exact of (n_7_10)
      · exact of (n_7_11)
      · exact of (n_7_12)
      · exact of (n_7_13)
      · exact of (n_7_14)
      · exact of (n_7_15)
      · exact of (n_7_16)
      · exact of (n_7_17)
      · exact of (n_7_18)
      · exact of (n_7_19)
      · exact of (n_7_20)
      · exact of (n_7_21)
      · exact of (n_7_22)
      · exact of (n_7_23)
      · exact of (n_7_24)
      · exact of (n_7_25)
      · exact of (n_7_26)
      · exact of (n_7_27)
      · exact of (n_7_28)
      · exact of (n_7_29)
      · exact of (n_7_30)
      · exact of (n_7_31)
      · exact of (n_7_32)
    · obtain ⟨y, rfl⟩ : ∃ y, n = y + 33 := ⟨n - 33, by omega⟩
      exact of (n_7_g y)
  · exact of (n_7_n y)
theorem n_8_n (y : Nat) : Gn (Int.ofNat 8) (Int.negSucc y) = (AV.b true = AV.b true) := by kernel_rfl
theorem n_8_0 : Gn (Int.ofNat 8) (Int.ofNat 0) = (AV.b true = AV.b true) := by kernel_rfl
theorem n_8_1 : Gn (Int.ofNat 8) (Int.ofNat 1) = (AV.b true = AV.b true) := by kernel_rfl
theorem n_8_2 : Gn (Int.ofNat 8) (Int.ofNat 2) = (AV.b true = AV.b true) := by kernel_rfl
theorem n_8_3 : Gn (Int.ofNat 8) (Int.ofNat 3) = (AV.b true = AV.b true) := by kernel_rfl
theorem n_8_4 : Gn (Int.ofNat 8) (Int.ofNat 4) = (AV.b true = AV.b true) := by kernel_rfl
theorem n_8_5 : Gn (Int.ofNat 8) (Int.ofNat 5) = (AV.b true = AV.b true) := by kernel_rfl
theorem n_8_6 : Gn (Int.ofNat 8) (Int.ofNat 6) = (AV.b true = AV.b true) := by kernel_rfl
theorem n_8_7 : Gn (Int.ofNat 8) (Int.ofNat 7) = (AV.b true = AV.b true) := by kernel_rfl
theorem n_8_8 : Gn (Int.ofNat 8) (Int.ofNat 8) = (AV.b true = AV.b true) := by kernel_rfl
theorem n_8_9 : Gn (Int.ofNat 8) (Int.ofNat 9) = (AV.b true = AV.b true) := by kernel_rfl
theorem n_8_10 : Gn (Int.ofNat 8) (Int.ofNat 10) = (AV.b true = AV.b true) := by kernel_rfl
theorem n_8_11 : Gn (Int.ofNat 8) (Int.ofNat 11) = (AV.b true = AV.b true) := by kernel_rfl
theorem n_8_12 : Gn (Int.ofNat 8) (Int.ofNat 12) = (AV.b true = AV.b true) := by kernel_rfl
theorem n_8_13 : Gn (Int.ofNat 8) (Int.ofNat 13) = (AV.b true = AV.b true) := by kernel_rfl
theorem n_8_14 : Gn (Int.ofNat 8) (Int.ofNat 14) = (AV.b true = AV.b true) := by kernel_rfl
theorem n_8_15 : Gn (Int.ofNat 8) (Int.ofNat 15) = (AV.b true = AV.b true) := by kernel_rfl
theorem n_8_16 : Gn (Int.ofNat 8) (Int.ofNat 16) = (AV.b true = AV.b true) := by kernel_rfl
theorem n_8_17 : Gn (Int.ofNat 8) (Int.ofNat 17) = (AV.b true = AV.b true) := by kernel_rfl
theorem n_8_18 : Gn (Int.ofNat 8) (Int.ofNat 18) = (AV.b true = AV.b true) := by kernel_rfl
theorem n_8_19 : Gn (Int.ofNat 8) (Int.ofNat 19) = (AV.b true = AV.b true) := by kernel_rfl
theorem n_8_20 : Gn (Int.ofNat 8) (Int.ofNat 20) = (AV.b true = AV.b true) := by kernel_rfl
theorem n_8_21 : Gn (Int.ofNat 8) (Int.ofNat 21) = (AV.b true = AV.b true) := by kernel_rfl
theorem n_8_22 : Gn (Int.ofNat 8) (Int.ofNat 22) = (AV.b true = AV.b true) := by kernel_rfl
theorem n_8_23 : Gn (Int.ofNat 8) (Int.ofNat 23) = (AV.b true = AV.b true) := by kernel_rfl
theorem n_8_24 : Gn (Int.ofNat 8) (Int.ofNat 24) = (AV.b true = AV.b true) := by kernel_rfl
theorem n_8_25 : Gn (Int.ofNat 8) (Int.ofNat 25) = (AV.b true = AV.b true) := by kernel_rfl
theorem n_8_26 : Gn (Int.ofNat 8) (Int.ofNat 26) = (AV.b true = AV.b true) := by kernel_rfl
theorem n_8_27 : Gn (Int.ofNat 8) (Int.ofNat 27) = (AV.b true = AV.b true) := by kernel_rfl
theorem n_8_28 : Gn (Int.ofNat 8) (Int.ofNat 28) = (AV.b true = AV.b true) := by kernel_rfl
theorem n_8_29 : Gn (Int.ofNat 8) (Int.ofNat 29) = (AV.b true = AV.b true) := by kernel_rfl
theorem n_8_30 : Gn (Int.ofNat 8) (Int.ofNat 30) = (AV.b true = AV.b true) := by kernel_rfl
theorem n_8_31 : Gn (Int.ofNat 8) (Int.ofNat 31) = (AV.b true = AV.b true) := by kernel_rfl
theorem n_8_32 : Gn (Int.ofNat 8) (Int.ofNat 32) = (AV.b true = AV.b true) := by kernel_rfl
theorem n_8_g (y : Nat) : Gn (Int.ofNat 8) (Int.ofNat (y + 33)) = (AV.b true = AV.b true) := by kernel_rfl
theorem m_8 (b : Int) : Gn (Int.ofNat 8) b := by
  rcases b with n | y
  · by_cases h : n < 33
    · have h : n = 0 ∨ n = 1 ∨ n = 2 ∨ n = 3 ∨ n = 4 ∨ n = 5 ∨ n = 6 ∨ n = 7 ∨ n = 8 ∨ n = 9 ∨ n = 10 ∨ n = 11 ∨ n = 12 ∨ n = 13 ∨ n = 14 ∨ n = 15 ∨ n = 16 ∨ n = 17 ∨ n = 18 ∨ n = 19 ∨ n = 20 ∨ n = 21 ∨ n = 22 ∨ n = 23 ∨ n = 24 ∨ n = 25 ∨ n = 26 ∨ n = 27 ∨ n = 28 ∨ n = 29 ∨ n = 30 ∨ n = 31 ∨ n = 32 := by omega
      rcases h with rfl | rfl | rfl | rfl | rfl | rfl | rfl | rfl | rfl | rfl | rfl | rfl | rfl | rfl | rfl | rfl | rfl | rfl | rfl | rfl | rfl | rfl | rfl | rfl | rfl | rfl | rfl | rfl | rfl | rfl | rfl | rfl | rfl
      · exact of (n_8_0)
      · exact of (n_8_1)
      · exact of (n_8_2)
      · exact of (n_8_3)
      · exact of (n_8_4)
      · exact of (n_8_5)
      · exact of (n_8_6)
      · exact of (n_8_7)
      · exact of (n_8_8)
      · exact of (n_8_9)
      · exact of (n_8_10)
      · exact of (n_8_11)
      · exact of (n_8_12)
      · exact of (n_8_13)
      · exact of (n_8_14)
      · exact of (n_8_15)
      · exact of (n_8_16)
      · exact of (n_8_17)
      · exact of (n_8_18)
      · exact of (n_8_19)
      · exact of (n_8_20)
      · exact of (n_8_21)
      · exact of (n_8_22)
      · exact of (n_8_23)
      · exact of (n_8_24)
      · exact of (n_8_25)
      · exact of (n_8_26)
      · exact of (n_8_27)
      · exact of (n_8_28)
      · exact of (n_8_29)
      · exact of (n_8_30)
      · exact of (n_8_31)
      · exact of (n_8_32)
    · obtain ⟨y, rfl⟩ : ∃ y, n = y + 33 := ⟨n - 33, by omega⟩
      exact of (n_8_g y)
  · exact of (n_8_n y)
end
end Go.Proofs.YtkfcecaoaplfkaaDoor.T
