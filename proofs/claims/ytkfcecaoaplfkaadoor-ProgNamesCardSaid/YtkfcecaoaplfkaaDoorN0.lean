/- ProgNames: some of the first numbers, each second one: by the kernel. -/
import Derived.Test.YtkfcecaoaplfkaaDoorPn
set_option linter.unusedVariables false
set_option linter.unusedSimpArgs false
set_option maxRecDepth 100000
namespace Go.Proofs.YtkfcecaoaplfkaaDoor.T
open Go.AM
noncomputable section
theorem n_n_n (x : Nat) (y : Nat) : Gn (Int.negSucc x) (Int.negSucc y) = (AV.b true = AV.b true) := by kernel_rfl
theorem n_n_0 (x : Nat) : Gn (Int.negSucc x) (Int.ofNat 0) = (AV.b true = AV.b true) := by kernel_rfl
theorem n_n_1 (x : Nat) : Gn (Int.negSucc x) (Int.ofNat 1) = (AV.b true = AV.b true) := by kernel_rfl
theorem n_n_2 (x : Nat) : Gn (Int.negSucc x) (Int.ofNat 2) = (AV.b true = AV.b true) := by kernel_rfl
theorem n_n_3 (x : Nat) : Gn (Int.negSucc x) (Int.ofNat 3) = (AV.b true = AV.b true) := by kernel_rfl
theorem n_n_4 (x : Nat) : Gn (Int.negSucc x) (Int.ofNat 4) = (AV.b true = AV.b true) := by kernel_rfl
theorem n_n_5 (x : Nat) : Gn (Int.negSucc x) (Int.ofNat 5) = (AV.b true = AV.b true) := by kernel_rfl
theorem n_n_6 (x : Nat) : Gn (Int.negSucc x) (Int.ofNat 6) = (AV.b true = AV.b true) := by kernel_rfl
theorem n_n_7 (x : Nat) : Gn (Int.negSucc x) (Int.ofNat 7) = (AV.b true = AV.b true) := by kernel_rfl
theorem n_n_8 (x : Nat) : Gn (Int.negSucc x) (Int.ofNat 8) = (AV.b true = AV.b true) := by kernel_rfl
theorem n_n_9 (x : Nat) : Gn (Int.negSucc x) (Int.ofNat 9) = (AV.b true = AV.b true) := by kernel_rfl
theorem n_n_10 (x : Nat) : Gn (Int.negSucc x) (Int.ofNat 10) = (AV.b true = AV.b true) := by kernel_rfl
theorem n_n_11 (x : Nat) : Gn (Int.negSucc x) (Int.ofNat 11) = (AV.b true = AV.b true) := by kernel_rfl
theorem n_n_12 (x : Nat) : Gn (Int.negSucc x) (Int.ofNat 12) = (AV.b true = AV.b true) := by kernel_rfl
theorem n_n_13 (x : Nat) : Gn (Int.negSucc x) (Int.ofNat 13) = (AV.b true = AV.b true) := by kernel_rfl
theorem n_n_14 (x : Nat) : Gn (Int.negSucc x) (Int.ofNat 14) = (AV.b true = AV.b true) := by kernel_rfl
theorem n_n_15 (x : Nat) : Gn (Int.negSucc x) (Int.ofNat 15) = (AV.b true = AV.b true) := by kernel_rfl
theorem n_n_16 (x : Nat) : Gn (Int.negSucc x) (Int.ofNat 16) = (AV.b true = AV.b true) := by kernel_rfl
theorem n_n_17 (x : Nat) : Gn (Int.negSucc x) (Int.ofNat 17) = (AV.b true = AV.b true) := by kernel_rfl
theorem n_n_18 (x : Nat) : Gn (Int.negSucc x) (Int.ofNat 18) = (AV.b true = AV.b true) := by kernel_rfl
theorem n_n_19 (x : Nat) : Gn (Int.negSucc x) (Int.ofNat 19) = (AV.b true = AV.b true) := by kernel_rfl
theorem n_n_20 (x : Nat) : Gn (Int.negSucc x) (Int.ofNat 20) = (AV.b true = AV.b true) := by kernel_rfl
theorem n_n_21 (x : Nat) : Gn (Int.negSucc x) (Int.ofNat 21) = (AV.b true = AV.b true) := by kernel_rfl
theorem n_n_22 (x : Nat) : Gn (Int.negSucc x) (Int.ofNat 22) = (AV.b true = AV.b true) := by kernel_rfl
theorem n_n_23 (x : Nat) : Gn (Int.negSucc x) (Int.ofNat 23) = (AV.b true = AV.b true) := by kernel_rfl
theorem n_n_24 (x : Nat) : Gn (Int.negSucc x) (Int.ofNat 24) = (AV.b true = AV.b true) := by kernel_rfl
theorem n_n_25 (x : Nat) : Gn (Int.negSucc x) (Int.ofNat 25) = (AV.b true = AV.b true) := by kernel_rfl
theorem n_n_26 (x : Nat) : Gn (Int.negSucc x) (Int.ofNat 26) = (AV.b true = AV.b true) := by kernel_rfl
theorem n_n_27 (x : Nat) : Gn (Int.negSucc x) (Int.ofNat 27) = (AV.b true = AV.b true) := by kernel_rfl
theorem n_n_28 (x : Nat) : Gn (Int.negSucc x) (Int.ofNat 28) = (AV.b true = AV.b true) := by kernel_rfl
theorem n_n_29 (x : Nat) : Gn (Int.negSucc x) (Int.ofNat 29) = (AV.b true = AV.b true) := by kernel_rfl
theorem n_n_30 (x : Nat) : Gn (Int.negSucc x) (Int.ofNat 30) = (AV.b true = AV.b true) := by kernel_rfl
theorem n_n_31 (x : Nat) : Gn (Int.negSucc x) (Int.ofNat 31) = (AV.b true = AV.b true) := by kernel_rfl
theorem n_n_32 (x : Nat) : Gn (Int.negSucc x) (Int.ofNat 32) = (AV.b true = AV.b true) := by kernel_rfl
theorem n_n_g (x : Nat) (y : Nat) : Gn (Int.negSucc x) (Int.ofNat (y + 33)) = (AV.b true = AV.b true) := by kernel_rfl
theorem m_n (x : Nat) (b : Int) : Gn (Int.negSucc x) b := by
  rcases b with n | y
  · by_cases h : n < 33
    · have h : n = 0 ∨ n = 1 ∨ n = 2 ∨ n = 3 ∨ n = 4 ∨ n = 5 ∨ n = 6 ∨ n = 7 ∨ n = 8 ∨ n = 9 ∨ n = 10 ∨ n = 11 ∨ n = 12 ∨ n = 13 ∨ n = 14 ∨ n = 15 ∨ n = 16 ∨ n = 17 ∨ n = 18 ∨ n = 19 ∨ n = 20 ∨ n = 21 ∨ n = 22 ∨ n = 23 ∨ n = 24 ∨ n = 25 ∨ n = 26 ∨ n = 27 ∨ n = 28 ∨ n = 29 ∨ n = 30 ∨ n = 31 ∨ n = 32 := by omega
      rcases h with rfl | rfl | rfl | rfl | rfl | rfl | rfl | rfl | rfl | rfl | rfl | rfl | rfl | rfl | rfl | rfl | rfl | rfl | rfl | rfl | rfl | rfl | rfl | rfl | rfl | rfl | rfl | rfl | rfl | rfl | rfl | rfl | rfl
      · exact of (n_n_0 x)
      · exact of (n_n_1 x)
      · exact of (n_n_2 x)
      · exact of (n_n_3 x)
      · exact of (n_n_4 x)
      · exact of (n_n_5 x)
      · exact of (n_n_6 x)
      · exact of (n_n_7 x)
      · exact of (n_n_8 x)
      · exact of (n_n_9 x)
      · exact of (n_n_10 x)
      · exact of (n_n_11 x)
      · exact of (n_n_12 x)
      · exact of (n_n_13 x)
      · exact of (n_n_14 x)
      · exact of (n_n_15 x)
      · exact of (n_n_16 x)
      · exact of (n_n_17 x)
      · exact of (n_n_18 x)
      · exact of (n_n_19 x)
      · exact of (n_n_20 x)
      · exact of (n_n_21 x)
      · exact of (n_n_22 x)
      · exact of (n_n_23 x)
      · exact of (n_n_24 x)
      · exact of (n_n_25 x)
      · exact of (n_n_26 x)
      · exact of (n_n_27 x)
      · exact of (n_n_28 x)
      · exact of (n_n_29 x)
      · exact of (n_n_30 x)
      · exact of (n_n_31 x)
      · exact of (n_n_32 x)
    · obtain ⟨y, rfl⟩ : ∃ y, n = y + 33 := ⟨n - 33, by omega⟩
      exact of (n_n_g x y)
  · exact of (n_n_n x y)
theorem n_0_n (y : Nat) : Gn (Int.ofNat 0) (Int.negSucc y) = (AV.b true = AV.b true) := by kernel_rfl
theorem n_0_0 : Gn (Int.ofNat 0) (Int.ofNat 0) = (AV.b true = AV.b true) := by kernel_rfl
theorem n_0_1 : Gn (Int.ofNat 0) (Int.ofNat 1) = (AV.b true = AV.b true) := by kernel_rfl
theorem n_0_2 : Gn (Int.ofNat 0) (Int.ofNat 2) = (AV.b true = AV.b true) := by kernel_rfl
theorem n_0_3 : Gn (Int.ofNat 0) (Int.ofNat 3) = (AV.b true = AV.b true) := by kernel_rfl
theorem n_0_4 : Gn (Int.ofNat 0) (Int.ofNat 4) = (AV.b true = AV.b true) := by kernel_rfl
theorem n_0_5 : Gn (Int.ofNat 0) (Int.ofNat 5) = (AV.b true = AV.b true) := by kernel_rfl
theorem n_0_6 : Gn (Int.ofNat 0) (Int.ofNat 6) = (AV.b true = AV.b true) := by kernel_rfl
theorem n_0_7 : Gn (Int.ofNat 0) (Int.ofNat 7) = (AV.b true = AV.b true) := by kernel_rfl
theorem n_0_8 : Gn (Int.ofNat 0) (Int.ofNat 8) = (AV.b true = AV.b true) := by kernel_rfl
theorem n_0_9 : Gn (Int.ofNat 0) (Int.ofNat 9) = (AV.b true = AV.b true) := by kernel_rfl
theorem n_0_10 : Gn (Int.ofNat 0) (Int.ofNat 10) = (AV.b true = AV.b true) := by kernel_rfl
theorem n_0_11 : Gn (Int.ofNat 0) (Int.ofNat 11) = (AV.b true = AV.b true) := by kernel_rfl
theorem n_0_12 : Gn (Int.ofNat 0) (Int.ofNat 12) = (AV.b true = AV.b true) := by kernel_rfl
theorem n_0_13 : Gn (Int.ofNat 0) (Int.ofNat 13) = (AV.b true = AV.b true) := by kernel_rfl
theorem n_0_14 : Gn (Int.ofNat 0) (Int.ofNat 14) = (AV.b true = AV.b true) := by kernel_rfl
theorem n_0_15 : Gn (Int.ofNat 0) (Int.ofNat 15) = (AV.b true = AV.b true) := by kernel_rfl
theorem n_0_16 : Gn (Int.ofNat 0) (Int.ofNat 16) = (AV.b true = AV.b true) := by kernel_rfl
theorem n_0_17 : Gn (Int.ofNat 0) (Int.ofNat 17) = (AV.b true = AV.b true) := by kernel_rfl
theorem n_0_18 : Gn (Int.ofNat 0) (Int.ofNat 18) = (AV.b true = AV.b true) := by kernel_rfl
theorem n_0_19 : Gn (Int.ofNat 0) (Int.ofNat 19) = (AV.b true = AV.b true) := by kernel_rfl
theorem n_0_20 : Gn (Int.ofNat 0) (Int.ofNat 20) = (AV.b true = AV.b true) := by kernel_rfl
theorem n_0_21 : Gn (Int.ofNat 0) (Int.ofNat 21) = (AV.b true = AV.b true) := by kernel_rfl
theorem n_0_22 : Gn (Int.ofNat 0) (Int.ofNat 22) = (AV.b true = AV.b true) := by kernel_rfl
theorem n_0_23 : Gn (Int.ofNat 0) (Int.ofNat 23) = (AV.b true = AV.b true) := by kernel_rfl
theorem n_0_24 : Gn (Int.ofNat 0) (Int.ofNat 24) = (AV.b true = AV.b true) := by kernel_rfl
theorem n_0_25 : Gn (Int.ofNat 0) (Int.ofNat 25) = (AV.b true = AV.b true) := by kernel_rfl
theorem n_0_26 : Gn (Int.ofNat 0) (Int.ofNat 26) = (AV.b true = AV.b true) := by kernel_rfl
theorem n_0_27 : Gn (Int.ofNat 0) (Int.ofNat 27) = (AV.b true = AV.b true) := by kernel_rfl
theorem n_0_28 : Gn (Int.ofNat 0) (Int.ofNat 28) = (AV.b true = AV.b true) := by kernel_rfl
theorem n_0_29 : Gn (Int.ofNat 0) (Int.ofNat 29) = (AV.b true = AV.b true) := by kernel_rfl
theorem n_0_30 : Gn (Int.ofNat 0) (Int.ofNat 30) = (AV.b true = AV.b true) := by kernel_rfl
theorem n_0_31 : Gn (Int.ofNat 0) (Int.ofNat 31) = (AV.b true = AV.b true) := by kernel_rfl
theorem n_0_32 : Gn (Int.ofNat 0) (Int.ofNat 32) = (AV.b true = AV.b true) := by kernel_rfl
theorem n_0_g (y : Nat) : Gn (Int.ofNat 0) (Int.ofNat (y + 33)) = (AV.b true = AV.b true) := by kernel_rfl
theorem m_0 (b : Int) : Gn (Int.ofNat 0) b := by
  rcases b with n | y
  · by_cases h : n < 33
    · have h : n = 0 ∨ n = 1 ∨ n = 2 ∨ n = 3 ∨ n = 4 ∨ n = 5 ∨ n = 6 ∨ n = 7 ∨ n = 8 ∨ n = 9 ∨ n = 10 ∨ n = 11 ∨ n = 12 ∨ n = 13 ∨ n = 14 ∨ n = 15 ∨ n = 16 ∨ n = 17 ∨ n = 18 ∨ n = 19 ∨ n = 20 ∨ n = 21 ∨ n = 22 ∨ n = 23 ∨ n = 24 ∨ n = 25 ∨ n = 26 ∨ n = 27 ∨ n = 28 ∨ n = 29 ∨ n = 30 ∨ n = 31 ∨ n = 32 := by omega
      rcases h with rfl | rfl | rfl | rfl | rfl | rfl | rfl | rfl | rfl | rfl | rfl | rfl | rfl | rfl | rfl | rfl | rfl | rfl | rfl | rfl | rfl | rfl | rfl | rfl | rfl | rfl | rfl | rfl | rfl | rfl | rfl | rfl | rfl
      · exact of (n_0_0)
      · exact of (n_0_1)
      · exact of (n_0_2)
      · exact of (n_0_3)
      · exact of (n_0_4)
      · exact of (n_0_5)
      · exact of (n_0_6)
      · exact of (n_0_7)
      · exact of (n_0_8)
      · exact of (n_0_9)
      · exact of (n_0_10)
      · exact of (n_0_11)
      · exact of (n_0_12)
      · exact of (n_0_13)
      · exact of (n_0_14)
      · exact of (n_0_15)
      · exact of (n_0_16)
      · exact of (n_0_17)
      · exact of (n_0_18)
      · exact of (n_0_19)
      · exact of (n_0_20)
      · exact of (n_0_21)
      · exact of (n_0_22)
      · exact of (n_0_23)
      · exact of (n_0_24)
      · exact of (n_0_25)
      · exact of (n_0_26)
      · exact of (n_0_27)
      · exact of (n_0_28)
      · exact of (n_0_29)
      · exact of (n_0_30)
      · exact of (n_0_31)
      · exact of (n_0_32)
    · obtain ⟨y, rfl⟩ : ∃ y, n = y + 33 := ⟨n - 33, by omega⟩
      exact of (n_0_g y)
  · exact of (n_0_n y)
theorem n_1_n (y : Nat) : Gn (Int.ofNat 1) (Int.negSucc y) = (AV.b true = AV.b true) := by kernel_rfl
theorem n_1_0 : Gn (Int.ofNat 1) (Int.ofNat 0) = (AV.b true = AV.b true) := by kernel_rfl
theorem n_1_1 : Gn (Int.ofNat 1) (Int.ofNat 1) = (AV.b true = AV.b true) := by kernel_rfl
theorem n_1_2 : Gn (Int.ofNat 1) (Int.ofNat 2) = (AV.b true = AV.b true) := by kernel_rfl
theorem n_1_3 : Gn (Int.ofNat 1) (Int.ofNat 3) = (AV.b true = AV.b true) := by kernel_rfl
theorem n_1_4 : Gn (Int.ofNat 1) (Int.ofNat 4) = (AV.b true = AV.b true) := by kernel_rfl
theorem n_1_5 : Gn (Int.ofNat 1) (Int.ofNat 5) = (AV.b true = AV.b true) := by kernel_rfl
theorem n_1_6 : Gn (Int.ofNat 1) (Int.ofNat 6) = (AV.b true = AV.b true) := by kernel_rfl
theorem n_1_7 : Gn (Int.ofNat 1) (Int.ofNat 7) = (AV.b true = AV.b true) := by kernel_rfl
theorem n_1_8 : Gn (Int.ofNat 1) (Int.ofNat 8) = (AV.b true = AV.b true) := by kernel_rfl
theorem n_1_9 : Gn (Int.ofNat 1) (Int.ofNat 9) = (AV.b true = AV.b true) := by kernel_rfl
theorem n_1_10 : Gn (Int.ofNat 1) (Int.ofNat 10) = (AV.b true = AV.b true) := by kernel_rfl
theorem n_1_11 : Gn (Int.ofNat 1) (Int.ofNat 11) = (AV.b true = AV.b true) := by kernel_rfl
theorem n_1_12 : Gn (Int.ofNat 1) (Int.ofNat 12) = (AV.b true = AV.b true) := by kernel_rfl
theorem n_1_13 : Gn (Int.ofNat 1) (Int.ofNat 13) = (AV.b true = AV.b true) := by kernel_rfl
theorem n_1_14 : Gn (Int.ofNat 1) (Int.ofNat 14) = (AV.b true = AV.b true) := by kernel_rfl
theorem n_1_15 : Gn (Int.ofNat 1) (Int.ofNat 15) = (AV.b true = AV.b true) := by kernel_rfl
theorem n_1_16 : Gn (Int.ofNat 1) (Int.ofNat 16) = (AV.b true = AV.b true) := by kernel_rfl
theorem n_1_17 : Gn (Int.ofNat 1) (Int.ofNat 17) = (AV.b true = AV.b true) := by kernel_rfl
theorem n_1_18 : Gn (Int.ofNat 1) (Int.ofNat 18) = (AV.b true = AV.b true) := by kernel_rfl
theorem n_1_19 : Gn (Int.ofNat 1) (Int.ofNat 19) = (AV.b true = AV.b true) := by kernel_rfl
theorem n_1_20 : Gn (Int.ofNat 1) (Int.ofNat 20) = (AV.b true = AV.b true) := by kernel_rfl
theorem n_1_21 : Gn (Int.ofNat 1) (Int.ofNat 21) = (AV.b true = AV.b true) := by kernel_rfl
theorem n_1_22 : Gn (Int.ofNat 1) (Int.ofNat 22) = (AV.b true = AV.b true) := by kernel_rfl
theorem n_1_23 : Gn (Int.ofNat 1) (Int.ofNat 23) = (AV.b true = AV.b true) := by kernel_rfl
theorem n_1_24 : Gn (Int.ofNat 1) (Int.ofNat 24) = (AV.b true = AV.b true) := by kernel_rfl
theorem n_1_25 : Gn (Int.ofNat 1) (Int.ofNat 25) = (AV.b true = AV.b true) := by kernel_rfl
theorem n_1_26 : Gn (Int.ofNat 1) (Int.ofNat 26) = (AV.b true = AV.b true) := by kernel_rfl
theorem n_1_27 : Gn (Int.ofNat 1) (Int.ofNat 27) = (AV.b true = AV.b true) := by kernel_rfl
theorem n_1_28 : Gn (Int.ofNat 1) (Int.ofNat 28) = (AV.b true = AV.b true) := by kernel_rfl
theorem n_1_29 : Gn (Int.ofNat 1) (Int.ofNat 29) = (AV.b true = AV.b true) := by kernel_rfl
theorem n_1_30 : Gn (Int.ofNat 1) (Int.ofNat 30) = (AV.b true = AV.b true) := by kernel_rfl
theorem n_1_31 : Gn (Int.ofNat 1) (Int.ofNat 31) = (AV.b true = AV.b true) := by kernel_rfl
theorem n_1_32 : Gn (Int.ofNat 1) (Int.ofNat 32) = (AV.b true = AV.b true) := by kernel_rfl
theorem n_1_g (y : Nat) : Gn (Int.ofNat 1) (Int.ofNat (y + 33)) = (AV.b true = AV.b true) := by kernel_rfl
theorem m_1 (b : Int) : Gn (Int.ofNat 1) b := by
  rcases b with n | y
  · by_cases h : n < 33
    · have h : n = 0 ∨ n = 1 ∨ n = 2 ∨ n = 3 ∨ n = 4 ∨ n = 5 ∨ n = 6 ∨ n = 7 ∨ n = 8 ∨ n = 9 ∨ n = 10 ∨ n = 11 ∨ n = 12 ∨ n = 13 ∨ n = 14 ∨ n = 15 ∨ n = 16 ∨ n = 17 ∨ n = 18 ∨ n = 19 ∨ n = 20 ∨ n = 21 ∨ n = 22 ∨ n = 23 ∨ n = 24 ∨ n = 25 ∨ n = 26 ∨ n = 27 ∨ n = 28 ∨ n = 29 ∨ n = 30 ∨ n = 31 ∨ n = 32 := by omega
      rcases h with rfl | rfl | rfl | rfl | rfl | rfl | rfl | rfl | rfl | rfl | rfl | rfl | rfl | rfl | rfl | rfl | rfl | rfl | rfl | rfl | rfl | rfl | rfl | rfl | rfl | rfl | rfl | rfl | rfl | rfl | rfl | rfl | rfl
      · exact of (n_1_0)
      · exact of (n_1_1)
      · exact of (n_1_2)
      · exact of (n_1_3)
      · exact of (n_1_4)
      · exact of (n_1_5)
      · exact of (n_1_6)
      · exact of (n_1_7)
      · exact of (n_1_8)
      · exact of (n_1_9)
      · exact of (n_1_10)
      · exact of (n_1_11)
      · exact of (n_1_12)
      · exact of (n_1_13)
      · exact of (n_1_14)
      · exact of (n_1_15)
      · exact of (n_1_16)
      · exact of (n_1_17)
      · exact of (n_1_18)
      · exact of (n_1_19)
      · exact of (n_1_20)
      · exact of (n_1_21)
      · exact of (n_1_22)
      · exact of (n_1_23)
      · exact of (n_1_24)
      · exact of (n_1_25)
      · exact of (n_1_26)
      · exact of (n_1_27)
      · exact of (n_1_28)
      · exact of (n_1_29)
      · exact of (n_1_30)
      · exact of (n_1_31)
      · exact of (n_1_32)
    · obtain ⟨y, rfl⟩ : ∃ y, n = y + 33 := ⟨n - 33, by omega⟩
      exact of (n_1_g y)
  · exact of (n_1_n y)
theorem n_2_n (y : Nat) : Gn (Int.ofNat 2) (Int.negSucc y) = (AV.b true = AV.b true) := by kernel_rfl
theorem n_2_0 : Gn (Int.ofNat 2) (Int.ofNat 0) = (AV.b true = AV.b true) := by kernel_rfl
theorem n_2_1 : Gn (Int.ofNat 2) (Int.ofNat 1) = (AV.b true = AV.b true) := by kernel_rfl
theorem n_2_2 : Gn (Int.ofNat 2) (Int.ofNat 2) = (AV.b true = AV.b true) := by kernel_rfl
theorem n_2_3 : Gn (Int.ofNat 2) (Int.ofNat 3) = (AV.b true = AV.b true) := by kernel_rfl
theorem n_2_4 : Gn (Int.ofNat 2) (Int.ofNat 4) = (AV.b true = AV.b true) := by kernel_rfl
theorem n_2_5 : Gn (Int.ofNat 2) (Int.ofNat 5) = (AV.b true = AV.b true) := by kernel_rfl
theorem n_2_6 : Gn (Int.ofNat 2) (Int.ofNat 6) = (AV.b true = AV.b true) := by kernel_rfl
theorem n_2_7 : Gn (Int.ofNat 2) (Int.ofNat 7) = (AV.b true = AV.b true) := by kernel_rfl
theorem n_2_8 : Gn (Int.ofNat 2) (Int.ofNat 8) = (AV.b true = AV.b true) := by kernel_rfl
theorem n_2_9 : Gn (Int.ofNat 2) (Int.ofNat 9) = (AV.b true = AV.b true) := by kernel_rfl
theorem n_2_10 : Gn (Int.ofNat 2) (Int.ofNat 10) = (AV.b true = AV.b true) := by kernel_rfl
theorem n_2_11 : Gn (Int.ofNat 2) (Int.ofNat 11) = (AV.b true = AV.b true) := by kernel_rfl
theorem n_2_12 : Gn (Int.ofNat 2) (Int.ofNat 12) = (AV.b true = AV.b true) := by kernel_rfl
theorem n_2_13 : Gn (Int.ofNat 2) (Int.ofNat 13) = (AV.b true = AV.b true) := by kernel_rfl
theorem n_2_14 : Gn (Int.ofNat 2) (Int.ofNat 14) = (AV.b true = AV.b true) := by kernel_rfl
theorem n_2_15 : Gn (Int.ofNat 2) (Int.ofNat 15) = (AV.b true = AV.b true) := by kernel_rfl
theorem n_2_16 : Gn (Int.ofNat 2) (Int.ofNat 16) = (AV.b true = AV.b true) := by kernel_rfl
theorem n_2_17 : Gn (Int.ofNat 2) (Int.ofNat 17) = (AV.b true = AV.b true) := by kernel_rfl
theorem n_2_18 : Gn (Int.ofNat 2) (Int.ofNat 18) = (AV.b true = AV.b true) := by kernel_rfl
theorem n_2_19 : Gn (Int.ofNat 2) (Int.ofNat 19) = (AV.b true = AV.b true) := by kernel_rfl
theorem n_2_20 : Gn (Int.ofNat 2) (Int.ofNat 20) = (AV.b true = AV.b true) := by kernel_rfl
theorem n_2_21 : Gn (Int.ofNat 2) (Int.ofNat 21) = (AV.b true = AV.b true) := by kernel_rfl
theorem n_2_22 : Gn (Int.ofNat 2) (Int.ofNat 22) = (AV.b true = AV.b true) := by kernel_rfl
theorem n_2_23 : Gn (Int.ofNat 2) (Int.ofNat 23) = (AV.b true = AV.b true) := by kernel_rfl
theorem n_2_24 : Gn (Int.ofNat 2) (Int.ofNat 24) = (AV.b true = AV.b true) := by kernel_rfl
theorem n_2_25 : Gn (Int.ofNat 2) (Int.ofNat 25) = (AV.b true = AV.b true) := by kernel_rfl
theorem n_2_26 : Gn (Int.ofNat 2) (Int.ofNat 26) = (AV.b true = AV.b true) := by kernel_rfl
theorem n_2_27 : Gn (Int.ofNat 2) (Int.ofNat 27) = (AV.b true = AV.b true) := by kernel_rfl
theorem n_2_28 : Gn (Int.ofNat 2) (Int.ofNat 28) = (AV.b true = AV.b true) := by kernel_rfl
theorem n_2_29 : Gn (Int.ofNat 2) (Int.ofNat 29) = (AV.b true = AV.b true) := by kernel_rfl
theorem n_2_30 : Gn (Int.ofNat 2) (Int.ofNat 30) = (AV.b true = AV.b true) := by kernel_rfl
theorem n_2_31 : Gn (Int.ofNat 2) (Int.ofNat 31) = (AV.b true = AV.b true) := by kernel_rfl
theorem n_2_32 : Gn (Int.ofNat 2) (Int.ofNat 32) = (AV.b true = AV.b true) := by kernel_rfl
theorem n_2_g (y : Nat) : Gn (Int.ofNat 2) (Int.ofNat (y + 33)) = (AV.b true = AV.b true) := by kernel_rfl
theorem m_2 (b : Int) : Gn (Int.ofNat 2) b := by
  rcases b with n | y
  · by_cases h : n < 33
    · have h : n = 0 ∨ n = 1 ∨ n = 2 ∨ n = 3 ∨ n = 4 ∨ n = 5 ∨ n = 6 ∨ n = 7 ∨ n = 8 ∨ n = 9 ∨ n = 10 ∨ n = 11 ∨ n = 12 ∨ n = 13 ∨ n = 14 ∨ n = 15 ∨ n = 16 ∨ n = 17 ∨ n = 18 ∨ n = 19 ∨ n = 20 ∨ n = 21 ∨ n = 22 ∨ n = 23 ∨ n = 24 ∨ n = 25 ∨ n = 26 ∨ n = 27 ∨ n = 28 ∨ n = 29 ∨ n = 30 ∨ n = 31 ∨ n = 32 := by omega
      rcases h with rfl | rfl | rfl | rfl | rfl | rfl | rfl | rfl | rfl | rfl | rfl | rfl | rfl | rfl | rfl | rfl | rfl | rfl | rfl | rfl | rfl | rfl | rfl | rfl | rfl | rfl | rfl | rfl | rfl | rfl | rfl | rfl | rfl
      · exact of (n_2_0)
      · exact of (n_2_1)
      · exact of (n_2_2)
      · exact of (n_2_3)
      · exact of (n_2_4)
      · exact of (n_2_5)
      · exact of (n_2_6)
      · exact of (n_2_7)
      · exact of (n_2_8)
      · exact of (n_2_9)
      · exact of (n_2_10)
      · exact of (n_2_11)
      · exact of (n_2_12)
      · exact of (n_2_13)
      · exact of (n_2_14)
      · exact of (n_2_15)
      · exact of (n_2_16)
      · exact of (n_2_17)
      · exact of (n_2_18)
      · exact of (n_2_19)
      · exact of (n_2_20)
      · exact of (n_2_21)
      · exact of (n_2_22)
      · exact of (n_2_23)
      · exact of (n_2_24)
      · exact of (n_2_25)
      · exact of (n_2_26)
      · exact of (n_2_27)
      · exact of (n_2_28)
      · exact of (n_2_29)
      · exact of (n_2_30)
      · exact of (n_2_31)
      · exact of (n_2_32)
    · obtain ⟨y, rfl⟩ : ∃ y, n = y + 33 := ⟨n - 33, by omega⟩
      exact of (n_2_g y)
  · exact of (n_2_n y)
theorem n_3_n (y : Nat) : Gn (Int.ofNat 3) (Int.negSucc y) = (AV.b true = AV.b true) := by kernel_rfl
theorem n_3_0 : Gn (Int.ofNat 3) (Int.ofNat 0) = (AV.b true = AV.b true) := by kernel_rfl
theorem n_3_1 : Gn (Int.ofNat 3) (Int.ofNat 1) = (AV.b true = AV.b true) := by kernel_rfl
theorem n_3_2 : Gn (Int.ofNat 3) (Int.ofNat 2) = (AV.b true = AV.b true) := by kernel_rfl
theorem n_3_3 : Gn (Int.ofNat 3) (Int.ofNat 3) = (AV.b true = AV.b true) := by kernel_rfl
theorem n_3_4 : Gn (Int.ofNat 3) (Int.ofNat 4) = (AV.b true = AV.b true) := by kernel_rfl
theorem n_3_5 : Gn (Int.ofNat 3) (Int.ofNat 5) = (AV.b true = AV.b true) := by kernel_rfl
theorem n_3_6 : Gn (Int.ofNat 3) (Int.ofNat 6) = (AV.b true = AV.b true) := by kernel_rfl
theorem n_3_7 : Gn (Int.ofNat 3) (Int.ofNat 7) = (AV.b true = AV.b true) := by kernel_rfl
theorem n_3_8 : Gn (Int.ofNat 3) (Int.ofNat 8) = (AV.b true = AV.b true) := by kernel_rfl
theorem n_3_9 : Gn (Int.ofNat 3) (Int.ofNat 9) = (AV.b true = AV.b true) := by kernel_rfl
theorem n_3_10 : Gn (Int.ofNat 3) (Int.ofNat 10) = (AV.b true = AV.b true) := by kernel_rfl
theorem n_3_11 : Gn (Int.ofNat 3) (Int.ofNat 11) = (AV.b true = AV.b true) := by kernel_rfl
theorem n_3_12 : Gn (Int.ofNat 3) (Int.ofNat 12) = (AV.b true = AV.b true) := by kernel_rfl
theorem n_3_13 : Gn (Int.ofNat 3) (Int.ofNat 13) = (AV.b true = AV.b true) := by kernel_rfl
theorem n_3_14 : Gn (Int.ofNat 3) (Int.ofNat 14) = (AV.b true = AV.b true) := by kernel_rfl
theorem n_3_15 : Gn (Int.ofNat 3) (Int.ofNat 15) = (AV.b true = AV.b true) := by kernel_rfl
theorem n_3_16 : Gn (Int.ofNat 3) (Int.ofNat 16) = (AV.b true = AV.b true) := by kernel_rfl
theorem n_3_17 : Gn (Int.ofNat 3) (Int.ofNat 17) = (AV.b true = AV.b true) := by kernel_rfl
theorem n_3_18 : Gn (Int.ofNat 3) (Int.ofNat 18) = (AV.b true = AV.b true) := by kernel_rfl
theorem n_3_19 : Gn (Int.ofNat 3) (Int.ofNat 19) = (AV.b true = AV.b true) := by kernel_rfl
theorem n_3_20 : Gn (Int.ofNat 3) (Int.ofNat 20) = (AV.b true = AV.b true) := by kernel_rfl
theorem n_3_21 : Gn (Int.ofNat 3) (Int.ofNat 21) = (AV.b true = AV.b true) := by kernel_rfl
theorem n_3_22 : Gn (Int.ofNat 3) (Int.ofNat 22) = (AV.b true = AV.b true) := by kernel_rfl
theorem n_3_23 : Gn (Int.ofNat 3) (Int.ofNat 23) = (AV.b true = AV.b true) := by kernel_rfl
theorem n_3_24 : Gn (Int.ofNat 3) (Int.ofNat 24) = (AV.b true = AV.b true) := by kernel_rfl
theorem n_3_25 : Gn (Int.ofNat 3) (Int.ofNat 25) = (AV.b true = AV.b true) := by kernel_rfl
theorem n_3_26 : Gn (Int.ofNat 3) (Int.ofNat 26) = (AV.b true = AV.b true) := by kernel_rfl
theorem n_3_27 : Gn (Int.ofNat 3) (Int.ofNat 27) = (AV.b true = AV.b true) := by kernel_rfl
theorem n_3_28 : Gn (Int.ofNat 3) (Int.ofNat 28) = (AV.b true = AV.b true) := by kernel_rfl
theorem n_3_29 : Gn (Int.ofNat 3) (Int.ofNat 29) = (AV.b true = AV.b true) := by kernel_rfl
theorem n_3_30 : Gn (Int.ofNat 3) (Int.ofNat 30) = (AV.b true = AV.b true) := by kernel_rfl
theorem n_3_31 : Gn (Int.ofNat 3) (Int.ofNat 31) = (AV.b true = AV.b true) := by kernel_rfl
theorem n_3_32 : Gn (Int.ofNat 3) (Int.ofNat 32) = (AV.b true = AV.b true) := by kernel_rfl
theorem n_3_g (y : Nat) : Gn (Int.ofNat 3) (Int.ofNat (y + 33)) = (AV.b true = AV.b true) := by kernel_rfl
theorem m_3 (b : Int) : Gn (Int.ofNat 3) b := by
  rcases b with n | y
  · by_cases h : n < 33
    · have h : n = 0 ∨ n = 1 ∨ n = 2 ∨ n = 3 ∨ n = 4 ∨ n = 5 ∨ n = 6 ∨ n = 7 ∨ n = 8 ∨ n = 9 ∨ n = 10 ∨ n = 11 ∨ n = 12 ∨ n = 13 ∨ n = 14 ∨ n = 15 ∨ n = 16 ∨ n = 17 ∨ n = 18 ∨ n = 19 ∨ n = 20 ∨ n = 21 ∨ n = 22 ∨ n = 23 ∨ n = 24 ∨ n = 25 ∨ n = 26 ∨ n = 27 ∨ n = 28 ∨ n = 29 ∨ n = 30 ∨ n = 31 ∨ n = 32 := by omega
      rcases h with rfl | rfl | rfl | rfl | rfl | rfl | rfl | rfl | rfl | rfl | rfl | rfl | rfl | rfl | rfl | rfl | rfl | rfl | rfl | rfl | rfl | rfl | rfl | rfl | rfl | rfl | rfl | rfl | rfl | rfl | rfl | rfl | rfl
      · exact of (n_3_0)
      · exact of (n_3_1)
      · exact of (n_3_2)
      · exact of (n_3_3)
      · exact of (n_3_4)
      · exact of (n_3_5)
      · exact of (n_3_6)
      · exact of (n_3_7)
      · exact of (n_3_8)
      · exact of (n_3_9)
      · exact of (n_3_10)
      · exact of (n_3_11)
      · exact of (n_3_12)
      · exact of (n_3_13)
      · exact of (n_3_14)
      · exact of (n_3_15)
      · exact of (n_3_16)
      · exact of (n_3_17)
      · exact of (n_3_18)
      · exact of (n_3_19)
      · exact of (n_3_20)
      · exact of (n_3_21)
      · exact of (n_3_22)
      · exact of (n_3_23)
      · exact of (n_3_24)
      · exact of (n_3_25)
      · exact of (n_3_26)
      · exact of (n_3_27)
      · exact of (n_3_28)
      · exact of (n_3_29)
      · exact of (n_3_30)
      · exact of (n_3_31)
      · exact of (n_3_32)
    · obtain ⟨y, rfl⟩ : ∃ y, n = y + 33 := ⟨n - 33, by omega⟩
      exact of (n_3_g y)
  · exact of (n_3_n y)
end
end Go.Proofs.YtkfcecaoaplfkaaDoor.T
