/- The law ScriptPicks, by the abstract machine: a pick is the remainder. -/
import Derived.Test.YtppebjifdjpngaaT
import Derived.Test.YtppebjifdjpngaaAmS
set_option maxRecDepth 100000
set_option linter.unusedVariables false
set_option linter.unusedSimpArgs false
namespace Go.Proofs.Ytppebjifdjpngaa.T
open Go.AM
def S0 : St := ⟨.nil, 0⟩
theorem awake0 : isT (acall tbl 400 9 [] S0) = true := by kernel_rfl
theorem awake_ok : ∃ SA, ∀ m, callOf tbl (exec tbl (m + 400)) 9 [] S0 = some (.b true, SA) := by
  obtain ⟨SA, h⟩ := isT_spec awake0
  exact ⟨SA, fun m => acall_le (by omega) h⟩

def pick (n c : Int) : Int := bif iLt c 1 then 0 else bif iLt (n.tmod c) 0 then wr .i64 (n.tmod c + c) else n.tmod c
theorem pick_ok (m : Nat) (n c : Int) (S : St) : callOf tbl (exec tbl (m + 20)) 15 [.i .i64 n, .i .i64 c] S = some (.i .i64 (pick n c), S) := by
  rw [callOf_fn (show tbl 15 = some a15 from rfl)]
  unfold pick
  cases h1 : iLt c 1
  · have hc0 : iEq c 0 = false := by
      rw [iEq_eq]; rw [iLt_eq] at h1; simp at h1 ⊢; omega
    cases h2 : iLt (n.tmod c) 0
    · simp [a15, finish, exec_succ, exec1, xSeq, xReg, xCond, runOps, step1, wants, semOp, AOp.cl, opR, semR, rMv, rBin, isSh, kEq, binI, evs, Opd.ev, aget, aput, initT, initL, Tm.put, beq_nat, h1, h2, hc0, resV, resL, resOne]
    · simp [a15, finish, exec_succ, exec1, xSeq, xReg, xCond, runOps, step1, wants, semOp, AOp.cl, opR, semR, rMv, rBin, isSh, kEq, binI, evs, Opd.ev, aget, aput, initT, initL, Tm.put, beq_nat, h1, h2, hc0, resV, resL, resOne]
  · simp [a15, finish, exec_succ, exec1, xSeq, xReg, xCond, runOps, step1, wants, semOp, AOp.cl, opR, semR, rMv, rBin, isSh, kEq, binI, evs, Opd.ev, aget, aput, initT, initL, Tm.put, beq_nat, h1, resV, resL, resOne]

theorem tmod_bounds (n : Int) {c : Int} (h : 0 < c) : -c < n.tmod c ∧ n.tmod c < c := by
  have h3 := Int.tmod_lt_of_pos n h
  have h4 := Int.tmod_lt_of_pos (-n) h
  rw [Int.neg_tmod] at h4
  omega
theorem pick_mod {n c : Int} (h : 1 ≤ c) (h2 : c ≤ 1000) : pick n c = n % c := by
  unfold pick
  rw [iLt_eq, iLt_eq, decide_eq_false (by omega)]
  simp only [cond_false]
  have h3 := tmod_bounds n (by omega : 0 < c)
  have h5 : (n.tmod c) % c = n % c := by
    rw [Int.tmod_def, Int.sub_mul_emod_self_left]
  by_cases h6 : n.tmod c < 0
  · rw [decide_eq_true h6, cond_true, wr_id (by omega) (by omega), ← h5]
    rw [← Int.add_emod_right]
    exact (Int.emod_eq_of_lt (by omega) (by omega)).symm
  · rw [decide_eq_false h6, cond_false, ← h5]
    exact (Int.emod_eq_of_lt (by omega) (by omega)).symm
theorem pick_low {n c : Int} (h : c < 1) : pick n c = 0 := by
  unfold pick
  rw [iLt_eq, decide_eq_true h]; rfl

theorem picks (n c k : Int) : ∃ m S, acall tbl m 5 [.i .i64 n, .i .i64 c, .i .i64 k] S0 = some (.b true, S) := by
  obtain ⟨SA, hA⟩ := awake_ok
  refine ⟨440, SA, ?_⟩
  rw [acall_def, callOf_fn (show tbl 5 = some a5 from rfl)]
  have e0 : iEq 0 0 = true := rfl
  have hmin : pick n (bif iLt 0 c then 0 else c) = 0 := by
    rw [iLt_eq]
    by_cases h : 0 < c
    · rw [decide_eq_true h]; exact pick_low (by simp)
    · rw [decide_eq_false h]; exact pick_low (by simp; omega)
  cases h1 : iLt c 1
  case true => simp [a5, finish, exec_succ, exec1, xSeq, xReg, xCond, runOps, step1, wants, semOp, AOp.cl, opR, semR, semE, eCall, rMv, rMin, minL, rPick, rBin, isSh, kEq, binI, evs, Opd.ev, aget, aput, initT, initL, Tm.put, beq_nat, h1, resV, resL, resOne, pick_ok, hA, hmin, e0]
  cases h2 : iLt 1000 c
  case true => simp [a5, finish, exec_succ, exec1, xSeq, xReg, xCond, runOps, step1, wants, semOp, AOp.cl, opR, semR, semE, eCall, rMv, rMin, minL, rPick, rBin, isSh, kEq, binI, evs, Opd.ev, aget, aput, initT, initL, Tm.put, beq_nat, h1, h2, resV, resL, resOne, pick_ok, hA, hmin, e0]
  cases h3 : iLt n (-1099511627776)
  case true => simp [a5, finish, exec_succ, exec1, xSeq, xReg, xCond, runOps, step1, wants, semOp, AOp.cl, opR, semR, semE, eCall, rMv, rMin, minL, rPick, rBin, isSh, kEq, binI, evs, Opd.ev, aget, aput, initT, initL, Tm.put, beq_nat, h1, h2, h3, resV, resL, resOne, pick_ok, hA, hmin, e0]
  cases h4 : iLt 1099511627776 n
  case true => simp [a5, finish, exec_succ, exec1, xSeq, xReg, xCond, runOps, step1, wants, semOp, AOp.cl, opR, semR, semE, eCall, rMv, rMin, minL, rPick, rBin, isSh, kEq, binI, evs, Opd.ev, aget, aput, initT, initL, Tm.put, beq_nat, h1, h2, h3, h4, resV, resL, resOne, pick_ok, hA, hmin, e0]
  cases h5 : iLt k (-1000)
  case true => simp [a5, finish, exec_succ, exec1, xSeq, xReg, xCond, runOps, step1, wants, semOp, AOp.cl, opR, semR, semE, eCall, rMv, rMin, minL, rPick, rBin, isSh, kEq, binI, evs, Opd.ev, aget, aput, initT, initL, Tm.put, beq_nat, h1, h2, h3, h4, h5, resV, resL, resOne, pick_ok, hA, hmin, e0]
  cases h6 : iLt 1000 k
  case true => simp [a5, finish, exec_succ, exec1, xSeq, xReg, xCond, runOps, step1, wants, semOp, AOp.cl, opR, semR, semE, eCall, rMv, rMin, minL, rPick, rBin, isSh, kEq, binI, evs, Opd.ev, aget, aput, initT, initL, Tm.put, beq_nat, h1, h2, h3, h4, h5, h6, resV, resL, resOne, pick_ok, hA, hmin, e0]
  have g1 : 1 ≤ c := by rw [iLt_eq, decide_eq_false_iff_not] at h1; omega
  have g2 : c ≤ 1000 := by rw [iLt_eq, decide_eq_false_iff_not] at h2; omega
  have g3 : -1099511627776 ≤ n := by rw [iLt_eq, decide_eq_false_iff_not] at h3; omega
  have g4 : n ≤ 1099511627776 := by rw [iLt_eq, decide_eq_false_iff_not] at h4; omega
  have g5 : -1000 ≤ k := by rw [iLt_eq, decide_eq_false_iff_not] at h5; omega
  have g6 : k ≤ 1000 := by rw [iLt_eq, decide_eq_false_iff_not] at h6; omega
  have p1 : pick n c = n % c := pick_mod g1 g2
  have b1 := Int.emod_nonneg n (by omega : c ≠ 0)
  have b2 := Int.emod_lt_of_pos n (by omega : 0 < c)
  have kc1 : k * c ≤ 1000000 := by
    have := Int.mul_le_mul g6 g2 (by omega) (by omega : (0:Int) ≤ 1000)
    omega
  have kc2 : -1000000 ≤ k * c := by
    have := Int.mul_le_mul (by omega : -k ≤ 1000) g2 (by omega) (by omega : (0:Int) ≤ 1000)
    rw [Int.neg_mul] at this
    omega
  have q1 : iLt (n % c) 0 = false := by rw [iLt_eq]; exact decide_eq_false (by omega)
  have q2 : iLt (n % c) c = true := by rw [iLt_eq]; exact decide_eq_true b2
  have q3 : wr .i64 (n - n % c) = n - n % c := wr_id (by omega) (by omega)
  have q4 : (n - n % c).tmod c = 0 := by
    apply Int.tmod_eq_zero_of_dvd
    exact Int.dvd_self_sub_emod
  have q5 : wr .i64 (k * c) = k * c := wr_id (by omega) (by omega)
  have q6 : wr .i64 (n + k * c) = n + k * c := wr_id (by omega) (by omega)
  have q7 : pick (n + k * c) c = n % c := by rw [pick_mod g1 g2, Int.add_mul_emod_self_right]
  have q8 : iEq (n % c) (n % c) = true := by rw [iEq_eq]; simp
  have q9 : iEq c 0 = false := by rw [iEq_eq]; simp; omega
  simp [a5, finish, exec_succ, exec1, xSeq, xReg, xCond, runOps, step1, wants, semOp, AOp.cl, opR, semR, semE, eCall, rMv, rMin, minL, rPick, rBin, isSh, kEq, binI, evs, Opd.ev, aget, aput, initT, initL, Tm.put, beq_nat, h1, h2, h3, h4, h5, h6, resV, resL, resOne, pick_ok, hA, e0, p1, q1, q2, q3, q4, q5, q6, q7, q8, q9]
end Go.Proofs.Ytppebjifdjpngaa.T
