/- trace.Text, walked: events that lie in memory, each one's line and a line's end behind it. -/
import Derived.Test.YtnoaljgjplejiaaDoorSh
import Derived.WalkKit
import Derived.BigCall
import Derived.Shelf.Strings.MapGrows
import Derived.Test.YtnoaljgjplejiaaDoorTraceFormsG3
set_option linter.unusedVariables false
set_option maxRecDepth 100000
namespace Go.Proofs.YtnoaljgjplejiaaDoor.Tx
open Go.RowKit Go.AM
open Go.Shelf
def lineVal (zs : List Int) : Value := .agg (zs.map (Value.int .i64)).toArray
theorem ws (B b : Nat) (bs : List Value) (s : ByteArray) (w : World) (h : Lib.IsBuilderF 44 5 B b bs w) (hlen : bs.length + s.size ≤ 140737488355328) (hBw : B ≤ w.heap.size) :
    Calls Tryd.prog 22 #[.pointer (some ⟨b, 0, none⟩), .string s] w fun e w' => e = .returned (.tuple #[.int .i64 s.size, .nilIface]) ∧ (Lib.BuilderAtF 44 5 B b (.pointer (some ⟨b, 0, none⟩)) (bs ++ Lib.strCells s) w' ∧ Below B w w') :=
  Any.Builder_WriteString_f { Tryd.lays156 with } Tryd.Builder_Extra_156 B b bs s w h hlen hBw
theorem st (B b : Nat) (l : List UInt8) (w : World) (h : Lib.IsBuilderF 44 5 B b (Lib.byteCells l) w) (hBw : B ≤ w.heap.size) :
    Calls Tryd.prog 23 #[.pointer (some ⟨b, 0, none⟩)] w fun e w' => e = .returned (.string ⟨l.toArray⟩) ∧ (Lib.IsBuilderF 44 5 B b (Lib.byteCells l) w' ∧ Below B w w') :=
  Any.Builder_String_any_f { Tryd.lays156 with } Tryd.Builder_Extra_156 B b l w h hBw
theorem six {zs : List Int} {n i : Nat} (hz : zs.length = n * 6) (hi : i < n) : ∃ a b c d e f, (zs.drop (i * 6)).take 6 = [a, b, c, d, e, f] := by
  have : ((zs.drop (i * 6)).take 6).length = 6 := by rw [List.length_take, List.length_drop, hz]; omega
  match h : (zs.drop (i * 6)).take 6, this with
  | [a, b, c, d, e, f], _ => exact ⟨a, b, c, d, e, f, rfl⟩
theorem evText_succ : ∀ (i : Nat) (zs : List Int), evText (i + 1) zs = evText i zs ++ evLine ((zs.drop (i * 6)).take 6) ++ [10]
  | 0, zs => by simp [evText]
  | i + 1, zs => by
    have := evText_succ i (zs.drop 6)
    rw [evText, this, evText, List.drop_drop]
    simp [Nat.add_mul, Nat.add_comm]
theorem evText_len {m : Nat} : ∀ (i : Nat) (zs : List Int), (∀ j, (evLine ((zs.drop (j * 6)).take 6)).length ≤ m) → (evText i zs).length ≤ i * (m + 1)
  | 0, zs, _ => by simp [evText]
  | i + 1, zs, h => by
    rw [evText_succ]
    have h1 := evText_len i zs h
    have h2 := h i
    simp only [List.length_append, List.length_singleton, Nat.add_mul, Nat.one_mul]
    omega
set_option maxHeartbeats 1000000 in
theorem text_walk (w : World) (bk o n cap : Nat) (zs : List Int) (hz : zs.length = n * 6) (hn : n < 1000000) (hn0 : 0 < n)
    (hcells : ∀ (j : Nat) x, zs[j]? = some x → w.cell? ⟨bk, o + j, none⟩ = some (.int .i64 x)) (hbk : bk < w.heap.size)
    (hsm : ∀ j, (evLine ((zs.drop (j * 6)).take 6)).length ≤ 1000)
    (hline : ∀ (i : Nat) (wx : World), i < n → Below w.heap.size w wx → Calls Tryd.prog 9 #[lineVal ((zs.drop (i * 6)).take 6)] wx fun e w' => e = .returned (strV (evLine ((zs.drop (i * 6)).take 6))) ∧ Below wx.heap.size wx w') :
    Calls Tryd.prog 11 #[.slice (some ⟨bk, o, none⟩) n cap] w fun e w' => e = .returned (strV (evText n zs)) ∧ Below w.heap.size w w' := by
  have h0 : Lib.IsBuilderF 44 5 w.heap.size w.heap.size [] (w.alloc (.cells #[.pointer none, .slice none 0 0] 44)) := Lib.IsBuilderF.of (Lib.fresh_isBuilder 44 5 w)
  have b0 : Below w.heap.size w (w.alloc (.cells #[.pointer none, .slice none 0 0] 44)) := (Below.refl _ w).alloc (Nat.le_refl _) _
  go_enter Tryd.func11, Tryd.ntmps11
  go_wp2
  go_loopw [8] (fun iv wr => ∃ i : Nat, iv = .int .i64 i ∧ i ≤ n ∧ Lib.IsBuilderF 44 5 w.heap.size w.heap.size (Lib.byteCells (evText i zs)) wr ∧ Below w.heap.size w wr)
    (fun iv _ => n - (Lib.intOf iv).toNat)
  case atStart => exact ⟨0, rfl, Nat.zero_le _, h0, b0⟩
  case round =>
    obtain ⟨i, rfl, hi, hI, hB⟩ := hrel
    by_cases hin : i < n
    · obtain ⟨z0, z1, z2, z3, z4, z5, hz6⟩ := six hz hin
      have hat : ∀ k x, [z0, z1, z2, z3, z4, z5][k]? = some x → wr.cell? ⟨bk, o + i * 6 + k, none⟩ = some (.int .i64 x) := by
        intro k x hx
        rw [← hz6, List.getElem?_take] at hx
        split at hx
        · rw [List.getElem?_drop] at hx
          rw [Nat.add_assoc, hB.cell (show (⟨bk, o + (i * 6 + k), none⟩ : Addr).block < w.heap.size from hbk)]
          exact hcells _ _ hx
        · cases hx
      have c0 := hat 0 z0 rfl
      have c1 := hat 1 z1 rfl
      have c2 := hat 2 z2 rfl
      have c3 := hat 3 z3 rfl
      have c4 := hat 4 z4 rfl
      have c5 := hat 5 z5 rfl
      rw [Nat.add_zero] at c0
      have hl : ∀ ob, Calls Tryd.prog 9 #[.agg #[.int .i64 z0, .int .i64 z1, .int .i64 z2, .int .i64 z3, .int .i64 z4, .int .i64 z5]] (wr.alloc ob) fun e w' => e = .returned (strV (evLine [z0, z1, z2, z3, z4, z5])) ∧ Below (wr.alloc ob).heap.size (wr.alloc ob) w' := fun ob => by
        have := hline i (wr.alloc ob) hin (hB.alloc hB.size ob)
        rw [hz6] at this
        exact this
      clear hat hcells hline
      have hL : (evLine [z0, z1, z2, z3, z4, z5]).length ≤ 1000 := by rw [← hz6]; exact hsm i
      have hT : (evText i zs).length ≤ 1001000000 := by
        have := evText_len (m := 1000) i zs hsm
        omega
      have hnx : evText (i + 1) zs = evText i zs ++ evLine [z0, z1, z2, z3, z4, z5] ++ [10] := by rw [evText_succ, hz6]
      have HN : Hid (evText (i + 1) zs = evText i zs ++ evLine [z0, z1, z2, z3, z4, z5] ++ [10]) := hnx
      clear hnx hsm hz6 hz
      generalize hline0 : evLine [z0, z1, z2, z3, z4, z5] = ln at hl hL HN
      generalize htx : evText i zs = tx at hI hT HN
      clear hline0 htx
      have hsz : (({ data := ln.toArray } : ByteArray) ++ { data := #[10] }).size = ln.length + 1 := by simp [ByteArray.size]
      have hdat : (({ data := ln.toArray } : ByteArray) ++ { data := #[10] }).data.toList = ln ++ [10] := by simp
      go_wp2_with (go_at_call 9; refine (hl _).mono ?_; rintro e W1 ⟨rfl, b1⟩)
      have hI1 : Lib.IsBuilderF 44 5 w.heap.size w.heap.size (Lib.byteCells tx) W1 := (hI.alloc _).below b1
      have hB1 : Below w.heap.size w W1 := (hB.alloc hB.size _).trans (b1.mono (hB.alloc hB.size _).size)
      go_wp2_with (go_at_call 22; refine (ws w.heap.size w.heap.size _ _ _ hI1 (by rw [Lib.byteCells_length, hsz]; omega) hB1.size).mono ?_)
      rintro e W2 ⟨rfl, h2, b2⟩
      have hI2 : Lib.IsBuilderF 44 5 w.heap.size w.heap.size (Lib.byteCells (evText (i + 1) zs)) W2 := by
        rw [Lib.strCells_eq, hdat, ← Lib.byteCells_append] at h2
        rw [HN.out, List.append_assoc]
        exact Or.inr h2
      have hB2 : Below w.heap.size w W2 := hB1.trans b2
      clear h2 b2 hB1 hI1 b1 hl hI hB
      go_wp2
      refine ⟨⟨i + 1, by simp, by omega, hI2, hB2⟩, ?_⟩
      simp only [Lib.intOf]
      omega
    · have hie : i = n := by omega
      subst hie
      clear hcells hline hsm
      go_wp2_with (go_at_call 23; refine (st w.heap.size w.heap.size _ _ hI hB.size).mono ?_)
      rintro e W2 ⟨rfl, h2, b2⟩
      go_wp2
      go_ret
      exact ⟨rfl, hB.trans b2⟩
set_option maxHeartbeats 1000000 in
theorem text_zero (w : World) (ad : Option Addr) (cap : Nat) : Calls Tryd.prog 11 #[.slice ad 0 cap] w fun e w' => e = .returned (strV []) ∧ Below w.heap.size w w' := by
  have h0 : Lib.IsBuilderF 44 5 w.heap.size w.heap.size (Lib.byteCells []) (w.alloc (.cells #[.pointer none, .slice none 0 0] 44)) := Lib.IsBuilderF.of (Lib.fresh_isBuilder 44 5 w)
  have b0 : Below w.heap.size w (w.alloc (.cells #[.pointer none, .slice none 0 0] 44)) := (Below.refl _ w).alloc (Nat.le_refl _) _
  go_enter Tryd.func11, Tryd.ntmps11
  go_wp2
  refine wp_loop_rounds 1 ?_
  rw [rounds_succ]
  go_wp2_with (go_at_call 23; refine (st w.heap.size w.heap.size _ _ h0 b0.size).mono ?_)
  rintro e W2 ⟨rfl, h2, b2⟩
  go_wp2
  go_ret
  exact ⟨rfl, b0.trans b2⟩
end Go.Proofs.YtnoaljgjplejiaaDoor.Tx
