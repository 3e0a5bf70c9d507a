/- Contracts: the program's msg.Sound on the answer to one small question. -/
import Derived.Test.YtacmgogobjpmcaaGreatY
namespace Go.Proofs.YtacmgogobjpmcaaGreat
open Go.RowKit

theorem rd1 {w : World} {B gn : Nat} {s : ByteArray} (h : w.cell? ⟨gn, 0, none⟩ = some (.string s)) (hB : gn < B) : Rd w B 1 (some ⟨gn, 0, none⟩) 1 (strs [s]) :=
  ⟨rfl, by unfold maxLen; omega, fun _ => ⟨_, rfl, hB, fun j u hu => by
    rcases j with _ | j
    · injection hu with hu; subst hu; rw [Addr.add_zero']; exact h
    · simp [strs] at hu⟩⟩

set_option maxRecDepth 20000 in
theorem mQuestion_any (gn cn : Nat) (s : ByteArray) (hs : soundB [s] = true) (w : World) (h : w.cell? ⟨gn, 0, none⟩ = some (.string s)) (hl : gn < w.heap.size) :
    Calls Tryz.prog 268 #[.agg #[.slice (some ⟨gn, 0, none⟩) 1 cn, .int .i64 1, .int .i64 1]] w fun e w' => e = .returned (.bool true) ∧ Below w.heap.size w w' := by
  have hf1 : fitsB 1 2 = true := rfl
  go_enter Tryz.func268, Tryz.ntmps268
  go_wp2_with fail
  obtain ⟨w0, hw0⟩ : ∃ W, W = w.alloc (.cells #[.slice (some ⟨gn, 0, none⟩) 1 cn, .int .i64 1, .int .i64 1] 24) := ⟨_, rfl⟩
  rw [← hw0]
  have hb0 : Below w.heap.size w w0 := by rw [hw0]; exact (Below.refl _ _).alloc (Nat.le_refl _) _
  have hm0 : Blk w0 w.heap.size 24 #[.slice (some ⟨gn, 0, none⟩) 1 cn, .int .i64 1, .int .i64 1] := by rw [hw0]; exact Blk.new _ _ _
  have hr := rd1 (B := w0.heap.size) ((World.cell?_of_block (hb0.block gn hl)).trans h) (by have := hb0.size; omega)
  have c1 := hm0.cell 1; have c2 := hm0.cell 2
  have HB0 := Lib.hid hb0
  clear hw0 hb0 hm0
  have hn := NameSound_any (some ⟨gn, 0, none⟩) 1 cn [s] w0 hr
  rw [hs] at hn
  refine hn.mono ?_
  clear hn hr
  rintro e w1 ⟨rfl, rfl⟩
  go_simp
  go_wp2_with fail
  refine (numFits_any 1 2 _).mono ?_
  rintro e w1 ⟨rfl, rfl⟩
  go_simp
  go_wp2_with fail
  refine (numFits_any 1 2 _).mono ?_
  rintro e w1 ⟨rfl, rfl⟩
  go_simp
  go_wp2_with fail
  go_ret
  exact ⟨rfl, HB0.out⟩

set_option maxRecDepth 20000 in
theorem mSound2_any (gn cn : Nat) (s : ByteArray) (hs : soundB [s] = true) (w : World) (h : w.cell? ⟨gn, 0, none⟩ = some (.string s)) (hl : gn < w.heap.size) :
    Calls Tryz.prog 267 #[.agg #[.slice (some ⟨gn, 0, none⟩) 1 cn, .int .i64 1, .int .i64 1]] w fun e w' => e = .returned (.bool false) ∧ Below w.heap.size w w' := by
  go_enter Tryz.func267, Tryz.ntmps267
  go_wp2_with fail
  obtain ⟨w0, hw0⟩ : ∃ W, W = w.alloc (.cells #[.slice (some ⟨gn, 0, none⟩) 1 cn, .int .i64 1, .int .i64 1] 24) := ⟨_, rfl⟩
  rw [← hw0]
  have hb0 : Below w.heap.size w w0 := by rw [hw0]; exact (Below.refl _ _).alloc (Nat.le_refl _) _
  have hs0 := hb0.size
  have hc0 := (World.cell?_of_block (hb0.block gn hl)).trans h
  have HB0 := Lib.hid hb0
  clear hw0 hb0 h
  refine (mQuestion_any gn cn s hs w0 hc0 (by omega)).mono ?_
  rintro e w1 ⟨rfl, hb1⟩
  have HB1 := Lib.hid hb1
  clear hb1 hc0
  go_simp
  go_wp2_with fail
  go_ret
  exact ⟨rfl, HB0.out.trans (HB1.out.mono hs0)⟩

set_option maxRecDepth 20000 in
theorem idxRR0_any (f : Value) (w : World) : Calls Tryz.prog 306 #[.slice none 0 0, f] w fun e w' => e = .returned (.int .i64 (-1)) ∧ w' = w := by
  go_enter Tryz.func306, Tryz.ntmps306
  go_wp2_with fail
  refine wp_loop_once ?_
  go_wp2_with fail
  go_ret
  exact ⟨rfl, rfl⟩
set_option maxRecDepth 20000 in
theorem conRR0_any (f : Value) (w : World) : Calls Tryz.prog 263 #[.slice none 0 0, f] w fun e w' => e = .returned (.bool false) ∧ w' = w := by
  go_enter Tryz.func263, Tryz.ntmps263
  go_wp2_with fail
  refine (idxRR0_any f w).mono ?_
  rintro e w1 ⟨rfl, rfl⟩
  go_wp2
  go_ret
  exact ⟨rfl, rfl⟩

set_option maxRecDepth 20000 in
theorem idxQ1_any (gq cq gn cn : Nat) (s : ByteArray) (hs : soundB [s] = true) (w : World) (q0 : w.cell? ⟨gq, 0, none⟩ = some (.slice (some ⟨gn, 0, none⟩) 1 cn)) (q1 : w.cell? ⟨gq, 1, none⟩ = some (.int .i64 1)) (q2 : w.cell? ⟨gq, 2, none⟩ = some (.int .i64 1))
    (h : w.cell? ⟨gn, 0, none⟩ = some (.string s)) (hl : gn < w.heap.size) :
    Calls Tryz.prog 308 #[.slice (some ⟨gq, 0, none⟩) 1 cq, .func (.func 267) #[] #[]] w fun e w' => e = .returned (.int .i64 (-1)) ∧ Below w.heap.size w w' := by
  go_enter Tryz.func308, Tryz.ntmps308
  go_wp2_with fail
  refine wp_loop_rounds 2 ?_
  rw [rounds_succ]
  go_wp2_with fail
  refine (mSound2_any gn cn s hs w h hl).mono ?_
  rintro e w1 ⟨rfl, hb1⟩
  have HB1 := Lib.hid hb1
  clear hb1 q0 q1 q2 h
  go_simp
  go_wp2_with fail
  rw [rounds_succ]
  go_wp2_with fail
  go_ret
  exact ⟨rfl, HB1.out⟩
set_option maxRecDepth 20000 in
theorem conQ1_any (gq cq gn cn : Nat) (s : ByteArray) (hs : soundB [s] = true) (w : World) (q0 : w.cell? ⟨gq, 0, none⟩ = some (.slice (some ⟨gn, 0, none⟩) 1 cn)) (q1 : w.cell? ⟨gq, 1, none⟩ = some (.int .i64 1)) (q2 : w.cell? ⟨gq, 2, none⟩ = some (.int .i64 1))
    (h : w.cell? ⟨gn, 0, none⟩ = some (.string s)) (hl : gn < w.heap.size) :
    Calls Tryz.prog 266 #[.slice (some ⟨gq, 0, none⟩) 1 cq, .func (.func 267) #[] #[]] w fun e w' => e = .returned (.bool false) ∧ Below w.heap.size w w' := by
  go_enter Tryz.func266, Tryz.ntmps266
  go_wp2_with fail
  refine (idxQ1_any gq cq gn cn s hs w q0 q1 q2 h hl).mono ?_
  rintro e w1 ⟨rfl, hb1⟩
  have HB1 := Lib.hid hb1
  clear hb1 q0 q1 q2 h
  go_wp2
  go_ret
  exact ⟨rfl, HB1.out⟩
end Go.Proofs.YtacmgogobjpmcaaGreat
