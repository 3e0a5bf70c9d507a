/- Contracts: names of one small label. -/
import Derived.Test.YtacmgogobjpmcaaGreatV
namespace Go.Proofs.YtacmgogobjpmcaaGreat
open Go.RowKit

/-- no capital letter -/
def lowly (s : ByteArray) : Prop := ∀ (i : Nat) (b : UInt8), s.data.toList[i]? = some b → ¬ ((65 : Int) ≤ (b.toNat : Int) ∧ (b.toNat : Int) ≤ 90)

theorem Typed1_any (w : World) : Calls Tryz.prog 102 #[.int .i64 1] w fun e w' => e = .returned (.bool true) ∧ w' = w := by
  go_enter Tryz.func102, Tryz.ntmps102
  go_wp2
  go_ret
  exact ⟨rfl, rfl⟩

set_option maxRecDepth 20000 in
theorem small_any (s : ByteArray) (h0 : 0 < s.size) (hs : s.size ≤ 1000) (hl : lowly s) (w : World) :
    Calls Tryz.prog 183 #[.string s] w fun e w' => e = .returned (.string s) ∧ Below w.heap.size w w' := by
  obtain ⟨A, c, w1, hcv, hr, hb⟩ := conv_bytes s w (by unfold maxLen; omega)
  have hcb : (convert 30 9 (.slice A s.size c)).run Tryz.prog w1 = .ok (.string s) w1 := by
    have := bytes_str (c := c) hr h0
    simpa using this
  obtain ⟨ad, rfl, _, hac⟩ := hr.cells h0
  have HAC := Lib.hid hac; have HB := Lib.hid hb; have HL := Lib.hid hl
  clear hr hb hl hac
  go_enter Tryz.func183, Tryz.ntmps183
  go_wp2
  go_loop [4, 5, 10] (fun _ _ i => ∃ k : Nat, k ≤ s.size ∧ i = .int .i64 k) (fun _ _ i => s.size - (intOf i).toNat)
  case atStart => exact ⟨0, Nat.zero_le _, rfl⟩
  case round =>
    obtain ⟨k, hk, rfl⟩ := hrel
    by_cases hlt : k < s.size
    · have hi0 : (0 : Int) ≤ (k : Int) := Int.natCast_nonneg _
      have hi1 : (k : Int) < (s.size : Int) := by omega
      have hb : k < s.data.toList.length := by simpa using hlt
      obtain ⟨b, hb⟩ : ∃ b, s.data.toList[k]? = some b := ⟨_, List.getElem?_eq_getElem hb⟩
      have hcell : w1.cell? (ad.add k) = some (.int .u8 (b.toNat : Int)) := HAC.out k _ (by simp only [bys, List.getElem?_map, hb]; rfl)
      have hl := HL.out k b hb
      have hx : (65 : Int) ≤ (b.toNat : Int) → ¬ ((b.toNat : Int) ≤ 90) := fun h h' => hl ⟨h, h'⟩
      clear hb hl
      by_cases h65 : (65 : Int) ≤ (b.toNat : Int)
      · have h90 : (90 : Int) < (b.toNat : Int) := by have := hx h65; omega
        clear hx
        go_wp2
        exact ⟨⟨k + 1, by omega, by simp⟩, by simp [intOf]; omega⟩
      · have h65' : (b.toNat : Int) < 65 := by omega
        clear hx h65
        go_wp2
        exact ⟨⟨k + 1, by omega, by simp⟩, by simp [intOf]; omega⟩
    · obtain rfl : k = s.size := by omega
      go_wp2
      go_ret
      exact ⟨rfl, HB.out⟩

set_option maxRecDepth 20000 in
theorem eq1_any (s : ByteArray) (h0 : 0 < s.size) (hs : s.size ≤ 1000) (hl : lowly s) (w : World) :
    Calls Tryz.prog 182 #[.string s, .string s] w fun e w' => e = .returned (.bool true) ∧ Below w.heap.size w w' := by
  go_enter Tryz.func182, Tryz.ntmps182
  go_wp2_with fail
  refine (small_any s h0 hs hl w).mono ?_
  rintro e w1 ⟨rfl, hb1⟩
  have HB1 := Lib.hid hb1
  clear hb1
  go_wp2_with fail
  refine (small_any s h0 hs hl w1).mono ?_
  rintro e w2 ⟨rfl, hb2⟩
  have HB2 := Lib.hid hb2
  clear hb2
  go_wp2
  go_ret
  exact ⟨rfl, HB1.out.trans (HB2.out.mono HB1.out.size)⟩

set_option maxRecDepth 20000 in
theorem eqf1_any (n m : Addr) (cn cm : Nat) (s : ByteArray) (h0 : 0 < s.size) (hs : s.size ≤ 1000) (hl : lowly s) (w : World) (hn : w.cell? n = some (.string s)) (hm : w.cell? m = some (.string s)) :
    Calls Tryz.prog 181 #[.slice (some n) 1 cn, .slice (some m) 1 cm, .func (.func 182) #[] #[]] w fun e w' => e = .returned (.bool true) ∧ Below w.heap.size w w' := by
  go_enter Tryz.func181, Tryz.ntmps181
  go_wp2_with fail
  refine wp_loop_rounds 2 ?_
  rw [rounds_succ]
  go_wp2_with fail
  refine (eq1_any s h0 hs hl w).mono ?_
  rintro e w1 ⟨rfl, hb1⟩
  have HB1 := Lib.hid hb1
  clear hb1 hn hm
  go_simp
  go_wp2_with fail
  rw [rounds_succ]
  go_wp2_with fail
  go_ret
  exact ⟨rfl, HB1.out⟩

set_option maxRecDepth 20000 in
theorem equal1_any (n m : Addr) (cn cm : Nat) (s : ByteArray) (h0 : 0 < s.size) (hs : s.size ≤ 1000) (hl : lowly s) (w : World) (hn : w.cell? n = some (.string s)) (hm : w.cell? m = some (.string s)) :
    Calls Tryz.prog 109 #[.slice (some n) 1 cn, .slice (some m) 1 cm] w fun e w' => e = .returned (.bool true) ∧ Below w.heap.size w w' := by
  go_enter Tryz.func109, Tryz.ntmps109
  go_wp2_with fail
  refine (eqf1_any n m cn cm s h0 hs hl w hn hm).mono ?_
  rintro e w1 ⟨rfl, hb1⟩
  have HB1 := Lib.hid hb1
  clear hb1 hn hm
  go_wp2
  go_ret
  exact ⟨rfl, HB1.out⟩

set_option maxRecDepth 20000 in
theorem under1_any (n m : Addr) (cn cm : Nat) (s : ByteArray) (h0 : 0 < s.size) (hs : s.size ≤ 1000) (hl : lowly s) (w : World) (hn : w.cell? n = some (.string s)) (hm : w.cell? m = some (.string s)) (hc : 1 ≤ cn) :
    Calls Tryz.prog 153 #[.slice (some n) 1 cn, .slice (some m) 1 cm] w fun e w' => e = .returned (.bool true) ∧ Below w.heap.size w w' := by
  go_enter Tryz.func153, Tryz.ntmps153
  go_wp2_with fail
  refine (equal1_any n m cn cm s h0 hs hl w hn hm).mono ?_
  rintro e w1 ⟨rfl, hb1⟩
  have HB1 := Lib.hid hb1
  clear hb1 hn hm
  go_simp
  go_wp2
  go_ret
  exact ⟨rfl, HB1.out⟩
end Go.Proofs.YtacmgogobjpmcaaGreat
