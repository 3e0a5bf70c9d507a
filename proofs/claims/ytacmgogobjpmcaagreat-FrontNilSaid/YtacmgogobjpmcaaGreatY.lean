/- Contracts: front.code on the refused question. -/
import Derived.Test.YtacmgogobjpmcaaGreatW
namespace Go.Proofs.YtacmgogobjpmcaaGreat
open Go.RowKit

/-- a message of one question of one label, in blocks gq, gn, boxed at gm -/
structure AskM (B gm gq cq gn cn : Nat) (s : ByteArray) (w : World) : Prop where
  m8 : w.cell? ⟨gm, 8, none⟩ = some (.slice (some ⟨gq, 0, none⟩) 1 cq)
  q0 : w.cell? ⟨gq, 0, none⟩ = some (.slice (some ⟨gn, 0, none⟩) 1 cn)
  n0 : w.cell? ⟨gn, 0, none⟩ = some (.string s)
  ml : gm < B
  ql : gq < B
  nl : gn < B
  cap : 1 ≤ cn

set_option maxRecDepth 20000 in
theorem code1_any (gm gq cq gn cn cm : Nat) (am : Addr) (s : ByteArray) (h0 : 0 < s.size) (hs : s.size ≤ 1000) (hl : lowly s) (w : World) (h : AskM w.heap.size gm gq cq gn cn s w) (hz : w.cell? am = some (.string s)) :
    Calls Tryz.prog 152 #[.slice (some am) 1 cm, .pointer (some ⟨gm, 0, none⟩)] w fun e w' => e = .returned (.bool true) ∧ Below w.heap.size w w' := by
  have m8 := h.m8
  have q0 := h.q0
  have H := Lib.hid h
  clear h
  go_enter Tryz.func152, Tryz.ntmps152
  go_wp2_with fail
  refine (under1_any ⟨gn, 0, none⟩ am cn cm s h0 hs hl w H.out.n0 hz H.out.cap).mono ?_
  rintro e w1 ⟨rfl, hb1⟩
  have HB1 := Lib.hid hb1
  clear hb1 m8 q0 hz
  go_wp2
  go_ret
  exact ⟨rfl, HB1.out⟩

set_option maxRecDepth 20000 in
theorem idxF_any (gm gq cq gn cn cm cz : Nat) (az am : Addr) (s : ByteArray) (h0 : 0 < s.size) (hs : s.size ≤ 1000) (hl : lowly s) (w : World) (h : AskM w.heap.size gm gq cq gn cn s w) (hz : w.cell? am = some (.string s)) (hzz : w.cell? az = some (.slice (some am) 1 cm)) :
    Calls Tryz.prog 173 #[.slice (some az) 1 cz, .func (.func 152) #[] #[.pointer (some ⟨gm, 0, none⟩)]] w fun e w' => e = .returned (.int .i64 0) ∧ Below w.heap.size w w' := by
  have H := Lib.hid h
  clear h
  go_enter Tryz.func173, Tryz.ntmps173
  go_wp2_with fail
  refine wp_loop_rounds 2 ?_
  rw [rounds_succ]
  go_wp2_with fail
  refine (code1_any gm gq cq gn cn cm am s h0 hs hl w H.out hz).mono ?_
  rintro e w1 ⟨rfl, hb1⟩
  have HB1 := Lib.hid hb1
  clear hb1 hz hzz
  go_simp
  go_wp2_with fail
  go_ret
  exact ⟨rfl, HB1.out⟩

set_option maxRecDepth 20000 in
theorem conF_any (gm gq cq gn cn cm cz : Nat) (az am : Addr) (s : ByteArray) (h0 : 0 < s.size) (hs : s.size ≤ 1000) (hl : lowly s) (w : World) (h : AskM w.heap.size gm gq cq gn cn s w) (hz : w.cell? am = some (.string s)) (hzz : w.cell? az = some (.slice (some am) 1 cm)) :
    Calls Tryz.prog 97 #[.slice (some az) 1 cz, .func (.func 152) #[] #[.pointer (some ⟨gm, 0, none⟩)]] w fun e w' => e = .returned (.bool true) ∧ Below w.heap.size w w' := by
  have H := Lib.hid h
  clear h
  go_enter Tryz.func97, Tryz.ntmps97
  go_wp2_with fail
  refine (idxF_any gm gq cq gn cn cm cz az am s h0 hs hl w H.out hz hzz).mono ?_
  rintro e w1 ⟨rfl, hb1⟩
  have HB1 := Lib.hid hb1
  clear hb1 hz hzz
  go_wp2
  go_ret
  exact ⟨rfl, HB1.out⟩

set_option maxHeartbeats 1000000 in
set_option maxRecDepth 40000 in
theorem code_any (gf gq cq gn cn cm cz : Nat) (az am : Addr) (s : ByteArray) (h0 : 0 < s.size) (hs : s.size ≤ 1000) (hl : lowly s) (w : World)
    (q0 : w.cell? ⟨gq, 0, none⟩ = some (.slice (some ⟨gn, 0, none⟩) 1 cn)) (q1 : w.cell? ⟨gq, 1, none⟩ = some (.int .i64 1)) (q2 : w.cell? ⟨gq, 2, none⟩ = some (.int .i64 1)) (n0 : w.cell? ⟨gn, 0, none⟩ = some (.string s)) (hc : 1 ≤ cn)
    (hq : gq < w.heap.size) (hn : gn < w.heap.size) (hf : gf < w.heap.size) (hz : w.cell? am = some (.string s)) (hzz : w.cell? az = some (.slice (some am) 1 cm)) (ham : am.block < w.heap.size) (haz : az.block < w.heap.size)
    (f8 : w.cell? ⟨gf, 8, none⟩ = some (.slice (some az) 1 cz)) :
    Calls Tryz.prog 77 #[.pointer (some ⟨gf, 0, none⟩), askM (some ⟨gq, 0, none⟩) cq] w fun e w' => e = .returned (.int .i64 5) ∧ Below w.heap.size w w' := by
  have hmf : ∀ (fn : Fn) (first cap : Array Value) (w : World), (Instr.makeFunc fn first cap).run Tryz.prog w = .ok (.func fn first cap) w := fun _ _ _ _ => rfl
  unfold askM
  go_enter Tryz.func77, Tryz.ntmps77
  go_wp2_with fail
  refine (Typed1_any _).mono ?_
  rintro e w1 ⟨rfl, rfl⟩
  go_simp
  go_wp2_with fail
  obtain ⟨w0, hw0⟩ : ∃ W, W = w.alloc (.cells #[.int .i64 7, .bool false, .int .i64 0, .bool false, .bool false, .bool true, .bool false, .int .i64 0, .slice (some ⟨gq, 0, none⟩) 1 cq, .slice none 0 0, .slice none 0 0, .slice none 0 0, .bool false, .int .i64 0] 29) := ⟨_, rfl⟩
  rw [← hw0]
  have hb0 : Below w.heap.size w w0 := by rw [hw0]; exact (Below.refl _ _).alloc (Nat.le_refl _) _
  have hs0 : w0.heap.size = w.heap.size + 1 := by rw [hw0]; simp
  have hm0 : Blk w0 w.heap.size 29 #[.int .i64 7, .bool false, .int .i64 0, .bool false, .bool false, .bool true, .bool false, .int .i64 0, .slice (some ⟨gq, 0, none⟩) 1 cq, .slice none 0 0, .slice none 0 0, .slice none 0 0, .bool false, .int .i64 0] := by rw [hw0]; exact Blk.new _ _ _
  have hA : AskM w0.heap.size w.heap.size gq cq gn cn s w0 := ⟨hm0.cell 8, (World.cell?_of_block (hb0.block gq hq)).trans q0, (World.cell?_of_block (hb0.block gn hn)).trans n0, by omega, by omega, by omega, hc⟩
  have hz' := (World.cell?_of_block (hb0.block am.block ham)).trans hz
  have hzz' := (World.cell?_of_block (hb0.block az.block haz)).trans hzz
  clear hw0 q0 q1 q2 n0 hz hzz f8 hm0
  refine (conF_any w.heap.size gq cq gn cn cm cz az am s h0 hs hl w0 hA hz' hzz').mono ?_
  rintro e w1 ⟨rfl, hb1⟩
  have HB0 := Lib.hid hb0; have HB1 := Lib.hid hb1
  clear hb0 hb1 hA hz' hzz'
  go_simp
  go_wp2_with fail
  go_ret
  exact ⟨rfl, HB0.out.trans (HB1.out.mono (by omega))⟩
end Go.Proofs.YtacmgogobjpmcaaGreat
