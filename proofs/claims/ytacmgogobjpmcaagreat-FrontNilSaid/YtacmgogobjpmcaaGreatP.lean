/- Contracts: the references' encoding of one small question. -/
import Derived.Test.YtacmgogobjpmcaaGreatO
namespace Go.Proofs.YtacmgogobjpmcaaGreat
open Go.RowKit

set_option maxRecDepth 20000 in
theorem rSize1_any (ad : Addr) (cn : Nat) (s : ByteArray) (hs : s.size = 7) (w : World) (h : w.cell? ad = some (.string s)) :
    Calls Tryz.prog 43 #[.slice (some ad) 1 cn] w fun e w' => e = .returned (.int .i64 9) ∧ w' = w := by
  go_enter Tryz.func43, Tryz.ntmps43
  go_wp2
  refine wp_loop_rounds 2 ?_
  rw [rounds_succ]
  go_wp2
  rw [rounds_succ]
  go_wp2
  go_ret
  exact ⟨rfl, rfl⟩

set_option maxRecDepth 20000 in
theorem rSound1_any (ad : Addr) (cn : Nat) (s : ByteArray) (hs : s.size = 7) (w : World) (h : w.cell? ad = some (.string s)) :
    Calls Tryz.prog 8 #[.slice (some ad) 1 cn] w fun e w' => e = .returned (.bool true) ∧ w' = w := by
  go_enter Tryz.func8, Tryz.ntmps8
  go_wp2
  refine wp_loop_rounds 2 ?_
  rw [rounds_succ]
  go_wp2
  rw [rounds_succ]
  go_wp2_with fail
  refine (rSize1_any ad cn s hs w h).mono ?_
  rintro e w1 ⟨rfl, rfl⟩
  go_wp2
  go_ret
  exact ⟨rfl, rfl⟩

theorem rRecords0_any (w : World) :
    Calls Tryz.prog 118 #[.slice none 0 0] w fun e w' => e = .returned (.bool true) ∧ w' = w := by
  go_enter Tryz.func118, Tryz.ntmps118
  go_wp2
  refine wp_loop_once ?_
  go_wp2
  go_ret
  exact ⟨rfl, rfl⟩

theorem rFlag_any (b : Bool) (n : Int) (w : World) :
    Calls Tryz.prog 120 #[.bool b, .int .i64 n] w fun e w' => e = .returned (.int .i64 (if b then n else 0)) ∧ w' = w := by
  cases b
  · go_enter Tryz.func120, Tryz.ntmps120
    go_wp2
    go_ret
    exact ⟨rfl, rfl⟩
  · go_enter Tryz.func120, Tryz.ntmps120
    go_wp2
    go_ret
    exact ⟨rfl, rfl⟩

/-- the message of one question -/
def askM (A : Option Addr) (c : Nat) : Value :=
  .agg #[.int .i64 7, .bool false, .int .i64 0, .bool false, .bool false, .bool true, .bool false, .int .i64 0, .slice A 1 c, .slice none 0 0, .slice none 0 0, .slice none 0 0, .bool false, .int .i64 0]

/-- the question of one label: its block, its name's block, the label -/
structure AskQ (B q n cn : Nat) (s : ByteArray) (w : World) : Prop where
  qb : Blk w q 24 #[.slice (some ⟨n, 0, none⟩) 1 cn, .int .i64 1, .int .i64 1]
  nb : w.cell? ⟨n, 0, none⟩ = some (.string s)
  ql : q < B
  nl : n < B
  sz : s.size = 7
theorem AskQ.below {B q n cn : Nat} {s : ByteArray} {w w' : World} (h : AskQ B q n cn s w) (hb : Below B w w') : AskQ B q n cn s w' :=
  ⟨h.qb.below hb h.ql, (World.cell?_of_block (hb.block n h.nl)).trans h.nb, h.ql, h.nl, h.sz⟩

set_option maxHeartbeats 1000000 in
set_option maxRecDepth 40000 in
theorem rMsg_any (q n c cn : Nat) (s : ByteArray) (w : World) (h : AskQ w.heap.size q n cn s w) :
    Calls Tryz.prog 54 #[askM (some ⟨q, 0, none⟩) c] w fun e w' => e = .returned (.bool true) ∧ Below w.heap.size w w' := by
  have c0 := h.qb.cell 0
  have c1 := h.qb.cell 1
  have c2 := h.qb.cell 2
  have n0 := h.nb
  have ql := h.ql
  have nl := h.nl
  have hs := h.sz
  have H := Lib.hid h
  clear h
  have hf1 : fitsB 1 2 = true := rfl
  have hf7 : fitsB 7 2 = true := rfl
  have hf0 : fitsB 0 2 = true := rfl
  unfold askM
  go_enter Tryz.func54, Tryz.ntmps54
  go_wp2
  refine wp_loop_rounds 2 ?_
  rw [rounds_succ]
  go_wp2_with fail
  refine (rSound1_any ⟨n, 0, none⟩ cn s hs _ (H.out.below (((Below.refl _ w).alloc (Nat.le_refl _) _).alloc (by simp) _)).nb).mono ?_
  rintro e w1 ⟨rfl, rfl⟩
  go_simp
  go_wp2_with fail
  refine (rFits_any 1 2 _ (by omega)).mono ?_
  rintro e w1 ⟨rfl, rfl⟩
  go_simp
  go_wp2_with fail
  rw [rounds_succ]
  go_wp2_with fail
  refine (rFits_any 7 2 _ (by omega)).mono ?_
  rintro e w1 ⟨rfl, rfl⟩
  go_simp
  go_wp2_with fail
  refine (rFits_any 0 2 _ (by omega)).mono ?_
  rintro e w1 ⟨rfl, rfl⟩
  go_simp
  go_wp2_with fail
  iterate 3
    refine (rRecords0_any _).mono ?_
    rintro e w1 ⟨rfl, rfl⟩
    go_simp
    go_wp2_with fail
  go_ret
  exact ⟨rfl, ((Below.refl _ w).alloc (Nat.le_refl _) _).alloc (by simp) _⟩
end Go.Proofs.YtacmgogobjpmcaaGreat
