/- Contracts: the program's wname.Writer: Raw, Num. -/
import Derived.Test.YtacmgogobjpmcaaGreatZA
namespace Go.Proofs.YtacmgogobjpmcaaGreat
open Go.RowKit

/-- a writer at block g: its bytes, its map -/
structure PWr (w : World) (B g : Nat) (bs : List UInt8) (mv : Value) : Prop where
  mk :: (out : ∃ A c, Blk w g 389 #[.slice A bs.length c, mv] ∧ B ≤ g ∧ w.ownsRow B 5 1 (.slice A bs.length c) bs.length (bys bs))

theorem PWr.below {w w' : World} {B g : Nat} {bs : List UInt8} {mv : Value} (h : PWr w B g bs mv) (hb : Below w.heap.size w w') : PWr w' B g bs mv := by
  obtain ⟨A, c, h1, h2, h3⟩ := h
  exact ⟨A, c, h1.below hb h1.lt, h2, own_below h3 hb⟩

/-- blocks of other types than bytes, and not the writer's, are as they were -/
structure WFr (g : Nat) (w w' : World) : Prop where
  blk : ∀ (k : Nat) (t : TypeId) (cs : Array Value), Blk w k t cs → t ≠ 5 → k ≠ g → Blk w' k t cs
theorem WFr.refl (g : Nat) (w : World) : WFr g w w := ⟨fun _ _ _ h _ _ => h⟩
theorem WFr.trans {g : Nat} {a w w' : World} (h : WFr g a w) (k : WFr g w w') : WFr g a w' := ⟨fun i t cs hi ht hg => k.blk i t cs (h.blk i t cs hi ht hg) ht hg⟩
theorem WFr.below {g : Nat} {a w w' : World} (h : WFr g a w) (hb : Below w.heap.size w w') : WFr g a w' := ⟨fun i t cs hi ht hg => let k := h.blk i t cs hi ht hg; k.below hb k.lt⟩
theorem WFr.set {g : Nat} {a w : World} (h : WFr g a w) (i : Nat) (u : Value) : WFr g a (w.setCell ⟨g, i, none⟩ u) := ⟨fun k t cs hk ht hg => (h.blk k t cs hk ht hg).far (by simpa using hg) u⟩

set_option maxRecDepth 20000 in
theorem pRaw_any (B g : Nat) (bs : List UInt8) (mv : Value) (A : Option Addr) (m c : Nat) (xs : List UInt8) (w : World) (h : PWr w B g bs mv) (hx : Rd w w.heap.size 1 A m (bys xs)) (hm : bs.length + m ≤ 1000000) :
    Calls Tryz.prog 288 #[.pointer (some ⟨g, 0, none⟩), .slice A m c] w fun e w' => e = .returned (.tuple #[]) ∧ PWr w' B g (bs ++ xs) mv ∧ Below B w w' ∧ WFr g w w' := by
  obtain ⟨A0, c0', h1, h2, h3⟩ := h
  have c0 := h1.cell 0
  have hlt := h1.lt
  have hml := hx.byLen
  have H1 := Lib.hid h1; have H3 := Lib.hid h3
  have HX := Lib.hid hx; have HML := Lib.hid hml
  clear h1 h3 hx hml
  go_enter Tryz.func288, Tryz.ntmps288
  go_wp2_with (first
    | (at_builtin; refine wpList_app rfl (.tmp 10) (.tmp 11) _ rfl B _ _ 1 1 Tryz.underlying30 u8_info rfl (by decide) (.slice A0 bs.length c0') bs.length (bys bs) rfl H3.out w.heap.size A m c (bys xs) rfl HX.out (bys_one _) (by unfold maxLen; omega) (by omega) (by omega) ?_
       intro v2 w2 hown hg hat
       obtain ⟨A2, c2, rfl⟩ := own_slice hown
       have hne := own_blk_ne H3.out H1.out (by decide)
       have hg2 := H1.out.grown hg (by intro e; rcases hne with h | h; rw [h] at e; cases e; exact h e.symm)
       have hb2 : Below B w w2 := (Below.refl B w).grown hg (by omega) (fun k hk => (H3.out.lt k hk).1)
       have hfr2 : WFr g w w2 := ⟨fun k t cs hk ht _ => hk.grown hg (by intro e; rcases own_blk_ne H3.out hk (Ne.symm ht) with h | h; rw [h] at e; cases e; exact h e.symm)⟩
       have k0 := hg2.cell 0
       have f0 := hg2.frozen 0
       have HO2 := Lib.hid hown; have HB2 := Lib.hid hb2; have HG2 := Lib.hid hg2; have HF2 := Lib.hid hfr2; clear hown hg hat hb2 hg2 hne hfr2))
  go_end0
  have ho2 := HO2.out
  rw [← bys_append] at ho2
  have hml := HML.out
  have hln : bs.length + m = (bs ++ xs).length := by rw [List.length_append, hml]
  have hb3 := HG2.out.set_ 0 (.slice A2 (bs.length + m) c2)
  rw [hln] at hb3
  rw [hln] at ho2
  rw [hln]
  refine ⟨rfl, ⟨A2, c2, by simpa using hb3, h2, ?_⟩, ?_, HF2.out.set 0 _⟩
  · exact own_set ho2 (own_blk_ne ho2 HG2.out (by decide)) _
  · exact HB2.out.setCell (p := ⟨g, 0, none⟩) h2 _

set_option maxRecDepth 20000 in
theorem pNum_any (B g : Nat) (bs : List UInt8) (mv : Value) (n : Int) (size : Nat) (w : World) (h : PWr w B g bs mv) (hm : bs.length + size ≤ 1000000) :
    Calls Tryz.prog 233 #[.pointer (some ⟨g, 0, none⟩), .int .i64 n, .int .i64 size] w fun e w' => e = .returned (.tuple #[]) ∧ PWr w' B g (bs ++ putB n size) mv ∧ Below B w w' ∧ WFr g w w' := by
  have H := Lib.hid h
  have hBw : B ≤ w.heap.size := by obtain ⟨A, c, h1, h2, _⟩ := h; have := h1.lt; omega
  clear h
  have hp := numPut_any none 0 0 [] n size w Rd.nil (by omega)
  rw [List.nil_append] at hp
  have HP := Lib.hid hp
  clear hp
  go_enter Tryz.func233, Tryz.ntmps233
  go_wp2_with fail
  refine HP.out.mono ?_
  rintro e w1 hq
  obtain ⟨v, rfl, ho, hb1⟩ := hq.out
  obtain ⟨A1, c1, rfl⟩ := own_slice ho
  have hl1 := putB_le n size
  have HR := Lib.hid (Rd.of_own ho); have HW := Lib.hid (H.out.below hb1); have HB1 := Lib.hid hb1
  clear hq ho hb1
  go_wp2_with fail
  refine (pRaw_any B g bs mv A1 _ c1 (putB n size) w1 HW.out HR.out (by omega)).mono ?_
  rintro e w2 ⟨rfl, h2, hb2, hf2⟩
  have H2 := Lib.hid h2; have HB2 := Lib.hid hb2; have HF2 := Lib.hid hf2
  clear h2 hb2 hf2
  go_wp2
  go_end0
  exact ⟨rfl, H2.out, (HB1.out.mono hBw).trans HB2.out, ((WFr.refl g w).below HB1.out).trans HF2.out⟩

theorem bit_any (b : Bool) (k : Int) (hk : k = 15 ∨ k = 10 ∨ k = 9 ∨ k = 8 ∨ k = 7) (w : World) :
    Calls Tryz.prog 322 #[.bool b, .int .i64 k] w fun e w' => e = .returned (.int .i64 (if b then 2 ^ k.toNat else 0)) ∧ w' = w := by
  rcases hk with rfl | rfl | rfl | rfl | rfl <;> cases b
  all_goals
    go_enter Tryz.func322, Tryz.ntmps322
    go_wp2
    go_ret
    exact ⟨rfl, rfl⟩

set_option maxHeartbeats 1000000 in
set_option maxRecDepth 40000 in
theorem flags_any (gm gq cq : Nat) (w : World) (h : Blk w gm 29 (respC (some ⟨gq, 0, none⟩) cq)) :
    Calls Tryz.prog 292 #[.pointer (some ⟨gm, 0, none⟩)] w fun e w' => e = .returned (.int .i64 33157) ∧ Below w.heap.size w w' := by
  have H := Lib.hid h
  clear h
  go_enter Tryz.func292, Tryz.ntmps292
  go_wp2_with fail
  go_region_held3 (fun w' => w'.cell? ⟨gm, 1, none⟩ = some (.bool true) ∧ w'.cell? ⟨gm, 2, none⟩ = some (.int .i64 0) ∧ w'.cell? ⟨gm, 3, none⟩ = some (.bool false) ∧ w'.cell? ⟨gm, 4, none⟩ = some (.bool false) ∧ w'.cell? ⟨gm, 5, none⟩ = some (.bool true) ∧ w'.cell? ⟨gm, 6, none⟩ = some (.bool true) ∧ w'.cell? ⟨gm, 7, none⟩ = some (.int .i64 5))
    (exact ⟨H.out.cell 1, H.out.cell 2, H.out.cell 3, H.out.cell 4, H.out.cell 5, H.out.cell 6, H.out.cell 7⟩)
    (first | (go_at_call 322; refine (bit_any _ _ (by omega) _).mono ?_; rintro e w9 ⟨rfl, rfl⟩))
  go_wp2_with fail
  have e1 : bits BinOp.or IntKind.i64 (bits BinOp.or IntKind.i64 (bits BinOp.or IntKind.i64 (bits BinOp.or IntKind.i64 (bits BinOp.or IntKind.i64 (bits BinOp.or IntKind.i64 32768 (IntKind.i64.wrap 0)) 0) 0) 256) 128) 5 = 33157 := by decide
  go_ret
  exact ⟨congrArg (fun x => Ending.returned (.int .i64 x)) e1, (Below.refl _ _).drew⟩
end Go.Proofs.YtacmgogobjpmcaaGreat
