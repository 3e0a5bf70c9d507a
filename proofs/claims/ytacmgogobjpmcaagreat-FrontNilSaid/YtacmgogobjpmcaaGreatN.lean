/- Contracts: the references' writer (ref03). -/
import Derived.Test.YtacmgogobjpmcaaGreatM
namespace Go.Proofs.YtacmgogobjpmcaaGreat
open Go.RowKit

/-- a writer at block g: its bytes, and how many rests -/
structure RWr (w : World) (B g : Nat) (bs : List UInt8) (k : Nat) : Prop where
  mk :: (out : ∃ A c rv rs, Blk w g 222 #[.slice A bs.length c, rv] ∧ B ≤ g ∧ w.ownsRow B 5 1 (.slice A bs.length c) bs.length (bys bs) ∧
    w.ownsRow B 305 2 rv k rs)

theorem RWr.below {w w' : World} {B g k : Nat} {bs : List UInt8} (h : RWr w B g bs k) (hb : Below w.heap.size w w') : RWr w' B g bs k := by
  obtain ⟨A, c, rv, rs, h1, h2, h3, h4⟩ := h
  exact ⟨A, c, rv, rs, h1.below hb h1.lt, h2, own_below h3 hb, own_below h4 hb⟩
theorem RWr.lt {w : World} {B g k : Nat} {bs : List UInt8} (h : RWr w B g bs k) : g < w.heap.size ∧ B ≤ g := by
  obtain ⟨A, c, rv, rs, h1, h2, _⟩ := h
  exact ⟨h1.lt, h2⟩

set_option maxRecDepth 20000 in
theorem rwNum_any (B g k : Nat) (bs : List UInt8) (n : Int) (size : Nat) (w : World) (h : RWr w B g bs k) (hm : bs.length ≤ 1000000) (hn : n ≤ 9223372036854775807) :
    Calls Tryz.prog 119 #[.pointer (some ⟨g, 0, none⟩), .int .i64 n, .int .i64 size] w fun e w' => e = .returned (.tuple #[]) ∧ RWr w' B g (bs ++ putB n size) k ∧ Below B w w' := by
  obtain ⟨A, c, rv, rs, h1, h2, h3, h4⟩ := h
  have c0 := h1.cell 0
  have H1 := Lib.hid h1; have H3 := Lib.hid h3; have H4 := Lib.hid h4
  clear h1 h3 h4
  go_enter Tryz.func119, Tryz.ntmps119
  go_wp2_with fail
  refine (rPut_any A _ c bs n size w (Rd.of_own H3.out) (by omega) hn).mono ?_
  rintro e w1 hq
  obtain ⟨v1, rfl, ho1, hb1⟩ := hq.out
  obtain ⟨A1, c1, rfl⟩ := own_slice ho1
  have hg1 := H1.out.below hb1 H1.out.lt
  have k0 := hg1.cell 0
  have f0 := hg1.frozen 0
  have HO1 := Lib.hid ho1; have HB1 := Lib.hid hb1; have HG1 := Lib.hid hg1
  clear hq ho1 hb1 hg1 c0
  go_wp2
  go_end0
  have hBw : B ≤ w.heap.size := by have := H1.out.lt; omega
  refine ⟨rfl, ⟨A1, c1, rv, rs, by simpa using HG1.out.set_ 0 (.slice A1 (bs ++ putB n size).length c1), h2, ?_, ?_⟩, ?_⟩
  · exact own_set (own_base HO1.out hBw) (own_blk_ne HO1.out HG1.out (by decide)) _
  · exact own_set (own_below H4.out HB1.out) (own_blk_ne (own_below H4.out HB1.out) HG1.out (by decide)) _
  · exact (HB1.out.mono hBw).setCell (p := ⟨g, 0, none⟩) h2 _

set_option maxRecDepth 20000 in
theorem rwRaw_any (B g k : Nat) (bs : List UInt8) (A : Option Addr) (m c : Nat) (xs : List UInt8) (w : World) (h : RWr w B g bs k) (hx : Rd w w.heap.size 1 A m (bys xs)) (hm : bs.length + m ≤ 1000000) :
    Calls Tryz.prog 123 #[.pointer (some ⟨g, 0, none⟩), .slice A m c] w fun e w' => e = .returned (.tuple #[]) ∧ RWr w' B g (bs ++ xs) k ∧ Below B w w' := by
  obtain ⟨A0, c0', rv, rs, h1, h2, h3, h4⟩ := h
  have c0 := h1.cell 0
  have hlt := h1.lt
  have hml := hx.byLen
  have H1 := Lib.hid h1; have H3 := Lib.hid h3; have H4 := Lib.hid h4
  have HX := Lib.hid hx; have HML := Lib.hid hml
  clear h1 h3 h4 hx hml
  go_enter Tryz.func123, Tryz.ntmps123
  have hr0 := Lib.hid ((Rd.of_own H3.out).alloc (Nat.le_refl _) (.cells #[] 5))
  go_wp2_with (first
    | (at_builtin; refine wpList_app rfl (.tmp 5) (.tmp 9) _ rfl w.heap.size _ _ 1 1 Tryz.underlying30 u8_info rfl (by decide) (.slice (some ⟨w.heap.size, 0, none⟩) 0 0) 0 [] rfl (own_empty w _ 1) w.heap.size A0 bs.length c0' (bys bs) rfl hr0.out (bys_one _) (by unfold maxLen; omega) (by omega) (by simp) ?_
       intro v1 w1 hown hg hat
       have hb1 : Below w.heap.size w w1 := ((Below.refl _ _).alloc (Nat.le_refl _) _).grown hg (by simp) (by intro k hk; simp [Value.ownBlock] at hk; omega)
       have hs1 := hb1.size
       have HO := Lib.hid hown; have HB1 := Lib.hid hb1; clear hown hg hat hb1)
    | (at_builtin; refine wpList_app rfl (.tmp 10) (.tmp 11) _ rfl w.heap.size _ _ 1 1 Tryz.underlying30 u8_info rfl (by decide) v1 (0 + bs.length) ([] ++ bys bs) rfl HO.out w.heap.size A m c (bys xs) rfl (HX.out.below HB1.out) (bys_one _) (by unfold maxLen; omega) (by omega) hs1 ?_
       intro v2 w2 hown hg hat
       obtain ⟨A2, c2, rfl⟩ := own_slice hown
       have hb2 : Below w.heap.size w w2 := HB1.out.grown hg hs1 (fun k hk => (HO.out.lt k hk).1)
       have hg2 := H1.out.below hb2 H1.out.lt
       have k0 := hg2.cell 0
       have f0 := hg2.frozen 0
       have HO2 := Lib.hid hown; have HB2 := Lib.hid hb2; have HG2 := Lib.hid hg2; clear hown hg hat hb2 hg2))
  go_end0
  have hBw : B ≤ w.heap.size := by omega
  have ho2 := HO2.out
  rw [List.nil_append, ← bys_append, Nat.zero_add] at ho2
  have hml := HML.out
  have hln : bs.length + m = (bs ++ xs).length := by rw [List.length_append, hml]
  have hb3 := HG2.out.set_ 0 (.slice A2 (0 + bs.length + m) c2)
  rw [Nat.zero_add, hln] at hb3
  rw [hln] at ho2
  rw [hln]
  refine ⟨rfl, ⟨A2, c2, rv, rs, by simpa using hb3, h2, ?_, ?_⟩, ?_⟩
  · exact own_set (own_base ho2 hBw) (own_blk_ne ho2 HG2.out (by decide)) _
  · exact own_set (own_below H4.out HB2.out) (own_blk_ne (own_below H4.out HB2.out) HG2.out (by decide)) _
  · exact (HB2.out.mono hBw).setCell (p := ⟨g, 0, none⟩) h2 _
end Go.Proofs.YtacmgogobjpmcaaGreat
