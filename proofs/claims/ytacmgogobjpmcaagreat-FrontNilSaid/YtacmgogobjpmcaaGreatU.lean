/- Contracts: the program's msg.Decode on the small question's bytes. -/
import Derived.Test.YtacmgogobjpmcaaGreatT
import Derived.Test.YtacmgogobjpmcaaGreatZT
import Derived.Deep.DeepCutAuto
import Derived.Deep.CutBlock
namespace Go.Proofs.YtacmgogobjpmcaaGreat
open Go.RowKit

/-- the reader at a place, the message's cells; nothing else below B has turned -/
structure MS (B r c : Nat) (A : Option Addr) (s : ByteArray) (at_ : Nat) (cs : Array Value) (w0 w : World) : Prop where
  rd : RdrAt r 25 c A (askBytes s) at_ w
  m : Blk w B 29 cs
  fr : Fr B [r] w0 w
  rB : r < B
variable {B r c : Nat} {A : Option Addr} {s : ByteArray} {at_ at' : Nat} {cs : Array Value} {w0 w w' : World}
theorem MS.num (h : MS B r c A s at_ cs w0 w) (hr : RdrAt r 25 c A (askBytes s) at' w') (hf : Fr w.heap.size [r] w w') : MS B r c A s at' cs w0 w' :=
  ⟨hr, h.m.fr hf h.m.lt (by have := h.rB; simp; omega), h.fr.trans (hf.mono (Nat.le_of_lt h.m.lt) (by intro k _ hk; exact hk)), h.rB⟩
theorem MS.set_ (h : MS B r c A s at_ cs w0 w) (i : Nat) (u : Value) : MS B r c A s at_ (cs.setIfInBounds i u) w0 (w.setCell ⟨B, i, none⟩ u) :=
  ⟨h.rd.fr (B := B) (S := []) ((Fr.refl _ _ w).setCell (p := ⟨B, i, none⟩) (.inl (Nat.le_refl _)) _) h.rB (by simp), h.m.set_ i u, h.fr.setCell (p := ⟨B, i, none⟩) (.inl (Nat.le_refl _)) _, h.rB⟩
theorem MS.below (h : MS B r c A s at_ cs w0 w) (hb : Below w.heap.size w w') : MS B r c A s at_ cs w0 w' :=
  ⟨h.rd.fr (Fr.of_below (S := []) hb) h.rd.blk.lt (by simp), h.m.below hb h.m.lt, h.fr.trans (Fr.of_below (hb.mono (Nat.le_of_lt h.m.lt))), h.rB⟩
theorem MS.drewN (h : MS B r c A s at_ cs w0 w) (n : Nat) : MS B r c A s at_ cs w0 (w.drewN n) := ⟨⟨h.rd.blk.drewN n, h.rd.rd.drewN n, h.rd.cap⟩, h.m.drewN n, h.fr.drewN n, h.rB⟩
theorem MS.drew (h : MS B r c A s at_ cs w0 w) : MS B r c A s at_ cs w0 w.drew := ⟨⟨h.rd.blk.drew, h.rd.rd.drew, h.rd.cap⟩, h.m.drew, h.fr.drew, h.rB⟩

theorem frset {B : Nat} {S : List Nat} {a w : World} (h : Fr B S a w) (i : Nat) (u : Value) : Fr B S a (w.setCell ⟨B, i, none⟩ u) := h.setCell (p := ⟨B, i, none⟩) (.inl (Nat.le_refl _)) u
theorem ask_nums (s : ByteArray) : beN (((askBytes s).drop 0).take 2) = 7 ∧ beN (((askBytes s).drop 2).take 2) = 256 ∧ beN (((askBytes s).drop 4).take 2) = 1 ∧ beN (((askBytes s).drop 6).take 2) = 0 ∧ beN (((askBytes s).drop 8).take 2) = 0 ∧ beN (((askBytes s).drop 10).take 2) = 0 := by
  refine ⟨?_, ?_, ?_, ?_, ?_, ?_⟩ <;> simp [askBytes, beN]

def msgZ : Array Value := #[.int .i64 0, .bool false, .int .i64 0, .bool false, .bool false, .bool false, .bool false, .int .i64 0, .slice none 0 0, .slice none 0 0, .slice none 0 0, .slice none 0 0, .bool false, .int .i64 0]

def msgI : Array Value := #[.int .i64 7, .bool false, .int .i64 0, .bool false, .bool false, .bool false, .bool false, .int .i64 0, .slice none 0 0, .slice none 0 0, .slice none 0 0, .slice none 0 0, .bool false, .int .i64 0]
def msgF : Array Value := #[.int .i64 7, .bool false, .int .i64 0, .bool false, .bool false, .bool true, .bool false, .int .i64 0, .slice none 0 0, .slice none 0 0, .slice none 0 0, .slice none 0 0, .bool false, .int .i64 0]

set_option maxRecDepth 40000 in
theorem rdrRecords0_any (r m b : Value) (w : World) :
    Calls Tryz.prog 240 #[r, m, .int .i64 0, b] w fun e w' => e = .returned (.slice none 0 0) ∧ w' = w := by
  go_enter Tryz.func240, Tryz.ntmps240
  go_wp2
  refine wp_loop_once ?_
  go_wp2
  go_ret
  exact ⟨rfl, rfl⟩

set_option maxRecDepth 40000 in
theorem sections_any (m : Nat) (w : World) :
    Calls Tryz.prog 239 #[.pointer (some ⟨m, 0, none⟩)] w fun e w' => e = .returned (.slice (some ⟨w.heap.size, 0, none⟩) 3 3) ∧ Below w.heap.size w w' ∧
      Blk w' w.heap.size 347 #[.pointer (some ⟨m, 9, none⟩), .pointer (some ⟨m, 10, none⟩), .pointer (some ⟨m, 11, none⟩)] := by
  go_enter Tryz.func239, Tryz.ntmps239
  go_wp2_with fail
  go_region_held3 (fun _ => True) (trivial) (first | fail)
  go_wp2_with fail
  go_ret
  exact ⟨rfl, ((Below.refl _ w).alloc (Nat.le_refl _) _).drew, (Blk.new w _ _).drew⟩

theorem q_info : (Tryz.prog.info? 24).map (fun i => (i.zero, i.size, i.bytes)) = some (some (.agg #[.slice none 0 0, .int .i64 0, .int .i64 0]), 3, 40) := by kernel_rfl
def msgQ (Aq : Option Addr) (cq : Nat) : Array Value := #[.int .i64 7, .bool false, .int .i64 0, .bool false, .bool false, .bool true, .bool false, .int .i64 0, .slice Aq 1 cq, .slice none 0 0, .slice none 0 0, .slice none 0 0, .bool false, .int .i64 0]
/-- the question is read -/
structure MidW (B r c nb : Nat) (A : Option Addr) (s : ByteArray) (w0 : World) (Aq : Option Addr) (cq : Nat) (A' : Option Addr) (c' : Nat) (wx : World) : Prop where
  ms : MS B r c A s 25 (msgQ Aq cq) w0 wx
  qs : wx.ownsRow B 24 3 (.slice Aq 1 cq) 1 [.slice A' 1 c', .int .i64 1, .int .i64 1]
  nm : wx.ownsRow B 9 1 (.slice A' 1 c') 1 [.string s]
  nu : Blk wx nb 3 #[.int .i64 1, .int .i64 0, .int .i64 0, .int .i64 0]

set_option maxHeartbeats 4000000 in
set_option maxRecDepth 40000 in
theorem message_any (r c : Nat) (A : Option Addr) (s : ByteArray) (hs : s.size = 7) (w : World) (h : RdrAt r 25 c A (askBytes s) 0 w) :
    Calls Tryz.prog 150 #[.pointer (some ⟨r, 0, none⟩)] w fun e w' => Hid (∃ Aq cq A' c', e = .returned (askM Aq cq) ∧ w'.ownsRow w.heap.size 24 3 (.slice Aq 1 cq) 1 [.slice A' 1 c', .int .i64 1, .int .i64 1] ∧
      w'.ownsRow w.heap.size 9 1 (.slice A' 1 c') 1 [.string s] ∧ Fr w.heap.size [r] w w') := by
  obtain ⟨q0, q2, q4, q6, q8, q10⟩ := ask_nums s
  have hlt := h.blk.lt
  obtain ⟨w0, hw0⟩ : ∃ W, W = w.alloc (.cells msgZ 29) := ⟨_, rfl⟩
  have hb0 : Below w.heap.size w w0 := by rw [hw0]; exact (Below.refl _ _).alloc (Nat.le_refl _) _
  have h0 : MS w.heap.size r c A s 0 msgZ w w0 := ⟨h.fr (Fr.of_below (S := []) hb0) hlt (by simp), by rw [hw0]; exact Blk.new _ _ _, Fr.of_below hb0, hlt⟩
  have H0 := Lib.hid h0
  clear h h0 hb0
  unfold msgZ at hw0
  have b1 : bits BinOp.and IntKind.i64 0 15 = 0 := by decide
  have b2 : bits BinOp.and IntKind.i64 0 1 = 0 := by decide
  have b3 : bits BinOp.and IntKind.i64 1 1 = 1 := by decide
  have b4 : bits BinOp.and IntKind.i64 2 1 = 0 := by decide
  have b5 : bits BinOp.and IntKind.i64 256 15 = 0 := by decide
  go_enter Tryz.func150, Tryz.ntmps150
  go_wp2_with fail
  rw [← hw0]
  clear hw0
  have hn := rdrNum_any r 25 c A (askBytes s) 0 w0 H0.out.rd (by omega)
  rw [q0] at hn
  refine hn.mono ?_
  clear hn
  rintro e w1 ⟨rfl, h1, hf1⟩
  have h1 := H0.out.num h1 hf1
  have H1 := Lib.hid h1
  have g0 := h1.m.cell 0; have gf := h1.m.frozen 0
  clear h1 hf1
  unfold msgZ at g0
  go_wp2_with fail
  obtain ⟨w2, hw2⟩ : ∃ W, W = w1.setCell ⟨w.heap.size, 0, none⟩ (.int .i64 7) := ⟨_, rfl⟩
  rw [← hw2]
  have h2 : MS w.heap.size r c A s 2 msgI w w2 := by rw [hw2]; exact H1.out.set_ 0 (.int .i64 7)
  have H2 := Lib.hid h2
  clear h2 hw2 g0 gf
  have hn := rdrNum_any r 25 c A (askBytes s) 2 w2 H2.out.rd (by omega)
  rw [q2] at hn
  refine hn.mono ?_
  clear hn
  rintro e w3 ⟨rfl, h3, hf3⟩
  have h3 := H2.out.num h3 hf3
  have H3 := Lib.hid h3
  have m1 := h3.m.cell 1; have f1 := h3.m.frozen 1; have m2 := h3.m.cell 2; have f2 := h3.m.frozen 2; have m3 := h3.m.cell 3; have f3 := h3.m.frozen 3; have m4 := h3.m.cell 4; have f4 := h3.m.frozen 4; have m5 := h3.m.cell 5; have f5 := h3.m.frozen 5; have m6 := h3.m.cell 6; have f6 := h3.m.frozen 6; have m7 := h3.m.cell 7; have f7 := h3.m.frozen 7
  unfold msgI at m1 m2 m3 m4 m5 m6 m7
  clear h3 hf3
  go_simp
  go_wp2_with fail
  obtain ⟨w4, hw4⟩ : ∃ W, W = ((((((w3.setCell ⟨w.heap.size, 1, none⟩ (.bool false)).setCell ⟨w.heap.size, 2, none⟩ (.int .i64 0)).setCell ⟨w.heap.size, 3, none⟩ (.bool false)).setCell ⟨w.heap.size, 4, none⟩ (.bool false)).setCell ⟨w.heap.size, 5, none⟩ (.bool true)).setCell ⟨w.heap.size, 6, none⟩ (.bool false)).setCell ⟨w.heap.size, 7, none⟩ (.int .i64 0) := ⟨_, rfl⟩
  rw [← hw4]
  have h4 : MS w.heap.size r c A s 4 msgF w w4 := by rw [hw4]; exact ((((((H3.out.set_ 1 _).set_ 2 _).set_ 3 _).set_ 4 _).set_ 5 _).set_ 6 _).set_ 7 _
  have H4 := Lib.hid h4
  clear hw4 h4 m1 m2 m3 m4 m5 m6 m7 f1 f2 f3 f4 f5 f6 f7
  have hn := rdrNum_any r 25 c A (askBytes s) 4 w4 H4.out.rd (by omega)
  rw [q4] at hn
  refine hn.mono ?_
  clear hn
  rintro e w5 ⟨rfl, h5, hf5⟩
  have h5 := H4.out.num h5 hf5
  have H5 := Lib.hid h5
  clear h5 hf5
  go_simp
  go_wp2_with fail
  have hn := rdrNum_any r 25 c A (askBytes s) 6 w5 H5.out.rd (by omega)
  rw [q6] at hn
  refine hn.mono ?_
  clear hn
  rintro e w6 ⟨rfl, h6, hf6⟩
  have h6 := H5.out.num h6 hf6
  have H6 := Lib.hid h6
  clear h6 hf6
  go_simp
  go_wp2_with fail
  have hn := rdrNum_any r 25 c A (askBytes s) 8 w6 H6.out.rd (by omega)
  rw [q8] at hn
  refine hn.mono ?_
  clear hn
  rintro e w7 ⟨rfl, h7, hf7⟩
  have h7 := H6.out.num h7 hf7
  have H7 := Lib.hid h7
  clear h7 hf7
  go_simp
  go_wp2_with fail
  have hn := rdrNum_any r 25 c A (askBytes s) 10 w7 H7.out.rd (by omega)
  rw [q10] at hn
  refine hn.mono ?_
  clear hn
  rintro e w8 ⟨rfl, h8, hf8⟩
  have h8 := H7.out.num h8 hf8
  have H8 := Lib.hid h8
  clear h8 hf8
  go_simp
  go_wp2_with fail
  obtain ⟨w9, hw9⟩ : ∃ W, W = w8.alloc (.cells #[.int .i64 1, .int .i64 0, .int .i64 0, .int .i64 0] 3) := ⟨_, rfl⟩
  rw [← hw9]
  have hs9 : w9.heap.size = w8.heap.size + 1 := by rw [hw9]; simp
  have hb9 : Below w8.heap.size w8 w9 := by rw [hw9]; exact (Below.refl _ _).alloc (Nat.le_refl _) _
  have hn9 : Blk w9 w8.heap.size 3 #[.int .i64 1, .int .i64 0, .int .i64 0, .int .i64 0] := by rw [hw9]; exact Blk.new _ _ _
  have H9 := Lib.hid (H8.out.below hb9); have HN9 := Lib.hid hn9
  have i0 := hn9.cell 0; have i1 := hn9.cell 1; have i2 := hn9.cell 2; have i3 := hn9.cell 3
  clear hw9 hb9 hn9
  go_quiet (fail)
  go_upto_block 0 with fail
  obtain ⟨w10, hw10⟩ : ∃ W, W = w9.drewN nq := ⟨_, rfl⟩
  rw [← hw10]
  have h10 : MS w.heap.size r c A s 12 msgF w w10 := by rw [hw10]; exact H9.out.drewN nq
  have hn10 : Blk w10 w8.heap.size 3 #[.int .i64 1, .int .i64 0, .int .i64 0, .int .i64 0] := by rw [hw10]; exact HN9.out.drewN nq
  have HBn : Hid (w.heap.size < w8.heap.size) := Lib.hid H8.out.m.lt
  have k8 := h10.m.cell 8
  unfold msgF at k8
  have H10 := Lib.hid h10; have HN10 := Lib.hid hn10
  clear hw10 h10 hn10 i0 i1 i2 i3
  go_cut [] (fun wx => Hid (∃ Aq cq A' c', MidW w.heap.size r c w8.heap.size A s w Aq cq A' c' wx))
  case first =>
    go_wp2_with fail
    refine wp_loop_rounds 2 ?_
    rw [rounds_succ]
    go_wp2_with fail
    have hS0 : w10.drew.cell? ⟨w.heap.size, 8, none⟩ = some (.slice none 0 0) := H10.out.drew.m.cell 8
    refine region_L 7 (fun w' => w'.cell? ⟨w.heap.size, 8, none⟩ = some (.slice none 0 0)) (by kernel_rfl) ?_
    refine anyL_take (i := 0) (v := ?_) rfl (by kernel_rfl) (by kernel_rfl) (by kernel_rfl) (by kernel_rfl) (fun _ _ _ h => h) hS0 (Or.inl ⟨by rfl, ?_⟩) ?_
    rotate_left
    · intro w' hSw; (try dsimp only at hSw); first | (go_simp; done) | (go_simp; with_reducible rfl)
    try simp only [Act.put, List.setIfInBounds_toArray, List.set_cons_zero, List.set_cons_succ]
    refine anyL_take (i := 1) (v := ?_) rfl (by kernel_rfl) (by kernel_rfl) (by kernel_rfl) (by kernel_rfl) (fun _ _ _ h => h) hS0 (Or.inl ⟨by rfl, ?_⟩) ?_
    rotate_left
    · intro w' hSw; (try dsimp only at hSw); first | (go_simp; done) | (go_simp; with_reducible rfl)
    try simp only [Act.put, List.setIfInBounds_toArray, List.set_cons_zero, List.set_cons_succ]
    refine anyL_take (i := 2) (v := ?_) rfl (by kernel_rfl) (by kernel_rfl) (by kernel_rfl) (by kernel_rfl) (fun _ _ _ h => h) hS0 (Or.inl ⟨by rfl, ?_⟩) ?_
    rotate_left
    · intro w' hSw; (try dsimp only at hSw); first | (go_simp; done) | (go_simp; with_reducible rfl)
    try simp only [Act.put, List.setIfInBounds_toArray, List.set_cons_zero, List.set_cons_succ]
    refine anyL_one (i := 3) (by kernel_rfl) rfl (fun K hK => ?_)
    go_simp
    refine (rdrQuestion_any r c A s hs w10.drew H10.out.drew.rd).mono ?_
    rintro e w11 hr
    obtain ⟨A', c', rfl, ho, h11, hf11⟩ := hr.out
    have h11 := H10.out.drew.num h11 hf11
    have hn11 := HN10.out.drew.fr hf11 HN10.out.lt (by have := HBn.out; have := H10.out.rB; simp; omega)
    have k8 : w11.cell? ⟨w.heap.size, 8, none⟩ = some (.slice none 0 0) := h11.m.cell 8
    have k8a : (w11.alloc (.cells #[.slice A' 1 c', .int .i64 1, .int .i64 1] 24)).cell? ⟨w.heap.size, 8, none⟩ = some (.slice none 0 0) := (h11.m.alloc (.cells #[.slice A' 1 c', .int .i64 1, .int .i64 1] 24)).cell 8
    have H11 := Lib.hid h11; have HO11 := Lib.hid (own_base ho (show w.heap.size ≤ w10.drew.heap.size from Nat.le_of_lt H10.out.m.lt)); have HN11 := Lib.hid hn11
    clear hr ho h11 hf11 hn11
    go_simp
    refine hK.out _ _ k8 ?_
    clear hK K
    try simp only [Act.put, List.setIfInBounds_toArray, List.set_cons_zero, List.set_cons_succ]
    refine anyL_one (i := 4) (by kernel_rfl) rfl (fun K hK => ?_)
    go_simp
    refine hK.out _ _ k8a ?_
    clear hK K
    try simp only [Act.put, List.setIfInBounds_toArray, List.set_cons_zero, List.set_cons_succ]
    refine anyL_one (i := 5) (by kernel_rfl) rfl (fun K hK => ?_)
    refine step_app rfl (.tmp 75) (.tmp 78) _ (by rfl) w.heap.size 24 _ 3 40 Tryz.underlying26 q_info rfl (by decide) (.slice none 0 0) 0 [] (by rfl) (World.ownsRow_nil _ _ _ _) (w11.heap.size + 1) (some ⟨w11.heap.size, 0, none⟩) 1 1 [.slice A' 1 c', .int .i64 1, .int .i64 1] (by rfl) (Rd.boxN w11 #[.slice A' 1 c', .int .i64 1, .int .i64 1] _) (by simp [Value.oneCell']) (by unfold maxLen; omega) (by omega) (by have := H11.out.m.lt; simp; omega) ?_
    intro v12 w12 hown hg hat
    obtain ⟨Aq, cq, rfl⟩ := own_slice hown
    have hb12 : Below w11.heap.size w11 w12 := ((Below.refl _ w11).alloc (Nat.le_refl _) _).grown hg (by simp) (by intro k hk; simp [Value.ownBlock] at hk)
    have h12 := H11.out.below hb12
    have k12 : w12.cell? ⟨w.heap.size, 8, none⟩ = some (.slice none 0 0) := h12.m.cell 8
    have kf12 := h12.m.frozen 8
    have H12 := Lib.hid h12; have HO12 := Lib.hid (own_below HO11.out hb12); have HN12 := Lib.hid (HN11.out.below hb12 HN11.out.lt); have HQ12 := Lib.hid hown
    clear hown hg hat hb12 h12
    refine hK.out _ _ k12 ?_
    clear hK K
    try simp only [Act.put, List.setIfInBounds_toArray, List.set_cons_zero, List.set_cons_succ]
    refine anyL_take (i := 6) (v := ?_) rfl (by kernel_rfl) (by kernel_rfl) (by kernel_rfl) (by kernel_rfl) (fun _ _ _ h => h) k12 (Or.inl ⟨by rfl, ?_⟩) ?_
    rotate_left
    · intro w' hSw; (try dsimp only at hSw); first | (go_simp; done) | (go_simp; with_reducible rfl)
    try simp only [Act.put, List.setIfInBounds_toArray, List.set_cons_zero, List.set_cons_succ]
    refine anyL_last (by kernel_rfl) rfl (by kernel_rfl) (fun K hK => ?_)
    go_simp
    refine hK.out _ _ ?_
    clear hK K
    all_goals
      have hfin : MidW w.heap.size r c w8.heap.size A s w Aq cq A' c' (w12.setCell ⟨w.heap.size, 8, none⟩ (.slice Aq 1 cq)) := by
        refine ⟨?_, ?_, ?_, ?_⟩
        · have := H12.out.set_ 8 (.slice Aq 1 cq)
          exact this
        · have := own_set HQ12.out (p := ⟨w.heap.size, 8, none⟩) (own_blk_ne HQ12.out H12.out.m (by decide)) (.slice Aq 1 cq)
          simpa using this
        · exact own_set HO12.out (p := ⟨w.heap.size, 8, none⟩) (own_blk_ne HO12.out H12.out.m (by decide)) _
        · exact HN12.out.far (by have := HBn.out; simp; omega) _
      have HFin := Lib.hid hfin
      clear hfin k8 k12 kf12
      go_wp2_with fail
      rw [rounds_succ]
      go_wp2_with fail
      go_meet
      exact Lib.hid ⟨Aq, cq, A', c', HFin.out⟩
  case rest =>
    obtain ⟨Aq, cq, A', c', hM⟩ := hcut.out
    have HM := Lib.hid hM
    clear hcut hM
    go_wp2_with fail
    refine (sections_any w.heap.size wc).mono ?_
    rintro e w13 ⟨rfl, hb13, hs13⟩
    have h13 := HM.out.ms.below hb13
    have hn13 := HM.out.nu.below hb13 HM.out.nu.lt
    have s0 := hs13.cell 0; have s1 := hs13.cell 1; have s2 := hs13.cell 2
    have n1 := hn13.cell 1; have n2 := hn13.cell 2; have n3 := hn13.cell 3
    have m9 := h13.m.cell 9; have m10 := h13.m.cell 10; have m11 := h13.m.cell 11; have f9 := h13.m.frozen 9; have f10 := h13.m.frozen 10; have f11 := h13.m.frozen 11
    unfold msgQ at m9 m10 m11
    have d1 : ¬ (w.heap.size = wc.heap.size) := by have := HM.out.ms.m.lt; omega
    have d2 : ¬ (wc.heap.size = w.heap.size) := fun e => d1 e.symm
    have d3 : ¬ (w.heap.size = w8.heap.size) := by have := HBn.out; omega
    have d4 : ¬ (w8.heap.size = w.heap.size) := fun e => d3 e.symm
    have H13 := Lib.hid h13; have HQ13 := Lib.hid (own_below HM.out.qs hb13); have HN13 := Lib.hid (own_below HM.out.nm hb13)
    clear hb13 hs13 h13 hn13
    go_wp2_with fail
    refine wp_loop_rounds 4 ?_
    rw [rounds_succ]
    go_wp2_with fail
    iterate 3
      refine (rdrRecords0_any _ _ _ _).mono ?_
      rintro e wz ⟨rfl, rfl⟩
      go_simp
      go_wp2_with fail
      rw [rounds_succ]
      go_wp2_with fail
    obtain ⟨w14, hw14⟩ : ∃ W, W = ((wz.setCell ⟨w.heap.size, 9, none⟩ (.slice none 0 0)).setCell ⟨w.heap.size, 10, none⟩ (.slice none 0 0)).setCell ⟨w.heap.size, 11, none⟩ (.slice none 0 0) := ⟨_, rfl⟩
    rw [← hw14]
    have h14 : MS w.heap.size r c A s 25 (msgQ Aq cq) w w14 := by rw [hw14]; exact ((H13.out.set_ 9 _).set_ 10 _).set_ 11 _
    have r0 := h14.rd.blk.cell 0; have r1 := h14.rd.blk.cell 1
    have np := own_blk_ne HN13.out H13.out.m (by decide); have nq := own_blk_ne HQ13.out H13.out.m (by decide)
    have HN14 : Hid (w14.ownsRow w.heap.size 9 1 (.slice A' 1 c') 1 [.string s]) := Lib.hid (by rw [hw14]; exact own_set (own_set (own_set HN13.out (p := ⟨w.heap.size, 9, none⟩) np _) (p := ⟨w.heap.size, 10, none⟩) np _) (p := ⟨w.heap.size, 11, none⟩) np _)
    have HQ14 : Hid (w14.ownsRow w.heap.size 24 3 (.slice Aq 1 cq) 1 [.slice A' 1 c', .int .i64 1, .int .i64 1]) := Lib.hid (by rw [hw14]; exact own_set (own_set (own_set HQ13.out (p := ⟨w.heap.size, 9, none⟩) nq _) (p := ⟨w.heap.size, 10, none⟩) nq _) (p := ⟨w.heap.size, 11, none⟩) nq _)
    have H14 := Lib.hid h14
    clear hw14 h14 np nq m9 m10 m11 f9 f10 f11 s0 s1 s2 n1 n2 n3
    go_quiet (fail)
    obtain ⟨w15, hw15⟩ : ∃ W, W = w14.drewN nq := ⟨_, rfl⟩
    rw [← hw15]
    have h15 : MS w.heap.size r c A s 25 (msgQ Aq cq) w w15 := by rw [hw15]; exact H14.out.drewN nq
    have m0 := h15.m.cell 0; have f0 := h15.m.frozen 0; have m1 := h15.m.cell 1; have f1 := h15.m.frozen 1; have m2 := h15.m.cell 2; have f2 := h15.m.frozen 2; have m3 := h15.m.cell 3; have f3 := h15.m.frozen 3; have m4 := h15.m.cell 4; have f4 := h15.m.frozen 4; have m5 := h15.m.cell 5; have f5 := h15.m.frozen 5; have m6 := h15.m.cell 6; have f6 := h15.m.frozen 6; have m7 := h15.m.cell 7; have f7 := h15.m.frozen 7; have m8 := h15.m.cell 8; have f8 := h15.m.frozen 8; have m9 := h15.m.cell 9; have f9 := h15.m.frozen 9; have m10 := h15.m.cell 10; have f10 := h15.m.frozen 10; have m11 := h15.m.cell 11; have f11 := h15.m.frozen 11; have m12 := h15.m.cell 12; have f12 := h15.m.frozen 12; have m13 := h15.m.cell 13; have f13 := h15.m.frozen 13
    unfold msgQ at m0 m1 m2 m3 m4 m5 m6 m7 m8 m9 m10 m11 m12 m13
    have HN15 : Hid (w15.ownsRow w.heap.size 9 1 (.slice A' 1 c') 1 [.string s]) := Lib.hid (by rw [hw15]; exact HN14.out)
    have HQ15 : Hid (w15.ownsRow w.heap.size 24 3 (.slice Aq 1 cq) 1 [.slice A' 1 c', .int .i64 1, .int .i64 1]) := Lib.hid (by rw [hw15]; exact HQ14.out)
    have H15 := Lib.hid h15
    clear hw15 h15 r0 r1
    go_wp2_with fail
    refine bodyPost_ret (v := askM Aq cq) (by unfold askM; simp [results, Tryz.results150, go_sem, m0, m1, m2, m3, m4, m5, m6, m7, m8, m9, m10, m11, m12, m13]) rfl ?_
    have np := own_blk_ne HN15.out H15.out.m (by decide); have nq := own_blk_ne HQ15.out H15.out.m (by decide)
    refine Lib.hid ⟨Aq, cq, A', c', rfl, ?_, ?_, ?_⟩
    · iterate 14 refine own_set ?_ nq _
      exact HQ15.out
    · iterate 14 refine own_set ?_ np _
      exact HN15.out
    · iterate 14 refine frset ?_ _ _
      exact H15.out.fr
end Go.Proofs.YtacmgogobjpmcaaGreat
