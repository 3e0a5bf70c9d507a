/- Contracts: the device (package flash). -/
import Derived.Test.YtacmgogobjpmcaaGreatB
namespace Go.Proofs.YtacmgogobjpmcaaGreat
open Go.RowKit

def secZero : Value := .agg ((List.replicate 512 (Value.int .u8 0) ++ [Value.bool false]).toArray)
theorem sec_info : (Tryz.prog.info? 380).map (fun i => (i.zero, i.size, i.bytes)) = some (some secZero, 513, 513) := by kernel_rfl
def zeroSec (n : Nat) : Array Value := madeCells secZero.cells (n * 513)
theorem secZero_size : secZero.cells.size = 513 := by kernel_rfl
theorem zeroSec_size (n : Nat) : (zeroSec n).size = n * 513 := size_madeCells _ _
theorem secZero_at (j : Nat) (hj : j < 513) : secZero.cells[j]! = if j < 512 then .int .u8 0 else .bool false := by
  have e : secZero.cells[j]? = some (if j < 512 then .int .u8 0 else .bool false) := by
    unfold secZero Value.cells
    rw [List.getElem?_toArray, List.getElem?_append, List.length_replicate, List.getElem?_replicate]
    by_cases h : j < 512
    · simp [h]
    · have : j = 512 := by omega
      subst this; rfl
  rw [getElem!_def, e]
theorem zeroSec_at (n i : Nat) (h : i < n * 513) : (zeroSec n)[i]? = some (if i % 513 < 512 then .int .u8 0 else .bool false) := by
  unfold zeroSec madeCells
  rw [secZero_size]
  simp only [Array.getElem?_map, Array.getElem?_range, h, if_true, Option.map_some]
  rw [secZero_at _ (Nat.mod_lt _ (by omega))]

/-- The device of a pointer: its sectors' cells, the writes that are not sure, the limit, the power. -/
structure Dev (w : World) (g gs n : Nat) (cur : Array Value) (u : Value) (lim : Int) (down : Bool) : Prop where
  blk : Blk w g 149 #[.slice (some ⟨gs, 0, none⟩) n n, u, .int .i64 lim, .bool down]
  sec : Blk w gs 380 cur
  size : cur.size = n * 513
  nle : n ≤ 4096

theorem Dev.ne {w : World} {g gs n : Nat} {cur : Array Value} {u : Value} {lim : Int} {down : Bool} (h : Dev w g gs n cur u lim down) : g ≠ gs := h.blk.ne_ h.sec (by decide)

theorem flashNew_any (n : Nat) (h1 : 1 ≤ n) (h2 : n ≤ 4096) (w : World) :
    Calls Tryz.prog 21 #[.int .i64 n] w fun e w' => e = .returned (.tuple #[.pointer (some ⟨w.heap.size + 1, 0, none⟩), .int .i64 0]) ∧ Dev w' (w.heap.size + 1) w.heap.size n (zeroSec n) (.slice none 0 0) 0 false ∧ Below w.heap.size w w' ∧ w'.heap.size = w.heap.size + 2 := by
  have hmk : ∀ w, (Instr.makeSlice 146 (.int .i64 (n : Int)) (.int .i64 (n : Int))).run Tryz.prog w = .ok (.slice (some ⟨w.heap.size, 0, none⟩) n n) (w.alloc (.cells (zeroSec n) 380)) :=
    fun w => make_eq Tryz.underlying146 sec_info .i64 .i64 n n (Nat.le_refl _) (by omega) (by omega) w
  go_enter Tryz.func21, Tryz.ntmps21
  go_wp2
  go_ret2
  refine ⟨rfl, ⟨Blk.new' _ _ _ (by simp), (Blk.new w _ _).alloc _, zeroSec_size n, h2⟩, ((Below.refl _ _).alloc (Nat.le_refl _) _).alloc (by simp) _, by simp⟩

section
variable {w : World} {g gs n : Nat} {cur : Array Value} {u : Value} {lim : Int} {down : Bool}
theorem Dev.grown {w' : World} {row : Option Nat} (h : Dev w g gs n cur u lim down) (hb : w.grownBy w' row) (h1 : some g ≠ row) (h2 : some gs ≠ row) : Dev w' g gs n cur u lim down := ⟨h.blk.grown hb h1, h.sec.grown hb h2, h.size, h.nle⟩
theorem Dev.alloc (h : Dev w g gs n cur u lim down) (o : Obj) : Dev (w.alloc o) g gs n cur u lim down := ⟨h.blk.alloc o, h.sec.alloc o, h.size, h.nle⟩
theorem Dev.below {w' : World} (h : Dev w g gs n cur u lim down) (hb : Below w.heap.size w w') : Dev w' g gs n cur u lim down := ⟨h.blk.below hb h.blk.lt, h.sec.below hb h.sec.lt, h.size, h.nle⟩
theorem Dev.setU (h : Dev w g gs n cur u lim down) (v : Value) : Dev (w.setCell ⟨g, 1, none⟩ v) g gs n cur v lim down :=
  ⟨by have := h.blk.set_ 1 v; simpa using this, h.sec.far (p := ⟨g, 1, none⟩) (Ne.symm h.ne) v, h.size, h.nle⟩
theorem Dev.fr {B : Nat} {S : List Nat} {w' : World} (h : Dev w g gs n cur u lim down) (hf : Fr B S w w') (h1 : g < B ∧ g ∉ S) (h2 : gs < B ∧ gs ∉ S) : Dev w' g gs n cur u lim down := ⟨h.blk.fr hf h1.1 h1.2, h.sec.fr hf h2.1 h2.2, h.size, h.nle⟩
theorem devLen_any (h : Dev w g gs n cur u lim down) : Calls Tryz.prog 67 #[.pointer (some ⟨g, 0, none⟩)] w fun e w' => e = .returned (.int .i64 n) ∧ w = w' := by
  have c0 := h.blk.cell 0; have hl := h.nle
  go_enter Tryz.func67, Tryz.ntmps67
  go_wp2
  go_ret
  exact ⟨rfl, rfl⟩
theorem devDown_any (h : Dev w g gs n cur u lim down) : Calls Tryz.prog 87 #[.pointer (some ⟨g, 0, none⟩)] w fun e w' => e = .returned (.bool down) ∧ w = w' := by
  have c0 := h.blk.cell 3
  go_enter Tryz.func87, Tryz.ntmps87
  go_wp2
  go_ret
  exact ⟨rfl, rfl⟩
theorem devCheck_any (h : Dev w g gs n cur u lim false) (at_ : Int) (h0 : 0 ≤ at_) (h1 : at_ < n) : Calls Tryz.prog 281 #[.pointer (some ⟨g, 0, none⟩), .int .i64 at_] w fun e w' => e = .returned (.int .i64 0) ∧ w = w' := by
  have c0 := h.blk.cell 0; have c3 := h.blk.cell 3; have hl := h.nle
  go_enter Tryz.func281, Tryz.ntmps281
  go_wp2
  go_ret
  exact ⟨rfl, rfl⟩
theorem devSpend_any (h : Dev w g gs n cur u 0 down) : Calls Tryz.prog 283 #[.pointer (some ⟨g, 0, none⟩)] w fun e w' => e = .returned (.bool true) ∧ w = w' := by
  have c0 := h.blk.cell 2
  go_enter Tryz.func283, Tryz.ntmps283
  go_wp2
  go_ret
  exact ⟨rfl, rfl⟩
/-- a Sync when nothing is unsure -/
theorem devSync0_any (h : Dev w g gs n cur (.slice none 0 0) 0 false) : Calls Tryz.prog 224 #[.pointer (some ⟨g, 0, none⟩)] w fun e w' => e = .returned (.int .i64 0) ∧ w' = w.setCell ⟨g, 1, none⟩ (.slice none 0 0) := by
  have c1 := h.blk.cell 1; have c3 := h.blk.cell 3; have f1 := h.blk.frozen 1
  have hs := devSpend_any h
  have HS := Lib.hid hs; clear hs
  go_enter Tryz.func224, Tryz.ntmps224
  go_wp2_with (refine HS.out.mono ?_; rintro e w' ⟨rfl, rfl⟩)
  refine wp_loop_once ?_
  go_wp2
  go_ret
  exact ⟨rfl, rfl⟩

theorem zsec_reads (h : Dev w g gs n (zeroSec n) u lim down) (k : Nat) (hk : k < n) : Rd w w.heap.size 1 (some ⟨gs, k * 513, none⟩) 512 (bys (zeros 512)) := by
  refine ⟨by rw [bys_length, zeros_length], by unfold maxLen; omega, fun _ => ⟨_, rfl, h.sec.lt, fun j x hj => ?_⟩⟩
  obtain ⟨hj', hx⟩ := zeros_lt _ _ _ hj
  rw [show (⟨gs, k * 513, none⟩ : Addr).add j = ⟨gs, k * 513 + j, none⟩ by unfold Addr.add; split <;> simp_all]
  rw [h.sec.cell, zeroSec_at _ _ (by omega), hx]
  have : (k * 513 + j) % 513 = j := by omega
  rw [this, if_pos hj']

-- a sector of a new device is read
set_option maxRecDepth 20000 in
theorem devRead0_any (h : Dev w g gs n (zeroSec n) (.slice none 0 0) lim false) (k : Nat) (hk : k < n) :
    Calls Tryz.prog 219 #[.pointer (some ⟨g, 0, none⟩), .int .i64 k] w fun e w' => ∃ A c, e = .returned (.tuple #[.slice A 512 c, .int .i64 0]) ∧ w'.ownsRow w.heap.size 5 1 (.slice A 512 c) 512 (bys (zeros 512)) ∧ Below w.heap.size w w' := by
  have c0 := h.blk.cell 0; have c1 := h.blk.cell 1
  have c5 : w.cell? ⟨gs, k * 513 + 512, none⟩ = some (.bool false) := by
    rw [h.sec.cell, zeroSec_at _ _ (by omega)]
    have : (k * 513 + 512) % 513 = 512 := by omega
    rw [this]; rfl
  have hl := h.nle
  have hck := devCheck_any h k (by omega) (by omega)
  have hcl := Clone_bytes (some ⟨gs, k * 513, none⟩) 512 512 (bys (zeros 512)) w (zsec_reads h k hk) (bys_one _) (by omega)
  have HC := Lib.hid hck; have HL := Lib.hid hcl; clear hck hcl
  go_enter Tryz.func219, Tryz.ntmps219
  go_wp2_with fail
  refine HC.out.mono ?_; rintro e w' ⟨rfl, rfl⟩
  go_wp2_with fail
  refine wp_loop_once ?_
  go_wp2_with fail
  refine HL.out.mono ?_; rintro e w' ⟨v, rfl, hv⟩
  obtain ⟨A, c, rfl⟩ := own_slice hv.own
  have HV := Lib.hid hv; clear hv
  go_wp2
  go_ret2
  exact ⟨A, c, rfl, HV.out.own, HV.out.below⟩

theorem write_info : (Tryz.prog.info? 377).map (fun i => (i.zero, i.size, i.bytes)) = some (some (.agg #[.int .i64 0, .slice none 0 0]), 2, 32) := by kernel_rfl

/-- the device with one write that is not sure -/
structure Wrote (B g gs n : Nat) (cur : Array Value) (k : Nat) (w' : World) : Prop where
  mk :: (out : ∃ gu cu gd cs, Dev w' g gs n cur (.slice (some ⟨gu, 0, none⟩) 1 cu) 0 false ∧
      w'.ownsRow B 377 2 (.slice (some ⟨gu, 0, none⟩) 1 cu) 1 [.int .i64 k, .slice (some ⟨gd, 0, none⟩) 512 512] ∧ Blk w' gd 5 cs ∧ cs.size = 512 ∧ B ≤ gd ∧ (∀ u ∈ cs.toList, u.oneCell' = true))
theorem splice_one {cs ds : List Value} (off : Nat) (h : ∀ u ∈ cs, u.oneCell' = true) (h' : ∀ u ∈ ds, u.oneCell' = true) : ∀ u ∈ splice cs off ds, u.oneCell' = true := by
  intro u hu
  unfold splice at hu
  rcases List.mem_append.1 hu with hu | hu
  · exact h u (List.mem_of_mem_take hu)
  rcases List.mem_append.1 hu with hu | hu
  · exact h' u hu
  · exact h u (List.mem_of_mem_drop hu)

set_option maxRecDepth 20000 in
/-- a Write into a device whose writes are all sure -/
theorem devWrite0_any (h : Dev w g gs n cur (.slice none 0 0) 0 false) (k : Nat) (hk : k < n) (A : Option Addr) (m c : Nat) (bs : List UInt8) (hr : Rd w w.heap.size 1 A m (bys bs)) (hm : m ≤ 512) :
    Calls Tryz.prog 225 #[.pointer (some ⟨g, 0, none⟩), .int .i64 k, .slice A m c] w fun e w' => e = .returned (.int .i64 0) ∧ Wrote w.heap.size g gs n cur k w' ∧ Fr w.heap.size [g] w w' := by
  have c1 := h.blk.cell 1
  have hmk : ∀ w, (Instr.makeSlice 30 (.int .i64 512) (.int .i64 512)).run Tryz.prog w = .ok (.slice (some ⟨w.heap.size, 0, none⟩) 512 512) (w.alloc (.cells (bys (zeros 512)).toArray 5)) := fun w => makeBytes_eq .i64 .i64 512 512 (Nat.le_refl _) (by omega) w
  have hl := h.nle
  have hck := devCheck_any h k (by omega) (by omega)
  have hsp := devSpend_any h
  have HC := Lib.hid hck; have HL := Lib.hid hsp; clear hck hsp
  go_enter Tryz.func225, Tryz.ntmps225
  go_wp2_with fail
  refine HC.out.mono ?_; rintro e w' ⟨rfl, rfl⟩
  go_wp2_with fail
  refine HL.out.mono ?_; rintro e w' ⟨rfl, rfl⟩
  have bz : Blk (w.alloc (.cells (bys (zeros 512)).toArray 5)) w.heap.size 5 (bys (zeros 512)).toArray := Blk.new _ _ _
  have hr' := hr.below (w' := w.alloc (.cells (bys (zeros 512)).toArray 5)) ((Below.refl _ _).alloc (Nat.le_refl _) _)
  have hz5 : (bys (zeros 512)).toArray.size = 512 := by rw [List.size_toArray, bys_length, zeros_length]
  have HB := Lib.hid bz; have HR := Lib.hid hr'; have HZ := Lib.hid hz5; clear bz hr' hz5
  go_wp2_with (first
    | (refine wpList_cp rfl (.tmp 25) (.tmp 26) _ _ rfl 5 5 Tryz.underlying30 (by kernel_rfl) w.heap.size 0 512 512 (bys (zeros 512)).toArray rfl HB.out _ A m c (bys bs) rfl HR.out (bys_one _) (by rw [HZ.out]; omega) ?_
       intro w1 hb1 hg1 hs1
       have hd1 : Dev w1 g gs n cur (.slice none 0 0) 0 false := (h.alloc _).grown hg1 (by have := h.blk.lt; simp; omega) (by have := h.sec.lt; simp; omega)
       have k1 := hd1.blk.cell 1
       have f1 := hd1.blk.frozen 1
       have HG := Lib.hid hg1; have HS := Lib.hid hs1; have HB1 := Lib.hid hb1; have HD := Lib.hid hd1
       clear hb1 hg1 hs1 hd1)
    | (at_builtin
       refine wpList_app rfl (.tmp 32) (.tmp 36) _ rfl w.heap.size _ _ 2 32 Tryz.underlying147 write_info rfl (by decide) (.slice none 0 0) 0 [] rfl (World.ownsRow_nil _ _ _ _) _ _ 1 1 [.int .i64 k, .slice (some ⟨w.heap.size, 0, none⟩) 512 512] rfl (Rd.boxN w1 #[.int .i64 k, .slice (some ⟨w.heap.size, 0, none⟩) 512 512] _) (by intro u hu; simp at hu; rcases hu with rfl | rfl <;> rfl) (by unfold maxLen; omega) (by omega) (by have := HS.out; simp at this ⊢; omega) ?_
       intro v2 w2 hown2 hg2 hat2
       have hd2 : Dev w2 g gs n cur (.slice none 0 0) 0 false := (HD.out.alloc _).grown hg2 (by simp [Value.ownBlock]) (by simp [Value.ownBlock])
       obtain ⟨gu, cu, rfl, hbu, hltu⟩ := hown2.form (by omega)
       have k2 := hd2.blk.cell 1
       have f2 := hd2.blk.frozen 1
       have HG2 := Lib.hid hg2; have HO2 := Lib.hid hown2; have HD2 := Lib.hid hd2
       clear hg2 hown2 hd2 hat2 k1 f1))
  go_ret
  have hsz := HS.out
  refine ⟨rfl, ⟨gu, cu, w.heap.size, _, HD2.out.setU _, ?_, ((HB1.out.alloc _).grown HG2.out (by simp [Value.ownBlock])).far (by have := h.blk.lt; simp; omega) _, ?_, Nat.le_refl _, ?_⟩, ?_⟩
  · exact ownsRow_setCell_below HO2.out (a := ⟨g, 1, none⟩) h.blk.lt _
  · rw [List.size_toArray, length_splice _ _ _ (by simp [bys_length, zeros_length]; omega), bys_length, zeros_length]
  · simp only []
    exact splice_one _ (bys_one _) (fun u hu => bys_one _ u (List.mem_of_mem_take hu))
  · refine Fr.setCell (.grown (.alloc (.grown (.alloc (Fr.refl _ _ _) (Nat.le_refl _) _) HG.out (by simp) (by intro k hk; injection hk with hk; omega)) ?_ _) HG2.out ?_ (by intro k hk; simp [Value.ownBlock] at hk)) (.inr (by simp)) _
    · simp at hsz; omega
    · simp at hsz ⊢; omega

set_option maxRecDepth 20000 in
/-- what is not sure is settled -/
theorem devSettle_any (h : Dev w g gs n cur u lim down) (k : Nat) (hk : k < n) (gd : Nat) (cs : Array Value) (hr : Blk w gd 5 cs) (h512 : cs.size = 512) (h1 : ∀ u ∈ cs.toList, u.oneCell' = true) :
    Calls Tryz.prog 284 #[.pointer (some ⟨g, 0, none⟩), .agg #[.int .i64 k, .slice (some ⟨gd, 0, none⟩) 512 512], .bool false] w fun e w' => e = .returned (.tuple #[]) ∧ (∃ cur', Dev w' g gs n cur' u lim down) ∧ Fr w.heap.size [gs] w w' := by
  have c0 := h.blk.cell 0
  have hl := h.nle
  have hg := h.blk.lt
  have hgs := h.sec.lt
  have fs := h.sec.frozen (k * 513 + 512)
  have cs5 : w.cell? ⟨gs, k * 513 + 512, none⟩ = some (cur[k * 513 + 512]'(by rw [h.size]; omega)) := by rw [h.sec.cell]; exact Array.getElem?_eq_getElem _
  generalize (cur[k * 513 + 512]'(by rw [h.size]; omega)) = x5 at cs5
  go_enter Tryz.func284, Tryz.ntmps284
  go_wp2
  go_quiet (fail)
  go_wp2
  obtain ⟨W, hW⟩ : ∃ W, W = ((w.alloc (.cells #[.int .i64 k, .slice (some ⟨gd, 0, none⟩) 512 512] 377)).drewN nq).setCell ⟨gs, k * 513 + 512, none⟩ (.bool false) := ⟨_, rfl⟩
  rw [← hW]
  have hb : Blk W gs 380 (cur.setIfInBounds (k * 513 + 512) (.bool false)) := by rw [hW]; exact ((h.sec.alloc _).drewN _).set_ _ _
  have hd : Blk W g 149 #[.slice (some ⟨gs, 0, none⟩) n n, u, .int .i64 lim, .bool down] := by rw [hW]; exact ((h.blk.alloc _).drewN _).far (p := ⟨gs, _, none⟩) h.ne _
  have hx : Blk W w.heap.size 377 #[.int .i64 k, .slice (some ⟨gd, 0, none⟩) 512 512] := by rw [hW]; exact ((Blk.new _ _ _).drewN _).far (by simp; omega) _
  have hF : Fr w.heap.size [gs] w W := by rw [hW]; exact Fr.setCell (((Fr.refl _ _ _).alloc (Nat.le_refl _) _).drewN _) (.inr (by simp)) _
  have hrd : Rd W W.heap.size 1 (some ⟨gd, 0, none⟩) 512 cs.toList := by
    have : Blk W gd 5 cs := by rw [hW]; exact ((hr.alloc _).drewN _).far (hr.ne_ h.sec (by decide)) _
    exact Rd.of_blk this h512 (by unfold maxLen; omega)
  have x0 := hx.cell 0; have x1 := hx.cell 1
  have hW2 := Lib.hid hW; have HB := Lib.hid hb; have HD := Lib.hid hd; have HX := Lib.hid hx; have HF := Lib.hid hF; have HR := Lib.hid hrd
  clear hW hb hd hx hF hrd
  go_region_law (refine step_cp rfl (.tmp 21) (.tmp 23) _ _ rfl 5 380 Tryz.underlying30 (by kernel_rfl) gs (k * 513) 512 512 _ rfl (Blk.drew HB.out) _ (some ⟨gd, 0, none⟩) 512 512 cs.toList rfl HR.out.drew h1 (by simp [h.size]; omega) ?_; intro w3 hb3 hg3 hs3)
  go_wp2
  go_end0
  refine ⟨rfl, ⟨_, (HD.out.drew.grown hg3 (by intro e; injection e with e; exact h.ne e)), hb3, ?_, h.nle⟩, (HF.out.drew).grown hg3 ?_ ?_⟩
  · simp only [List.size_toArray]
    rw [length_splice _ _ _ (by simp [h.size, h512]; omega)]; simp [h.size]
  · exact HF.out.size
  · intro k hk; injection hk with hk; subst hk; exact .inr (by simp)

set_option maxRecDepth 20000 in
/-- a Sync of one write -/
theorem devSync1_any (B k : Nat) (hk : k < n) (h : Wrote B g gs n cur k w) :
    Calls Tryz.prog 224 #[.pointer (some ⟨g, 0, none⟩)] w fun e w' => e = .returned (.int .i64 0) ∧ Hid (∃ cur', Dev w' g gs n cur' (.slice none 0 0) 0 false) ∧ Fr w.heap.size [g, gs] w w' := by
  obtain ⟨gu, cu, gd, cs, hd, hown, hbd, h512, hBd, h1⟩ := h
  have c1 := hd.blk.cell 1; have c3 := hd.blk.cell 3
  have hs := devSpend_any hd
  have r0 : w.cell? ⟨gu, 0, none⟩ = some (.int .i64 k) := by have := hown.cells rfl 0 _ rfl; simpa [Addr.add] using this
  have r1 : w.cell? ⟨gu, 1, none⟩ = some (.slice (some ⟨gd, 0, none⟩) 512 512) := by have := hown.cells rfl 1 _ rfl; simpa [Addr.add] using this
  have HS := Lib.hid hs; have HD := Lib.hid hd; have HO := Lib.hid hown; have HBD := Lib.hid hbd; have H1 := Lib.hid h1; clear hs hd hown hbd h1
  go_enter Tryz.func224, Tryz.ntmps224
  go_wp2_with (refine HS.out.mono ?_; rintro e w' ⟨rfl, rfl⟩)
  refine wp_loop_rounds 2 ?_
  rw [rounds_succ]
  go_wp2_with fail
  refine (devSettle_any (HD.out.alloc _) k hk gd cs (HBD.out.alloc _) h512 H1.out).mono ?_
  rintro e w1 ⟨rfl, ⟨cur', hd1⟩, hf1⟩
  have k1 := hd1.blk.cell 1; have f1 := hd1.blk.frozen 1
  have HD1 := Lib.hid hd1; have HF1 := Lib.hid hf1; clear hd1 hf1
  go_wp2
  rw [rounds_succ]
  go_wp2
  go_ret
  refine ⟨rfl, ⟨_, HD1.out.setU _⟩, Fr.setCell (.trans (.alloc (Fr.refl _ _ _) (Nat.le_refl _) _) (HF1.out.mono (by simp) (by intro k _ hk; simp at hk ⊢; exact .inr hk))) (.inr (by simp)) _⟩
end
end Go.Proofs.YtacmgogobjpmcaaGreat
