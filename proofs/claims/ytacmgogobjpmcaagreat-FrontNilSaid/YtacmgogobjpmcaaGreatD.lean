/- Contracts: numbers as bytes (package num). -/
import Derived.Test.YtacmgogobjpmcaaGreatB
namespace Go.Proofs.YtacmgogobjpmcaaGreat
open Go.RowKit

/-- the number of bytes -/
def beN (bs : List UInt8) : Int := bs.foldl (fun n x => n * 256 + (x.toNat : Int)) 0
theorem beN_take (bs : List UInt8) (k : Nat) (s : UInt8) (h : bs[k]? = some s) : beN (bs.take (k + 1)) = beN (bs.take k) * 256 + (s.toNat : Int) := by
  unfold beN
  rw [List.take_add_one, h]; simp [List.foldl_append]
theorem beN_bound (bs : List UInt8) (k : Nat) : 0 ≤ beN (bs.take k) ∧ beN (bs.take k) < 256 ^ k := by
  induction k with
  | zero => simp [beN]
  | succ k ih =>
    by_cases hk : k < bs.length
    · have e := List.getElem?_eq_getElem hk
      rw [beN_take _ _ _ e]
      have := u8_lt bs[k]
      rw [Int.pow_succ]
      omega
    · rw [List.take_of_length_le (by omega)]
      rw [List.take_of_length_le (by omega)] at ih
      rw [Int.pow_succ]
      omega

theorem wraps_i64 (n : Int) (h₀ : 0 ≤ n) (h₁ : n < 2 ^ 63) : IntKind.i64.wrap n = n := wrap_in (by omega) (by omega)
theorem i64_or8 (x y : Int) (h0 : 0 ≤ x) (h1 : x < 18014398509481984) (h2 : 0 ≤ y) (h3 : y < 256) : bits .or .i64 (x * 256) y = x * 256 + y :=
  bits_join .i64 63 (by decide) wraps_i64 8 (x * 256) y (by omega) (by omega) (by omega) h2 (by omega) (by omega)

set_option maxRecDepth 20000 in
theorem numGet_any (A : Option Addr) (n c : Nat) (bs : List UInt8) (w : World) (h : Rd w w.heap.size 1 A n (bys bs)) (hnc : n ≤ c) (at_ size : Nat) (h1 : 1 ≤ size) (h7 : size ≤ 7) (hat : at_ + size ≤ n) :
    Calls Tryz.prog 73 #[.slice A n c, .int .i64 at_, .int .i64 size] w fun e w' => e = .returned (.tuple #[.int .i64 (beN ((bs.drop at_).take size)), .int .i64 0]) ∧ w = w' := by
  have hmx := h.max; unfold maxLen at hmx
  obtain ⟨ad, rfl, _, _⟩ := h.cells (by omega)
  go_enter Tryz.func73, Tryz.ntmps73
  go_wp2
  go_loop [8, 10, 42] (fun v _ i => ∃ k : Nat, k ≤ size ∧ i = .int .i64 k ∧ v = .int .i64 (beN ((bs.drop at_).take k))) (fun _ _ i => size - (intOf i).toNat)
  case atStart => exact ⟨0, Nat.zero_le _, rfl, by simp [beN]⟩
  case round =>
    obtain ⟨k, hk, rfl, rfl⟩ := hrel
    by_cases hlt : k < size
    · obtain ⟨ad', s, e, hb, hx, hc⟩ := h.byAt (show at_ + k < n by omega)
      injection e with e; subst e
      have hc' : w.cell? ((ad.add at_).add k) = some (.int .u8 (s.toNat : Int)) := by rw [add_add']; exact hc
      have hx' : (bs.drop at_)[k]? = some s := by rw [List.getElem?_drop]; exact hx
      have hbd := beN_bound (bs.drop at_) k
      have h256 : (256 : Int) ^ k ≤ 256 ^ 6 := by
        have := Nat.pow_le_pow_right (n := 256) (by omega) (show k ≤ 6 by omega)
        exact_mod_cast this
      have hu := u8_lt s
      have HT := Lib.hid (beN_take _ _ _ hx')
      clear hx hx'
      have hb1 : beN (List.take k (List.drop at_ bs)) < 281474976710656 := by omega
      have hb0 := hbd.1
      clear hbd h256
      go_wp2
      go_round
      case rel => exact ⟨k + 1, by omega, by go_num, by rw [HT.out, i64_or8 _ _ hb0 (by omega) hu.2 hu.1]⟩
      case measure => simp [intOf]; omega
    · go_wp2
      go_ret2
      exact ⟨by rw [show k = size by omega]; rfl, rfl⟩

set_option maxRecDepth 20000 in
theorem numGet_short (A : Option Addr) (n c : Nat) (w : World) (at_ size : Nat) (h1 : 1 ≤ size) (h7 : size ≤ 7) (ha : at_ ≤ 9223372036854775807) (hat : n < at_ + size) :
    Calls Tryz.prog 73 #[.slice A n c, .int .i64 at_, .int .i64 size] w fun e w' => e = .returned (.tuple #[.int .i64 0, .int .i64 3]) ∧ w = w' := by
  go_enter Tryz.func73, Tryz.ntmps73
  go_wp2
  all_goals (go_ret2; exact ⟨rfl, rfl⟩)

/-- has a number so many bytes? -/
def fitsB (n size : Int) : Bool := decide (1 ≤ size) && decide (size ≤ 7) && decide (0 ≤ n) && (n / 2 ^ (8 * size).toNat == 0)
theorem numFits_any (n size : Int) (w : World) : Calls Tryz.prog 222 #[.int .i64 n, .int .i64 size] w fun e w' => e = .returned (.bool (fitsB n size)) ∧ w = w' := by
  by_cases h1 : 1 ≤ size
  · by_cases h2 : size ≤ 7
    · by_cases h3 : 0 ≤ n
      · have e : fitsB n size = (n / 2 ^ (8 * size).toNat == 0) := by simp [fitsB, h1, h2, h3]
        rw [e]; clear e
        go_enter Tryz.func222, Tryz.ntmps222
        go_wp2
        go_ret
        exact ⟨rfl, rfl⟩
      · have e : fitsB n size = false := by simp [fitsB, h3]
        rw [e]; clear e
        go_enter Tryz.func222, Tryz.ntmps222
        go_wp2
        go_ret
        exact ⟨rfl, rfl⟩
    · have e : fitsB n size = false := by simp [fitsB, h2]
      rw [e]; clear e
      go_enter Tryz.func222, Tryz.ntmps222
      go_wp2
      go_ret
      exact ⟨rfl, rfl⟩
  · have e : fitsB n size = false := by simp [fitsB, h1]
    rw [e]; clear e
    go_enter Tryz.func222, Tryz.ntmps222
    go_wp2
    go_ret
    exact ⟨rfl, rfl⟩
theorem fitsB_iff (n size : Int) : fitsB n size = true ↔ 1 ≤ size ∧ size ≤ 7 ∧ 0 ≤ n ∧ n < 2 ^ (8 * size).toNat := by
  unfold fitsB
  simp only [Bool.and_eq_true, decide_eq_true_eq, beq_iff_eq]
  have hp : (0 : Int) < 2 ^ (8 * size).toNat := by exact_mod_cast Nat.two_pow_pos _
  constructor
  · rintro ⟨⟨⟨h1, h2⟩, h3⟩, h4⟩
    refine ⟨h1, h2, h3, ?_⟩
    have := Int.lt_ediv_add_one_mul_self n hp
    rw [h4] at this; simpa using this
  · rintro ⟨h1, h2, h3, h4⟩
    exact ⟨⟨⟨h1, h2⟩, h3⟩, Int.ediv_eq_zero_of_lt h3 h4⟩

/-- the byte k places up -/
def byteAt (n : Int) (k : Nat) : UInt8 := UInt8.ofNat ((n / 2 ^ (8 * k)) % 256).toNat
/-- a number's bytes -/
def beB (n : Int) (size : Nat) : List UInt8 := (List.range size).map fun i => byteAt n (size - 1 - i)
theorem beB_length (n : Int) (size : Nat) : (beB n size).length = size := by simp [beB]
def putB (n : Int) (size : Nat) : List UInt8 := if fitsB n size then beB n size else []
theorem putB_length (n : Int) (size : Nat) (h : fitsB n size = true) : (putB n size).length = size := by
  unfold putB; rw [if_pos h]; exact beB_length _ _
theorem byteAt_val (n : Int) (k : Nat) : ((byteAt n k).toNat : Int) = (n / 2 ^ (8 * k)) % 256 := by
  unfold byteAt
  show ((UInt8.ofNat ((n / 2 ^ (8 * k)) % 256).toNat).toNat : Int) = _
  have h1 : 0 ≤ (n / 2 ^ (8 * k)) % 256 := Int.emod_nonneg _ (by decide)
  have h2 : (n / 2 ^ (8 * k)) % 256 < 256 := Int.emod_lt_of_pos _ (by decide)
  generalize (n / 2 ^ (8 * k)) % 256 = y at h1 h2 ⊢
  rw [UInt8.toNat_ofNat_of_lt' (by show _ < 256; omega)]
  omega

theorem beB_take (n : Int) (size j : Nat) (h : j < size) : (beB n size).take (j + 1) = (beB n size).take j ++ [byteAt n (size - 1 - j)] := by
  rw [List.take_add_one]
  congr 1
  unfold beB
  rw [List.getElem?_map, List.getElem?_range h]; rfl
theorem byteCell (n : Int) (k : Nat) : [Value.int IntKind.u8 (n / 2 ^ (8 * k) % 256)] = bys [byteAt n k] := by
  simp only [bys, List.map_cons, List.map_nil]
  rw [byteAt_val]

set_option maxRecDepth 20000 in
theorem numPut_any (A : Option Addr) (m c : Nat) (bs : List UInt8) (n : Int) (size : Nat) (w : World) (h : Rd w w.heap.size 1 A m (bys bs)) (hm : m ≤ 1000000000) :
    Calls Tryz.prog 158 #[.slice A m c, .int .i64 n, .int .i64 size] w fun e w' => Hid (∃ v, e = .returned v ∧ w'.ownsRow w.heap.size 5 1 v (bs ++ putB n size).length (bys (bs ++ putB n size)) ∧ Below w.heap.size w w') := by
  have hl := h.byLen
  have hmk : ∀ w, (Instr.makeSlice 30 (.int .i64 (m : Int)) (.int .i64 ((m : Int) + 7))).run Tryz.prog w = .ok (.slice (some ⟨w.heap.size, 0, none⟩) m (m + 7)) (w.alloc (.cells (bys (zeros (m + 7))).toArray 5)) := fun w => makeBytes_eq .i64 .i64 m (m + 7) (by omega) (by omega) w
  have hbz : Blk (w.alloc (.cells (bys (zeros (m + 7))).toArray 5)) w.heap.size 5 (bys (zeros (m + 7))).toArray := Blk.new _ _ _
  have hr := h.alloc (Nat.le_refl _) (.cells (bys (zeros (m + 7))).toArray 5)
  have hF := numFits_any n size
  -- what the copy leaves
  have hcp : ∀ w1, Blk w1 w.heap.size 5 (splice (bys (zeros (m + 7))).toArray.toList 0 ((bys bs).take (min m m))).toArray → w1.ownsRow w.heap.size 5 1 (.slice (some ⟨w.heap.size, 0, none⟩) m (m + 7)) m (bys bs) := by
    intro w1 hb
    have := own_of_blk (n := m) (cap := m + 7) (size := 1) hb (Nat.le_refl _) (by simp [splice, bys_length, zeros_length, hl]) (by omega) (by unfold maxLen; omega)
    have e : ((splice (bys (zeros (m + 7))).toArray.toList 0 ((bys bs).take (min m m))).toArray.toList).take (m * 1) = bys bs := by
      have h1 : (bys bs).take (min m m) = bys bs := List.take_of_length_le (by rw [bys_length]; omega)
      have h2 := splice0_take (bys (zeros (m + 7))).toArray.toList (bys bs)
      rw [bys_length, hl] at h2
      rw [h1, Nat.mul_one]
      exact h2
    rwa [e] at this
  have HB := Lib.hid hbz; have HR := Lib.hid hr; have HCP := Lib.hid hcp; clear hbz hr hcp
  cases hf : fitsB n size
  · rw [hf] at hF
    have e : bs ++ putB n size = bs := by simp [putB, hf]
    rw [e]
    have HF := Lib.hid hF; clear hF hf e
    go_enter Tryz.func158, Tryz.ntmps158
    go_wp2_with (first
      | (refine wpList_cp rfl (.tmp 15) (.tmp 16) _ _ rfl 5 5 Tryz.underlying30 (by kernel_rfl) w.heap.size 0 m (m + 7) (bys (zeros (m + 7))).toArray rfl HB.out _ A m c (bys bs) rfl HR.out (bys_one _) (by simp [bys_length, zeros_length]) ?_
         intro w1 hb1 hg1 hs1
         have HG := Lib.hid hg1; have HB1 := Lib.hid hb1
         clear hb1 hg1 hs1)
      | (refine (HF.out _).mono ?_; rintro e w' ⟨rfl, rfl⟩))
    go_ret
    exact ⟨_, rfl, by rw [hl]; exact HCP.out _ HB1.out, ((Below.refl _ _).alloc (Nat.le_refl _) _).grown HG.out (by simp) (by intro k hk; injection hk with hk; omega)⟩
  · rw [hf] at hF
    have e : putB n size = beB n size := by simp [putB, hf]
    rw [e]
    obtain ⟨_, h7, _, _⟩ := (fitsB_iff n size).1 hf
    have HF := Lib.hid hF; clear hF hf e
    go_enter Tryz.func158, Tryz.ntmps158
    go_wp2_with (first
      | (refine wpList_cp rfl (.tmp 15) (.tmp 16) _ _ rfl 5 5 Tryz.underlying30 (by kernel_rfl) w.heap.size 0 m (m + 7) (bys (zeros (m + 7))).toArray rfl HB.out _ A m c (bys bs) rfl HR.out (bys_one _) (by simp [bys_length, zeros_length]) ?_
         intro w1 hb1 hg1 hs1
         have HG := Lib.hid hg1; have HB1 := Lib.hid hb1
         clear hb1 hg1 hs1)
      | (refine (HF.out _).mono ?_; rintro e w' ⟨rfl, rfl⟩))
    go_loopw [7, 8] (fun v i wr => ∃ j : Nat, j ≤ size ∧ i = .int .i64 ((size : Int) - 1 - j) ∧ Hid (wr.ownsRow w.heap.size 5 1 v (m + j) (bys (bs ++ (beB n size).take j)) ∧ Below w.heap.size w wr)) (fun _ i _ => (intOf i + 1).toNat)
    case atStart =>
      refine ⟨0, by omega, by simp, ?_, ?_⟩
      · simpa using HCP.out _ HB1.out
      · exact ((Below.refl _ _).alloc (Nat.le_refl _) _).grown HG.out (by simp) (by intro k hk; injection hk with hk; omega)
    case round =>
      obtain ⟨j, hj, rfl, hq⟩ := hrel
      by_cases hlt : j < size
      · obtain ⟨ho, hbl⟩ := hq.out
        have HO := Lib.hid ho; have HBL := Lib.hid hbl
        have hsh : (0 : Int) ≤ 8 * ((size : Int) - 1 - j) := by omega
        clear ho hbl hq
        go_wp2_with (at_builtin; refine wpList_app rfl (.tmp 29) (.tmp 35) _ rfl w.heap.size _ _ 1 1 Tryz.underlying30 u8_info rfl (by decide) u7 (m + j) _ rfl (HO.out.alloc _) _ _ 1 1 _ rfl (Rd.box1 _ _ _) (by intro u hu; simp at hu; subst hu; rfl) (by unfold maxLen; omega) (by omega) (by simp; have := HBL.out.size; omega) ?_; intro v2 w2 hown2 hg2 hat2; have HO2 := Lib.hid hown2; have HG2 := Lib.hid hg2; clear hown2 hg2 hat2)
        go_roundw
        case rel =>
          refine ⟨j + 1, by omega, ?_, ?_, ?_⟩
          · congr 1; omega
          · have := HO2.out
            rw [byteCell n, ← bys_append, List.append_assoc, ← beB_take n size j hlt] at this
            exact this
          · exact (HBL.out.alloc HBL.out.size _).grown HG2.out (by simp; have := HBL.out.size; omega) (fun k hk => (HO.out.lt k hk).1)
        case measure => simp [intOf]; omega
      · obtain ⟨ho, hbl⟩ := hq.out
        have ej : j = size := by omega
        subst ej
        have HO := Lib.hid ho; have HBL := Lib.hid hbl
        clear ho hbl hq
        go_wp2
        go_ret
        refine ⟨_, rfl, ?_, HBL.out⟩
        have := HO.out
        rw [List.take_of_length_le (by rw [beB_length]; omega)] at this
        rw [List.length_append, hl, beB_length]
        exact this
end Go.Proofs.YtacmgogobjpmcaaGreat
