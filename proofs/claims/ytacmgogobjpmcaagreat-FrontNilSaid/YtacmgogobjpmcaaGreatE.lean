/- Contracts: sectors (package sector). -/
import Derived.Test.YtacmgogobjpmcaaGreatD
import Derived.Lib.AppendZerosOnto
import Derived.Lib.AppendZeros
namespace Go.Proofs.YtacmgogobjpmcaaGreat
open Go.RowKit

/-! append(out, make([]T, m)...), T of one cell -/
theorem zeroCells_one (z : Value) (m : Nat) (hz : z.cells = #[z]) : Builtin.zeroCells z.cells m = (List.replicate m z).toArray := by
  rw [hz]
  apply Array.ext'
  simp only [Builtin.zeroCells, List.size_toArray, List.length_cons, List.length_nil, Array.toList_map, Array.toList_range]
  rw [List.eq_replicate_iff]
  refine ⟨by simp, fun b hb => ?_⟩
  simp at hb
  obtain ⟨_, _, rfl⟩ := hb
  rw [Nat.mod_one]; rfl
section
variable {P : Program} {w : World}
theorem run_app_zeros (base : Nat) (t tn ty e : TypeId) (z : Value) (bytes : Nat) (kq kn : IntKind) (ht : P.underlying t = some (.slice e)) (htn : P.underlying tn = some (.int kn)) (hi : (P.info? e).map (fun i => (i.zero, i.size, i.bytes)) = some (some z, 1, bytes))
    (hz : z.cells = #[z]) (hz1 : z.oneCell' = true) (v : Value) (n : Nat) (xs : List Value) (hown : w.ownsRow base e 1 v n xs) (m : Nat)
    (h63 : n + m ≤ maxLen) (hbytes : (n + m) * bytes ≤ 140737488355328) (hbase : base ≤ w.heap.size) :
    ∃ v' w', (Builtin.append_ #[t, tn] ty #[v, .int kq m]).run P w = .ok v' w' ∧ w'.ownsRow base e 1 v' (n + m) (xs ++ List.replicate m z) ∧ w.grownBy w' v.ownBlock := by
  obtain ⟨i, h2, h3, h4, h5⟩ := info_parts hi
  have hm63 := h63; unfold maxLen at hm63
  by_cases h0' : m = 0
  · subst h0'
    refine ⟨v, w, ?_, by simpa using hown, World.grownBy.refl w _⟩
    rcases hown.2 with ⟨rfl, rfl⟩ | ⟨g, cap, cur, rfl, _, _, hnc, _⟩
    · simp [Builtin.append_, run_underlying ht, run_underlying htn, sizeOf, typeInfo, h2, asInt, asIntOf, IntKind.wrap_i64]
    · simp [Builtin.append_, run_underlying ht, run_underlying htn, sizeOf, typeInfo, h2, asInt, asIntOf, IntKind.wrap_i64, hnc, storeCells]
  have h0 : 0 < m := by omega
  have hlen : (xs ++ List.replicate m z).length = (n + m) * 1 := by rw [List.length_append, hown.1, List.length_replicate]; omega
  have hmb : m * i.bytes ≤ 281474976710656 := by
    rw [h5]
    have := Nat.mul_le_mul_right bytes (show m ≤ n + m by omega)
    omega
  rcases hown.2 with ⟨rfl, rfl⟩ | ⟨g, cap, cur, rfl, hbg, hg, hnc, hcm, hcs, htake⟩
  · obtain rfl : xs = [] := List.eq_nil_of_length_eq_zero (by simpa using hown.1)
    have hr := Lib.run_append_nil_zeros (P := P) w t tn ty e i z kq kn ht htn h2 h3 m h0 (by omega) (by omega) hmb
    simp only [Nat.zero_add, List.nil_append] at hlen ⊢
    refine ⟨_, _, hr, ⟨hlen, .inr ⟨_, _, _, rfl, hbase, heap_alloc_new w.drew _, ?_, ?_, ?_, ?_⟩⟩, ⟨rfl, rfl, rfl, by simp, fun k hk _ => Below.heap_alloc w.drew _ k hk⟩⟩
    · exact grownCap_ge w m 0 e
    · exact grownCap_le_maxLen w m 0 e (by simpa using h63)
    · have := grownCap_ge w m 0 e
      rw [zeroCells_one z _ hz, zeroCells_one z _ hz]; simp; omega
    · rw [zeroCells_one z _ hz, zeroCells_one z _ hz]; simp
  · by_cases hroom : n + m ≤ cap
    · have hst := run_storeCells_at P g (n * 1) e (List.replicate m z) 0 cur w hg (by rw [List.length_replicate]; omega) (fun u hu => by rw [(List.mem_replicate.1 hu).2]; exact hz1)
      simp only [Nat.add_zero] at hst
      have hw : IntKind.i64.wrap (m : Int) = m := by rw [IntKind.wrap_i64]; omega
      have hneg : ¬ ((m : Int) < 0) := by omega
      have h48i : ¬ (281474976710656 < (m : Int) * (i.bytes : Int)) := by rw [← Int.natCast_mul]; omega
      have hm0 : m ≠ 0 := by omega
      refine ⟨.slice (some ⟨g, 0, none⟩) (n + m) cap, w.setRow g (cur.toList.take (n * 1) ++ List.replicate m z ++ cur.toList.drop (n * 1 + (List.replicate m z).length)).toArray, ?_, ⟨hlen, .inr ⟨g, cap, _, rfl, hbg, setRow_heap w g cur _ e _ hg, hroom, hcm, ?_, ?_⟩⟩, ⟨rfl, rfl, rfl, by simp, fun k _ hk => setRow_other w g k _ (fun e => hk (by simp [Value.ownBlock, e]))⟩⟩
      · simp [Builtin.append_, run_underlying ht, run_underlying htn, sizeOf, typeInfo, zeroValue, h2, h3, h4, asInt, asIntOf, hw, hneg, h48i, hm0, hroom, Addr.add_lit, zeroCells_one z _ hz]
        simp at hst
        rw [hst]; simp
      · simp only [List.size_toArray, List.length_append, List.length_take, List.length_drop, Array.length_toList, List.length_replicate]
        omega
      · rw [htake, ← hlen]
        exact List.take_left
    · have holds : ∀ j u, xs[j]? = some u → w.cell? ((⟨g, 0, none⟩ : Addr).add j) = some u := hown.cells (g := g) rfl
      have hold : (Builtin.firstCells i.size n (.slice (some ⟨g, 0, none⟩) n cap)).run P w.drew = .ok xs.toArray w.drew := run_firstCells_some (P := P) w.drew i.size n ⟨g, 0, none⟩ n cap xs (by rw [h4]; exact hown.1) holds
      have hr := Lib.run_append_grow_zeros (P := P) w t tn ty e i z kq kn ht htn h2 h3 (some ⟨g, 0, none⟩) n cap xs hold m h0 (by omega) (by omega) (by omega) hmb (growslice_fits (by omega) (by rw [h5]; exact hbytes))
      refine ⟨_, _, hr, ⟨hlen, .inr ⟨_, _, _, rfl, hbase, heap_alloc_new w.drew _, grownCap_ge w _ cap e, grownCap_le_maxLen w _ cap e h63, ?_, ?_⟩⟩, ⟨rfl, rfl, rfl, by simp, fun k hk _ => Below.heap_alloc w.drew _ k hk⟩⟩
      · have := grownCap_ge w (n + m) cap e
        have hx := hown.1
        rw [zeroCells_one z _ hz, zeroCells_one z _ hz]; simp; omega
      · rw [zeroCells_one z _ hz, zeroCells_one z _ hz, ← hlen]
        simp only [Array.toList_append]
        exact List.take_left
theorem wpList_app_zeros {ops : Array Oper} {rest : List Oper} {o : Oper} {a : Act} {Q : Exit → Act → World → Prop} (hgd : o.guard = none) (s x : Operand) (t tn : TypeId)
    (ho : o.op = .call { callee := .builtin .append, args := #[s, x], argTypes := #[t, tn] })
    (base : Nat) (e : TypeId) (z : Value) (bytes : Nat) (kq kn : IntKind) (ht : P.underlying t = some (.slice e)) (htn : P.underlying tn = some (.int kn)) (hi : (P.info? e).map (fun i => (i.zero, i.size, i.bytes)) = some (some z, 1, bytes))
    (hz : z.cells = #[z]) (hz1 : z.oneCell' = true) (v : Value) (n : Nat) (xs : List Value) (hs : a.eval s = v) (hown : w.ownsRow base e 1 v n xs) (N : Int) (m : Nat) (hx : a.eval x = .int kq N) (hN : N = m)
    (h63 : n + m ≤ maxLen) (hbytes : (n + m) * bytes ≤ 140737488355328) (hbase : base ≤ w.heap.size)
    (h : ∀ v' w', w'.ownsRow base e 1 v' (n + m) (xs ++ List.replicate m z) → w.grownBy w' v.ownBlock → wpList P ops Q rest (a.put o.dst v') w') : wpList P ops Q (o :: rest) a w := by
  subst hN
  obtain ⟨v', w', hrun, k2, k3⟩ := run_app_zeros (P := P) base t tn o.type e z bytes kq kn ht htn hi hz hz1 v n xs hown m h63 hbytes hbase
  exact Lib.wpList_append_run w hgd s x t tn ho v _ hs hx v' w' hrun (h v' w' k2 k3)
end

def szs : List Int := [1, 4, 7, 1, 1, 2]
theorem sizes_any (w : World) : Calls Tryz.prog 282 #[] w fun e w' => e = .returned (.slice (some ⟨w.heap.size, 0, none⟩) 6 6) ∧ w' = w.alloc (.cells (intsV szs).toArray 3) := by
  go_enter Tryz.func282, Tryz.ntmps282
  go_wp2
  go_ret
  exact ⟨rfl, rfl⟩
theorem intsV_at {w : World} {B n k : Nat} {A : Option Addr} {is : List Int} (h : Rd w B 1 A n (intsV is)) (hk : k < n) :
    ∃ ad s, A = some ad ∧ ad.block < B ∧ is[k]? = some s ∧ w.cell? (ad.add k) = some (.int .i64 s) := by
  obtain ⟨ad, u, e, hb, hx, hc⟩ := h.at_ hk
  simp only [intsV, List.getElem?_map, Option.map_eq_some_iff] at hx
  obtain ⟨s, hs, rfl⟩ := hx
  exact ⟨ad, s, e, hb, hs, hc⟩
theorem intsV_one (is : List Int) : ∀ u ∈ intsV is, u.oneCell' = true := by
  intro u hu; simp [intsV] at hu; obtain ⟨a, _, rfl⟩ := hu; rfl

set_option maxRecDepth 20000 in
/-- a head whose kind is 0 is refused -/
theorem seal_zero (a b c d : Int) (hfit : ∀ (k : Nat) (x y : Int), [0, a, b, c, d][k]? = some x → szs[k]? = some y → fitsB x y = true) (A : Option Addr) (m cc : Nat) (w : World) :
    Calls Tryz.prog 223 #[.agg #[.int .i64 0, .int .i64 a, .int .i64 b, .int .i64 c, .int .i64 d], .slice A m cc] w fun e w' => e = .returned (.tuple #[.slice none 0 0, .int .i64 15]) ∧ Below w.heap.size w w' := by
  have HFit := Lib.hid hfit; clear hfit
  go_enter Tryz.func223, Tryz.ntmps223
  go_wp2
  obtain ⟨W, hW⟩ : ∃ W, W = (w.alloc (.cells #[.int .i64 0, .int .i64 a, .int .i64 b, .int .i64 c, .int .i64 d] 253)).alloc (.cells #[.int .i64 0, .int .i64 a, .int .i64 b, .int .i64 c, .int .i64 d, .int .i64 m] 3) := ⟨_, rfl⟩
  rw [← hW]
  have hb1 : Blk W (w.heap.size + 1) 3 (intsV [0, a, b, c, d, m]).toArray := by rw [hW]; exact Blk.new' _ _ _ (by simp)
  have hb0 : Blk W w.heap.size 253 #[.int .i64 0, .int .i64 a, .int .i64 b, .int .i64 c, .int .i64 d] := by rw [hW]; exact (Blk.new _ _ _).alloc _
  have hbel : Below w.heap.size w W := by rw [hW]; exact ((Below.refl _ _).alloc (Nat.le_refl _) _).alloc (by simp) _
  have hWs : W.heap.size = w.heap.size + 2 := by rw [hW]; simp
  have HW := Lib.hid hW; clear hW
  go_loopw [7, 8, 28] (fun _ _ i wr => ∃ k : Nat, k ≤ 5 ∧ i = .int .i64 k ∧ Hid (Below W.heap.size W wr)) (fun _ _ i _ => 5 - (intOf i).toNat)
  case atStart => exact ⟨0, by omega, rfl, Below.refl _ _⟩
  case round =>
    obtain ⟨k, hk, rfl, hq⟩ := hrel
    by_cases hlt : k < 5
    · have hr1 : Rd wr W.heap.size 1 (some ⟨w.heap.size + 1, 0, none⟩) 6 (intsV [0, a, b, c, d, m]) := by
        have := Rd.of_blk hb1 (n := 6) rfl (by unfold maxLen; omega)
        exact this.below hq.out
      obtain ⟨ad, x, e1, _, hx, hc⟩ := intsV_at hr1 (show k < 6 by omega)
      injection e1 with e1; subst e1
      rw [add0] at hc
      clear hr1
      go_wp2_with fail
      refine (sizes_any _).mono ?_; rintro e w' ⟨rfl, rfl⟩
      have hr2 : Rd (wr.alloc (.cells (intsV szs).toArray 3)) _ 1 (some ⟨wr.heap.size, 0, none⟩) 6 (intsV szs) := Rd.of_blk (n := 6) (Blk.new _ _ _) rfl (by unfold maxLen; omega)
      obtain ⟨ad, y, e1, _, hy, hc2⟩ := intsV_at hr2 (show k < 6 by omega)
      injection e1 with e1; subst e1
      rw [add0] at hc2
      clear hr2
      have hff : fitsB x y = true := HFit.out k x y (by rcases k with _|_|_|_|_|k <;> first | exact hx | omega) hy
      have HX := Lib.hid hx; have HY := Lib.hid hy; have HFF := Lib.hid hff; clear hx hy hff
      go_wp2_with (refine (numFits_any _ _ _).mono ?_; rintro e w' ⟨rfl, rfl⟩; rw [HFF.out])
      go_roundw
      case rel => exact ⟨k + 1, by omega, by go_num, hq.out.alloc hq.out.size _⟩
      case measure => simp [intOf]; omega
    · have hb2 := hb0.below hq.out (by omega)
      have c0 := hb2.cell 0
      clear hb2
      go_wp2
      go_ret2
      exact ⟨rfl, hbel.trans (hq.out.mono (by omega))⟩

def szN : List Nat := [1, 4, 7, 1, 1, 2]
theorem szs_N {k : Nat} {y : Int} (h : szs[k]? = some y) : ∃ n : Nat, y = n ∧ n ≤ 7 ∧ (szN.take (k + 1)).sum = (szN.take k).sum + n := by
  rcases k with _|_|_|_|_|_|k <;> simp [szs] at h <;> subst h
  · exact ⟨1, rfl, by omega, rfl⟩
  · exact ⟨4, rfl, by omega, rfl⟩
  · exact ⟨7, rfl, by omega, rfl⟩
  · exact ⟨1, rfl, by omega, rfl⟩
  · exact ⟨1, rfl, by omega, rfl⟩
  · exact ⟨2, rfl, by omega, rfl⟩
theorem szN_le (k : Nat) : (szN.take k).sum ≤ 16 := by
  rcases k with _|_|_|_|_|_|k <;> simp [szN]
set_option maxRecDepth 20000 in
/-- a head that is fine, and data that fit: 512 bytes -/
theorem seal_ok (a0 a1 a2 a3 a4 : Int) (A : Option Addr) (m cc : Nat) (bs : List UInt8) (w : World) (hr : Rd w w.heap.size 1 A m (bys bs)) (hm : m ≤ 496)
    (hfit : ∀ (k : Nat) (x y : Int), [a0, a1, a2, a3, a4, (m : Int)][k]? = some x → szs[k]? = some y → fitsB x y = true) (h0 : a0 ≠ 0) (h4 : a4 ≠ 0) (h3 : a3 < a4) :
    Calls Tryz.prog 223 #[.agg #[.int .i64 a0, .int .i64 a1, .int .i64 a2, .int .i64 a3, .int .i64 a4], .slice A m cc] w fun e w' =>
      Hid (∃ A' c' cs, e = .returned (.tuple #[.slice A' 512 c', .int .i64 0]) ∧ w'.ownsRow w.heap.size 5 1 (.slice A' 512 c') 512 (bys cs) ∧ Below w.heap.size w w') := by
  have HFit := Lib.hid hfit; clear hfit
  have k0 : (a0 == 0) = false := by simpa using h0
  have k4 : (a4 == 0) = false := by simpa using h4
  go_enter Tryz.func223, Tryz.ntmps223
  go_wp2
  obtain ⟨W, hW⟩ : ∃ W, W = (w.alloc (.cells #[.int .i64 a0, .int .i64 a1, .int .i64 a2, .int .i64 a3, .int .i64 a4] 253)).alloc (.cells #[.int .i64 a0, .int .i64 a1, .int .i64 a2, .int .i64 a3, .int .i64 a4, .int .i64 m] 3) := ⟨_, rfl⟩
  rw [← hW]
  have hb1 : Blk W (w.heap.size + 1) 3 (intsV [a0, a1, a2, a3, a4, m]).toArray := by rw [hW]; exact Blk.new' _ _ _ (by simp)
  have hb0 : Blk W w.heap.size 253 #[.int .i64 a0, .int .i64 a1, .int .i64 a2, .int .i64 a3, .int .i64 a4] := by rw [hW]; exact (Blk.new _ _ _).alloc _
  have hbel : Below w.heap.size w W := by rw [hW]; exact ((Below.refl _ _).alloc (Nat.le_refl _) _).alloc (by simp) _
  have hWs : W.heap.size = w.heap.size + 2 := by rw [hW]; simp
  have HW := Lib.hid hW; clear hW
  go_loopw [7, 8, 28] (fun _ _ i wr => ∃ k : Nat, k ≤ 5 ∧ i = .int .i64 k ∧ Hid (Below W.heap.size W wr)) (fun _ _ i _ => 5 - (intOf i).toNat)
  case atStart => exact ⟨0, by omega, rfl, Below.refl _ _⟩
  case round =>
    obtain ⟨k, hk, rfl, hq⟩ := hrel
    by_cases hlt : k < 5
    · have hr1 : Rd wr W.heap.size 1 (some ⟨w.heap.size + 1, 0, none⟩) 6 (intsV [a0, a1, a2, a3, a4, m]) := by
        have := Rd.of_blk hb1 (n := 6) rfl (by unfold maxLen; omega)
        exact this.below hq.out
      obtain ⟨ad, x, e1, _, hx, hc⟩ := intsV_at hr1 (show k < 6 by omega)
      injection e1 with e1; subst e1
      rw [add0] at hc
      clear hr1
      go_wp2_with fail
      refine (sizes_any _).mono ?_; rintro e w' ⟨rfl, rfl⟩
      have hr2 : Rd (wr.alloc (.cells (intsV szs).toArray 3)) _ 1 (some ⟨wr.heap.size, 0, none⟩) 6 (intsV szs) := Rd.of_blk (n := 6) (Blk.new _ _ _) rfl (by unfold maxLen; omega)
      obtain ⟨ad, y, e1, _, hy, hc2⟩ := intsV_at hr2 (show k < 6 by omega)
      injection e1 with e1; subst e1
      rw [add0] at hc2
      clear hr2
      have hff : fitsB x y = true := HFit.out k x y hx hy
      have HX := Lib.hid hx; have HY := Lib.hid hy; have HFF := Lib.hid hff; clear hx hy hff
      go_wp2_with (refine (numFits_any _ _ _).mono ?_; rintro e w' ⟨rfl, rfl⟩; rw [HFF.out])
      go_roundw
      case rel => exact ⟨k + 1, by omega, by go_num, hq.out.alloc hq.out.size _⟩
      case measure => simp [intOf]; omega
    · have hb2 := hb0.below hq.out (by omega)
      have c0 := hb2.cell 0; have c3 := hb2.cell 3; have c4 := hb2.cell 4
      have HB2 := Lib.hid hb2
      clear hb2
      go_wp2
      obtain ⟨wo, rfl⟩ : ∃ wo : World, wo = wr := ⟨_, rfl⟩
      go_loopw [9, 10, 11, 63] (fun v _ _ i wr' => ∃ k : Nat, k ≤ 6 ∧ i = .int .i64 k ∧ Hid (Below wo.heap.size wo wr' ∧ ∃ cs, cs.length = (szN.take k).sum ∧ wr'.ownsRow wo.heap.size 5 1 v cs.length (bys cs))) (fun _ _ _ i _ => 6 - (intOf i).toNat)
      case atStart => exact ⟨0, by omega, rfl, Below.refl _ _, [], rfl, World.ownsRow_nil _ _ _ _⟩
      case round =>
        obtain ⟨k, hk, rfl, hq'⟩ := hrel
        obtain ⟨hbl, cs, hcl, hown⟩ := hq'.out
        by_cases hlt : k < 6
        · have hr1 : Rd wr W.heap.size 1 (some ⟨w.heap.size + 1, 0, none⟩) 6 (intsV [a0, a1, a2, a3, a4, m]) := by
            have := Rd.of_blk hb1 (n := 6) rfl (by unfold maxLen; omega)
            exact (this.below hq.out).belowM hbl hq.out.size
          obtain ⟨ad, x, e1, _, hx, hc⟩ := intsV_at hr1 (show k < 6 by omega)
          injection e1 with e1; subst e1
          rw [add0] at hc
          clear hr1
          obtain ⟨A', c', rfl⟩ := own_slice hown
          have hsl := szN_le k
          have HBL := Lib.hid hbl; have HO := Lib.hid hown; have HC := Lib.hid hcl
          clear hbl hown hcl hq'
          go_wp2_with fail
          refine (sizes_any _).mono ?_; rintro e w' ⟨rfl, rfl⟩
          have hr2 : Rd (wr.alloc (.cells (intsV szs).toArray 3)) _ 1 (some ⟨wr.heap.size, 0, none⟩) 6 (intsV szs) := Rd.of_blk (n := 6) (Blk.new _ _ _) rfl (by unfold maxLen; omega)
          obtain ⟨ad, y, e1, _, hy, hc2⟩ := intsV_at hr2 (show k < 6 by omega)
          injection e1 with e1; subst e1
          rw [add0] at hc2
          clear hr2
          have hff : fitsB x y = true := HFit.out k x y hx hy
          obtain ⟨yn, hyn, hy7, hsum⟩ := szs_N hy
          subst hyn
          have hpl : (putB x yn).length = yn := by simp only [putB, hff, if_true]; exact beB_length _ _
          have HX := Lib.hid hx; have HY := Lib.hid hy; have HFF := Lib.hid hff; have HS := Lib.hid hsum; have HP := Lib.hid hpl; clear hx hy hff hsum hpl
          go_wp2_with (refine (numPut_any _ _ _ cs _ _ _ ((Rd.of_own HO.out).alloc (Nat.le_refl _) _).here1 (by have := HC.out; omega)).mono ?_; rintro e w2 hput; obtain ⟨v2, rfl, hv2, hb2⟩ := hput.out; have HV2 := Lib.hid hv2; have HB2 := Lib.hid hb2; clear hput hv2 hb2)
          go_roundw
          case rel =>
            refine ⟨k + 1, by omega, by go_num, ?_, cs ++ putB x yn, ?_, ?_⟩
            · exact (HBL.out.alloc HBL.out.size _).trans (HB2.out.mono (by simp; have := HBL.out.size; omega))
            · rw [List.length_append, HC.out, HP.out, HS.out]
            · exact own_base HV2.out (by simp; have := HBL.out.size; omega)
          case measure => simp [intOf]; omega
        · have ek : k = 6 := by omega
          subst ek
          obtain ⟨A', c', rfl⟩ := own_slice hown
          have h16 : cs.length = 16 := by rw [hcl]; rfl
          rw [h16] at hown
          have hrd : Rd wr w.heap.size 1 A m (bys bs) := (((hr.below hbel).belowM hq.out (by omega)).belowM hbl (by have := hq.out.size; omega))
          have hsz : w.heap.size ≤ wr.heap.size := by have := hq.out.size; have := hbl.size; omega
          have hbw : Below w.heap.size w wr := (hbel.trans (hq.out.mono (by omega))).trans (hbl.mono (by have := hq.out.size; omega))
          have hn : (512 : Int) - ((16 + m : Nat) : Int) = ((496 - m : Nat) : Int) := by omega
          have hown' := own_base hown (base' := w.heap.size) (by have := hq.out.size; omega)
          have h1 : ∀ u ∈ bys bs, u.oneCell' = true := bys_one _
          have HO := Lib.hid hown'; have HR := Lib.hid hrd; have HBW := Lib.hid hbw; have H1 := Lib.hid h1
          have hC := Lib.hid h16
          clear hbl hcl hq' hown hown' hrd hbw h1 hq h16
          rw [hC.out]
          go_wp2_with (first
            | (at_builtin; refine wpList_app rfl (.tmp 76) (.tmp 77) _ rfl w.heap.size _ _ 1 1 Tryz.underlying30 u8_info rfl (by decide) (.slice A' 16 c') 16 _ rfl HO.out _ A m cc _ rfl HR.out H1.out (by unfold maxLen; omega) (by omega) hsz ?_
               intro v2 w2 hown2 hg2 hat2
               obtain ⟨A2, c2, rfl⟩ := own_slice hown2
               have hs2 : w.heap.size ≤ w2.heap.size := by have := hg2.size; omega
               have HO2 := Lib.hid hown2; have HG2 := Lib.hid hg2; clear hown2 hg2 hat2)
            | (at_builtin; refine wpList_app_zeros rfl (.tmp 79) (.tmp 82) _ _ rfl w.heap.size 5 (.int .u8 0) 1 .i64 .i64 Tryz.underlying30 Tryz.underlying3 u8_info rfl rfl (.slice A2 (16 + m) c2) (16 + m) _ rfl HO2.out _ (496 - m) rfl (by omega) (by unfold maxLen; omega) (by omega) hs2 ?_
               intro v3 w3 hown3 hg3
               obtain ⟨A3, c3, rfl⟩ := own_slice hown3
               have HO3 := Lib.hid hown3; have HG3 := Lib.hid hg3; clear hown3 hg3))
          go_ret2
          have e512 : 16 + m + (496 - m) = 512 := by omega
          have ho := HO3.out
          rw [e512, show List.replicate (496 - m) (Value.int .u8 0) = bys (zeros (496 - m)) by simp [bys, zeros], ← bys_append, ← bys_append] at ho
          refine ⟨A3, c3, _, ?_, ho, ?_⟩
          · simp only [← e512]; rfl
          · exact (HBW.out.grown HG2.out hsz (fun k hk => (HO.out.lt k hk).1)).grown HG3.out hs2 (fun k hk => (HO2.out.lt k hk).1)
end Go.Proofs.YtacmgogobjpmcaaGreat
