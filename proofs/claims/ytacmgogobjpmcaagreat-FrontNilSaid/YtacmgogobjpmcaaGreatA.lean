/- Words for memory: slices that read as lists; facts kept from the walk. No program here. -/
import Derived.WalkKit
import Derived.WalkSpells
import Derived.WalkLawsBesides
import Derived.Lib.Hide
import Derived.Deep.DeepFit
import Derived.Deep.QuietTactic
import Derived.BigQuiet
import Derived.Deep.Draws
import Derived.Laws.OwnMore
import Derived.Maps.AppendAt
import Derived.Deep.OwnRows
import Derived.Deep.AppendLies
import Derived.Laws.CopyOwn
import Derived.Deep.RegionLaw
namespace Go.Proofs.YtacmgogobjpmcaaGreat
open Go.RowKit

theorem blk_add (a : Addr) (n : Nat) : (a.add n).block = a.block := by unfold Addr.add; split <;> rfl
theorem add_add' (a : Addr) (i j : Nat) : (a.add i).add j = a.add (i + j) := by
  unfold Addr.add
  by_cases hi : i = 0 <;> by_cases hj : j = 0 <;> simp [hi, hj, Nat.add_assoc]
theorem add0 (g j : Nat) : (⟨g, 0, none⟩ : Addr).add j = ⟨g, j, none⟩ := by unfold Addr.add; split <;> simp_all
theorem wrap_in {n : Int} (h : -9223372036854775808 ≤ n) (h' : n ≤ 9223372036854775807) : IntKind.i64.wrap n = n := IntWalk.i64_in _ ⟨h, h'⟩

/-- The slice value '.slice A n c' holds the cells xs, 'size' a piece, in a block below B. -/
structure Rd (w : World) (B size : Nat) (A : Option Addr) (n : Nat) (xs : List Value) : Prop where
  len : xs.length = n * size
  max : n ≤ maxLen
  cells : 0 < n → ∃ ad, A = some ad ∧ ad.block < B ∧ ∀ j u, xs[j]? = some u → w.cell? (ad.add j) = some u

section
variable {w w' : World} {B B' size n : Nat} {A : Option Addr} {xs : List Value}
theorem Rd.nil : Rd w B size A 0 [] := ⟨by simp, by unfold maxLen; omega, fun h => absurd h (by omega)⟩
theorem Rd.at_ {k : Nat} (h : Rd w B 1 A n xs) (hk : k < n) : ∃ ad u, A = some ad ∧ ad.block < B ∧ xs[k]? = some u ∧ w.cell? (ad.add k) = some u := by
  obtain ⟨ad, e, hb, hc⟩ := h.cells (by omega)
  have hl : k < xs.length := by have := h.len; omega
  exact ⟨ad, xs[k], e, hb, List.getElem?_eq_getElem hl, hc k _ (List.getElem?_eq_getElem hl)⟩
theorem Rd.keep (h : Rd w B size A n xs) (hk : ∀ p : Addr, p.block < B → w'.cell? p = w.cell? p) : Rd w' B size A n xs :=
  ⟨h.len, h.max, fun hn => by
    obtain ⟨ad, e, hb, hc⟩ := h.cells hn
    exact ⟨ad, e, hb, fun j u hu => (hk _ (by rw [blk_add]; exact hb)).trans (hc j u hu)⟩⟩
theorem Rd.drew (h : Rd w B size A n xs) : Rd w.drew B size A n xs := h.keep fun _ _ => rfl
theorem Rd.drewN (h : Rd w B size A n xs) (k : Nat) : Rd (w.drewN k) B size A n xs := h.keep fun _ _ => rfl
theorem Rd.alloc (h : Rd w B size A n xs) (hB : B ≤ w.heap.size) (o : Obj) : Rd (w.alloc o) B size A n xs := h.keep fun p hp => World.cell?_alloc_lt w o p (by omega)
theorem Rd.setCell (h : Rd w B size A n xs) {p : Addr} (hB : B ≤ p.block) (u : Value) : Rd (w.setCell p u) B size A n xs :=
  h.keep fun q hq => World.cell?_setCell_other w p q u (fun e => by subst e; omega)
theorem Rd.more (h : Rd w B size A n xs) (hB : B ≤ B') : Rd w B' size A n xs :=
  ⟨h.len, h.max, fun hn => by
    obtain ⟨ad, e, hb, hc⟩ := h.cells hn
    exact ⟨ad, e, by omega, hc⟩⟩
theorem Rd.below (h : Rd w B size A n xs) (hb : Below B w w') : Rd w' B size A n xs := h.keep fun _ hp => hb.cell hp
theorem Rd.here1 (h : Rd w B 1 A n xs) : Rd w w.heap.size 1 A n xs :=
  ⟨h.len, h.max, fun hn => by
    obtain ⟨ad, e, hb, hc⟩ := h.cells hn
    have hx : 0 < xs.length := by have := h.len; omega
    have := World.block_lt_of_cell? w _ (hc 0 xs[0] (List.getElem?_eq_getElem hx))
    rw [blk_add] at this
    exact ⟨ad, e, this, hc⟩⟩
theorem own_base {base base' : Nat} {e : TypeId} {v : Value} (h : w.ownsRow base e size v n xs) (hb : base' ≤ base) : w.ownsRow base' e size v n xs := by
  obtain ⟨h1, h2⟩ := h
  refine ⟨h1, ?_⟩
  rcases h2 with h2 | ⟨g, cap, cur, hv, hg, r⟩
  · exact .inl h2
  · exact .inr ⟨g, cap, cur, hv, by omega, r⟩
theorem Rd.belowM {B0 : Nat} (h : Rd w B size A n xs) (hb : Below B0 w w') (hB : B ≤ B0) : Rd w' B size A n xs := h.below (hb.mono hB)
/-- what is owned reads -/
theorem Rd.of_own {base : Nat} {e : TypeId} {c : Nat} (h : w.ownsRow base e size (.slice A n c) n xs) : Rd w w.heap.size size A n xs := by
  refine ⟨h.1, ?_, fun hn => ?_⟩
  · rcases h.2 with ⟨_, h1⟩ | ⟨g', cap', cur, he, _, _, h1, h2, _⟩ <;> omega
  · obtain ⟨g, cap, hv, _, hlt⟩ := h.form hn
    have hA : A = some ⟨g, 0, none⟩ := by injection hv
    subst hA
    exact ⟨_, rfl, hlt, h.cells (g := g) rfl⟩
/-- a cut 's[k:m]' -/
theorem Rd.cut (h : Rd w B size A n xs) {k m cap : Nat} (hk : k ≤ m) (hm : m ≤ n) (hc : n ≤ cap) :
    Rd w B size (if cap = k then A else A.map (·.add (k * size))) (m - k) ((xs.drop (k * size)).take ((m - k) * size)) := by
  have hm1 := h.max
  refine ⟨?_, by omega, fun hn => ?_⟩
  · rw [List.length_take, List.length_drop, h.len, ← Nat.sub_mul]
    exact Nat.min_eq_left (Nat.mul_le_mul_right _ (by omega))
  obtain ⟨ad, rfl, hb, hcell⟩ := h.cells (by omega)
  rw [if_neg (by omega)]
  refine ⟨ad.add (k * size), rfl, by rw [blk_add]; exact hb, fun j u hu => ?_⟩
  rw [add_add']
  refine hcell _ u ?_
  rw [List.getElem?_take] at hu
  split at hu
  · rw [← hu, List.getElem?_drop]
  · cases hu
end

/-! typed lists -/
def strs (ss : List ByteArray) : List Value := ss.map .string
def bys (bs : List UInt8) : List Value := bs.map fun b => .int .u8 (b.toNat : Int)
def intsV (is : List Int) : List Value := is.map (.int .i64)
theorem strs_length (ss : List ByteArray) : (strs ss).length = ss.length := by simp [strs]
theorem bys_length (bs : List UInt8) : (bys bs).length = bs.length := by simp [bys]
theorem strs_append (a b : List ByteArray) : strs (a ++ b) = strs a ++ strs b := by simp [strs]
theorem bys_append (a b : List UInt8) : bys (a ++ b) = bys a ++ bys b := by simp [bys]
theorem strs_one (ss : List ByteArray) : ∀ u ∈ strs ss, u.oneCell' = true := by
  intro u hu; simp [strs] at hu; obtain ⟨a, _, rfl⟩ := hu; rfl
theorem bys_one (ss : List UInt8) : ∀ u ∈ bys ss, u.oneCell' = true := by
  intro u hu; simp [bys] at hu; obtain ⟨a, _, rfl⟩ := hu; rfl

theorem Rd.strLen {w : World} {B n : Nat} {A : Option Addr} {ss : List ByteArray} (h : Rd w B 1 A n (strs ss)) : ss.length = n := by have := h.len; simpa [strs] using this
theorem Rd.byLen {w : World} {B n : Nat} {A : Option Addr} {ss : List UInt8} (h : Rd w B 1 A n (bys ss)) : ss.length = n := by have := h.len; simpa [bys] using this
theorem Rd.strAt {w : World} {B n k : Nat} {A : Option Addr} {ss : List ByteArray} (h : Rd w B 1 A n (strs ss)) (hk : k < n) :
    ∃ ad s, A = some ad ∧ ad.block < B ∧ ss[k]? = some s ∧ w.cell? (ad.add k) = some (.string s) := by
  obtain ⟨ad, u, e, hb, hx, hc⟩ := h.at_ hk
  simp only [strs, List.getElem?_map, Option.map_eq_some_iff] at hx
  obtain ⟨s, hs, rfl⟩ := hx
  exact ⟨ad, s, e, hb, hs, hc⟩
theorem Rd.byAt {w : World} {B n k : Nat} {A : Option Addr} {ss : List UInt8} (h : Rd w B 1 A n (bys ss)) (hk : k < n) :
    ∃ ad s, A = some ad ∧ ad.block < B ∧ ss[k]? = some s ∧ w.cell? (ad.add k) = some (.int .u8 (s.toNat : Int)) := by
  obtain ⟨ad, u, e, hb, hx, hc⟩ := h.at_ hk
  simp only [bys, List.getElem?_map, Option.map_eq_some_iff] at hx
  obtain ⟨s, hs, rfl⟩ := hx
  exact ⟨ad, s, e, hb, hs, hc⟩
theorem u8_lt (s : UInt8) : (s.toNat : Int) < 256 ∧ 0 ≤ (s.toNat : Int) := by have := s.toNat_lt; omega

/-- old cells and marks read as before -/
theorem bcell {W w1 : World} (hb : Below W.heap.size W w1) : (∀ b o, b < W.heap.size → w1.cell? ⟨b, o, none⟩ = W.cell? ⟨b, o, none⟩) ∧ (∀ b o, b < W.heap.size → w1.frozen? ⟨b, o, none⟩ = W.frozen? ⟨b, o, none⟩) :=
  ⟨fun b o h => hb.cell (p := ⟨b, o, none⟩) h, fun b o h => hb.frozen (p := ⟨b, o, none⟩) h⟩

/-- the first place where p holds; -1: none -/
def idxI {α : Type} (p : α → Bool) (l : List α) : Int := if l.any p then (l.findIdx p : Int) else -1
theorem idxI_at {α : Type} {p : α → Bool} {l : List α} {k : Nat} {s : α} (hx : l[k]? = some s) (hp : p s = true) (hq : ∀ x ∈ l.take k, p x = false) : idxI p l = k := by
  have hl : k < l.length := (List.getElem?_eq_some_iff.1 hx).1
  have hs : l[k] = s := (List.getElem?_eq_some_iff.1 hx).2
  have hany : l.any p = true := List.any_eq_true.2 ⟨s, List.mem_of_getElem? hx, hp⟩
  unfold idxI
  rw [if_pos hany]
  congr 1
  rw [List.findIdx_eq hl]
  refine ⟨by rw [hs]; exact hp, fun j hj => ?_⟩
  have := hq l[j] (List.mem_take_iff_getElem.2 ⟨j, by omega, rfl⟩)
  simpa using this
theorem idxI_none {α : Type} {p : α → Bool} {l : List α} (hq : ∀ x ∈ l, p x = false) : idxI p l = -1 := by
  have hany : ¬ l.any p = true := by
    intro h
    obtain ⟨x, hx, hp⟩ := List.any_eq_true.1 h
    rw [hq x hx] at hp; cases hp
  unfold idxI; rw [if_neg hany]
theorem idxI_ge {α : Type} (p : α → Bool) (l : List α) : decide (0 ≤ idxI p l) = l.any p := by
  unfold idxI; split
  · rename_i h; rw [h]; simp
  · rename_i h; simp only [Bool.not_eq_true] at h; rw [h]; rfl
theorem take_snoc' {α : Type} {l : List α} {k : Nat} {s : α} {P : α → Prop} (hx : l[k]? = some s) (hp : P s) (hq : ∀ x ∈ l.take k, P x) : ∀ x ∈ l.take (k + 1), P x := by
  intro x hm
  rw [List.take_add_one, hx] at hm
  rcases List.mem_append.1 hm with h | h
  · exact hq x h
  · simp at h; rw [h]; exact hp

/-- function g of a program has a body: a call of it enters it -/
def Enters (P : Program) (g : Nat) : Prop := ∀ (args : Array Value) (w : World), (callFunc g args).run P w = .ok (.enter g args) w
theorem enters_of {P : Program} {g : Nat} {fn : Func} (hf : P.funcs[g]? = some fn) (hn : (fn.name == "runtime.NumGoroutine") = false) (hb : fn.body.isNone = false) : Enters P g := by
  intro args w
  have hn' : fn.name ≠ "runtime.NumGoroutine" := by simpa using hn
  have hb' : fn.body ≠ none := by intro e; rw [e] at hb; cases hb
  simp [callFunc, hf, hn', hb']

/-- 'make([]T, l, c)' as an equation -/
theorem make_eq {P : Program} {t e : TypeId} {z : Value} {size bytes : Nat} (ht : P.underlying t = some (.slice e)) (hi : (P.info? e).map (fun i => (i.zero, i.size, i.bytes)) = some (some z, size, bytes))
    (kl kc : IntKind) (l c : Nat) (hlc : l ≤ c) (hb : bytes * c ≤ 281474976710656) (hm : c ≤ 9223372036854775807) (w : World) :
    (Instr.makeSlice t (.int kl (l : Int)) (.int kc (c : Int))).run P w = .ok (.slice (some ⟨w.heap.size, 0, none⟩) l c) (w.alloc (.cells (madeCells z.cells (c * size)) e)) := by
  obtain ⟨i, h1, h2, h3, h4⟩ := info_parts hi
  have hb' : (i.bytes : Int) * (c : Int) ≤ 281474976710656 := by
    have h : ((i.bytes * c : Nat) : Int) ≤ 281474976710656 := by rw [h4]; omega
    rwa [Int.natCast_mul] at h
  have hr := run_make (P := P) w t e i z ht h1 h2 kl kc l c (by omega) (by omega) hb' (by omega)
  rw [hr, h3]; simp

/-! ### copy into a block that is known whole -/
def Blk (w : World) (g : Nat) (t : TypeId) (cs : Array Value) : Prop := w.heap[g]? = some (.cells cs t (0, 0))
section
variable {P : Program} {w : World}
theorem run_cp (dT sT ty e t : TypeId) (hu : P.underlying dT = some (.slice e)) (hsz : (P.info? e).map (·.size) = some 1) (g off dl dc : Nat) (cur : Array Value) (hg : Blk w g t cur)
    (B : Nat) (A : Option Addr) (m c : Nat) (xs : List Value) (hr : Rd w B 1 A m xs) (h1 : ∀ u ∈ xs, u.oneCell' = true) (hfit : off + min m dl ≤ cur.size) :
    ∃ w', (Builtin.copy_ #[dT, sT] ty #[.slice (some ⟨g, off, none⟩) dl dc, .slice A m c]).run P w = .ok (goInt ((min m dl : Nat) : Int)) w' ∧ Blk w' g t (splice cur.toList off (xs.take (min m dl))).toArray ∧ w.grownBy w' (some g) ∧ w'.heap.size = w.heap.size := by
  have hl : xs.length = m := by simpa using hr.len
  by_cases h0 : min m dl = 0
  · refine ⟨w, ?_, ?_, World.grownBy.refl w _, rfl⟩
    · rw [h0]; exact run_copy_none (P := P) w dT sT ty e _ A dl dc m c hu hsz h0
    · rw [h0]; simpa [splice] using hg
  · obtain ⟨ad, rfl, _, hc⟩ := hr.cells (by omega)
    have hlen : (xs.take (min m dl)).length = min m dl := by rw [List.length_take, hl]; omega
    have hrun := run_copy_row (P := P) w dT sT ty e g off dl dc ad m c cur t (xs.take (min m dl)) hu hsz hg hlen
      (fun j v hj => by
        rw [List.getElem?_take] at hj
        split at hj
        · exact hc j v hj
        · cases hj) (by rw [hlen]; exact hfit) (fun v hv => h1 v (List.mem_of_mem_take hv))
    rw [hlen] at hrun
    refine ⟨_, hrun, ?_, ⟨rfl, rfl, rfl, by simp [World.setRow], fun k _ hk => setRow_other w g k _ (fun e => hk (by rw [e]))⟩, by simp [World.setRow]⟩
    unfold splice
    rw [hlen, ← List.append_assoc]
    exact setRow_heap w g cur _ t _ hg

theorem wp_cp {o : Oper} {a : Act} {K : Act → World → Prop} {Q : Exit → Act → World → Prop} (d s : Operand) (dT sT : TypeId)
    (ho : o.op = .call { callee := .builtin .copy, args := #[d, s], argTypes := #[dT, sT] }) (e t : TypeId) (hu : P.underlying dT = some (.slice e)) (hsz : (P.info? e).map (·.size) = some 1)
    (g off dl dc : Nat) (cur : Array Value) (hd : a.eval d = .slice (some ⟨g, off, none⟩) dl dc) (hg : Blk w g t cur)
    (B : Nat) (A : Option Addr) (m c : Nat) (xs : List Value) (hs : a.eval s = .slice A m c) (hr : Rd w B 1 A m xs) (h1 : ∀ u ∈ xs, u.oneCell' = true) (hfit : off + min m dl ≤ cur.size)
    (h : ∀ w', Blk w' g t (splice cur.toList off (xs.take (min m dl))).toArray → w.grownBy w' (some g) → w'.heap.size = w.heap.size → K (a.put o.dst (goInt ((min m dl : Nat) : Int))) w') : o.wp P a w K Q := by
  obtain ⟨w', hrun, h2, h3, h4⟩ := run_cp (P := P) dT sT o.type e t hu hsz g off dl dc cur hg B A m c xs hr h1 hfit
  unfold Oper.wp execOp
  simp only [ho, resolve, invoke, builtin, Sem.run_bind, Sem.run_pure, Result.andThen_ok, List.map_toArray, List.map_cons, List.map_nil, hd, hs, hrun]
  exact h w' h2 h3 h4

theorem wpList_cp {ops : Array Oper} {rest : List Oper} {o : Oper} {a : Act} {Q : Exit → Act → World → Prop} (hgd : o.guard = none) (d s : Operand) (dT sT : TypeId)
    (ho : o.op = .call { callee := .builtin .copy, args := #[d, s], argTypes := #[dT, sT] }) (e t : TypeId) (hu : P.underlying dT = some (.slice e)) (hsz : (P.info? e).map (·.size) = some 1)
    (g off dl dc : Nat) (cur : Array Value) (hd : a.eval d = .slice (some ⟨g, off, none⟩) dl dc) (hg : Blk w g t cur)
    (B : Nat) (A : Option Addr) (m c : Nat) (xs : List Value) (hs : a.eval s = .slice A m c) (hr : Rd w B 1 A m xs) (h1 : ∀ u ∈ xs, u.oneCell' = true) (hfit : off + min m dl ≤ cur.size)
    (h : ∀ w', Blk w' g t (splice cur.toList off (xs.take (min m dl))).toArray → w.grownBy w' (some g) → w'.heap.size = w.heap.size → wpList P ops Q rest (a.put o.dst (goInt ((min m dl : Nat) : Int))) w') : wpList P ops Q (o :: rest) a w :=
  wpList_plain hgd fun _ hK => wp_cp d s dT sT ho e t hu hsz g off dl dc cur hd hg B A m c xs hs hr h1 hfit fun w' h2 h3 h4 => hK _ _ (h w' h2 h3 h4)

theorem step_cp {ops : Array Oper} {o : Oper} {a : Act} {K : Act → World → Prop} {Q : Exit → Act → World → Prop} {E : Prop} (hgd : o.guard = none) (d s : Operand) (dT sT : TypeId)
    (ho : o.op = .call { callee := .builtin .copy, args := #[d, s], argTypes := #[dT, sT] }) (e t : TypeId) (hu : P.underlying dT = some (.slice e)) (hsz : (P.info? e).map (·.size) = some 1)
    (g off dl dc : Nat) (cur : Array Value) (hd : a.eval d = .slice (some ⟨g, off, none⟩) dl dc) (hg : Blk w g t cur)
    (B : Nat) (A : Option Addr) (m c : Nat) (xs : List Value) (hs : a.eval s = .slice A m c) (hr : Rd w B 1 A m xs) (h1 : ∀ u ∈ xs, u.oneCell' = true) (hfit : off + min m dl ≤ cur.size)
    (h : ∀ w', Blk w' g t (splice cur.toList off (xs.take (min m dl))).toArray → w.grownBy w' (some g) → w'.heap.size = w.heap.size → K (a.put o.dst (goInt ((min m dl : Nat) : Int))) w') :
    if Region.wanted o (yielded ops a.tmps) = true then Oper.wp P o a w K Q else E := by
  have hw : Region.wanted o (yielded ops a.tmps) = true := by simp [Region.wanted, hgd]
  rw [if_pos hw]
  exact wp_cp d s dT sT ho e t hu hsz g off dl dc cur hd hg B A m c xs hs hr h1 hfit h
end

/-! ### append onto a row of the call's own, the source being anything that reads -/
section
variable {P : Program} {w : World}
theorem run_app (base : Nat) (t ty e : TypeId) (z : Value) (size bytes : Nat) (ht : P.underlying t = some (.slice e)) (hi : (P.info? e).map (fun i => (i.zero, i.size, i.bytes)) = some (some z, size, bytes))
    (hzs : z.cells.size = size) (hsz : 0 < size) (v : Value) (n : Nat) (xs : List Value) (hown : w.ownsRow base e size v n xs)
    (B : Nat) (A : Option Addr) (m c : Nat) (news : List Value) (hr : Rd w B size A m news) (h1 : ∀ u ∈ news, u.oneCell' = true)
    (h63 : n + m ≤ maxLen) (hbytes : (n + m) * bytes ≤ 140737488355328) (hbase : base ≤ w.heap.size) :
    ∃ v' w', (Builtin.append_ #[t, t] ty #[v, .slice A m c]).run P w = .ok v' w' ∧ w'.ownsRow base e size v' (n + m) (xs ++ news) ∧ w.grownBy w' v.ownBlock ∧
      (v'.ownBlock = v.ownBlock ∨ v'.ownBlock = some w.heap.size) := by
  obtain ⟨i, h2, h3, h4, h5⟩ := info_parts hi
  by_cases h0 : m = 0
  · subst h0
    obtain rfl : news = [] := List.eq_nil_of_length_eq_zero (by simpa using hr.len)
    refine ⟨v, w, ?_, by simpa using hown, World.grownBy.refl w _, .inl rfl⟩
    rcases hown.2 with ⟨rfl, rfl⟩ | ⟨g, cap, cur, rfl, _, _, hnc, _⟩
    · cases A <;> simp [Builtin.append_, run_underlying ht, sizeOf, typeInfo, h2, Builtin.lenOf, Builtin.firstCells, loadCells, loadCellsFrom]
    · cases A <;> simp [Builtin.append_, run_underlying ht, sizeOf, typeInfo, h2, Builtin.lenOf, Builtin.firstCells, hnc, storeCells, loadCells, loadCellsFrom]
  · obtain ⟨ad, rfl, _, hc⟩ := hr.cells (by omega)
    obtain ⟨v', w', hrun, k2, k3, _, k5⟩ := run_append_own_at (P := P) w base t ty e i z size bytes ht h2 h3 h4 h5 hzs hsz v n xs hown ad m c news hr.len hc h1 h63 hbytes hbase
    exact ⟨v', w', hrun, k2, k3, k5⟩

theorem wp_app {o : Oper} {a : Act} {K : Act → World → Prop} {Q : Exit → Act → World → Prop} (s x : Operand) (t : TypeId)
    (ho : o.op = .call { callee := .builtin .append, args := #[s, x], argTypes := #[t, t] })
    (base : Nat) (e : TypeId) (z : Value) (size bytes : Nat) (ht : P.underlying t = some (.slice e)) (hi : (P.info? e).map (fun i => (i.zero, i.size, i.bytes)) = some (some z, size, bytes))
    (hzs : z.cells.size = size) (hsz : 0 < size) (v : Value) (n : Nat) (xs : List Value) (hs : a.eval s = v) (hown : w.ownsRow base e size v n xs)
    (B : Nat) (A : Option Addr) (m c : Nat) (news : List Value) (hx : a.eval x = .slice A m c) (hr : Rd w B size A m news) (h1 : ∀ u ∈ news, u.oneCell' = true)
    (h63 : n + m ≤ maxLen) (hbytes : (n + m) * bytes ≤ 140737488355328) (hbase : base ≤ w.heap.size)
    (h : ∀ v' w', w'.ownsRow base e size v' (n + m) (xs ++ news) → w.grownBy w' v.ownBlock → (v'.ownBlock = v.ownBlock ∨ v'.ownBlock = some w.heap.size) → K (a.put o.dst v') w') : o.wp P a w K Q := by
  obtain ⟨v', w', hrun, h2, h3, h4⟩ := run_app (P := P) base t o.type e z size bytes ht hi hzs hsz v n xs hown B A m c news hr h1 h63 hbytes hbase
  unfold Oper.wp execOp
  simp only [ho, resolve, invoke, builtin, Sem.run_bind, Sem.run_pure, Result.andThen_ok, List.map_toArray, List.map_cons, List.map_nil, hs, hx, hrun]
  exact h v' w' h2 h3 h4

theorem wpList_app {ops : Array Oper} {rest : List Oper} {o : Oper} {a : Act} {Q : Exit → Act → World → Prop} (hgd : o.guard = none) (s x : Operand) (t : TypeId)
    (ho : o.op = .call { callee := .builtin .append, args := #[s, x], argTypes := #[t, t] })
    (base : Nat) (e : TypeId) (z : Value) (size bytes : Nat) (ht : P.underlying t = some (.slice e)) (hi : (P.info? e).map (fun i => (i.zero, i.size, i.bytes)) = some (some z, size, bytes))
    (hzs : z.cells.size = size) (hsz : 0 < size) (v : Value) (n : Nat) (xs : List Value) (hs : a.eval s = v) (hown : w.ownsRow base e size v n xs)
    (B : Nat) (A : Option Addr) (m c : Nat) (news : List Value) (hx : a.eval x = .slice A m c) (hr : Rd w B size A m news) (h1 : ∀ u ∈ news, u.oneCell' = true)
    (h63 : n + m ≤ maxLen) (hbytes : (n + m) * bytes ≤ 140737488355328) (hbase : base ≤ w.heap.size)
    (h : ∀ v' w', w'.ownsRow base e size v' (n + m) (xs ++ news) → w.grownBy w' v.ownBlock → (v'.ownBlock = v.ownBlock ∨ v'.ownBlock = some w.heap.size) → wpList P ops Q rest (a.put o.dst v') w') : wpList P ops Q (o :: rest) a w :=
  wpList_plain hgd fun _ hK => wp_app s x t ho base e z size bytes ht hi hzs hsz v n xs hs hown B A m c news hx hr h1 h63 hbytes hbase fun v' w' h2 h3 h4 => hK _ _ (h v' w' h2 h3 h4)

theorem step_app {ops : Array Oper} {o : Oper} {a : Act} {K : Act → World → Prop} {Q : Exit → Act → World → Prop} {E : Prop} (hgd : o.guard = none) (s x : Operand) (t : TypeId)
    (ho : o.op = .call { callee := .builtin .append, args := #[s, x], argTypes := #[t, t] })
    (base : Nat) (e : TypeId) (z : Value) (size bytes : Nat) (ht : P.underlying t = some (.slice e)) (hi : (P.info? e).map (fun i => (i.zero, i.size, i.bytes)) = some (some z, size, bytes))
    (hzs : z.cells.size = size) (hsz : 0 < size) (v : Value) (n : Nat) (xs : List Value) (hs : a.eval s = v) (hown : w.ownsRow base e size v n xs)
    (B : Nat) (A : Option Addr) (m c : Nat) (news : List Value) (hx : a.eval x = .slice A m c) (hr : Rd w B size A m news) (h1 : ∀ u ∈ news, u.oneCell' = true)
    (h63 : n + m ≤ maxLen) (hbytes : (n + m) * bytes ≤ 140737488355328) (hbase : base ≤ w.heap.size)
    (h : ∀ v' w', w'.ownsRow base e size v' (n + m) (xs ++ news) → w.grownBy w' v.ownBlock → (v'.ownBlock = v.ownBlock ∨ v'.ownBlock = some w.heap.size) → K (a.put o.dst v') w') :
    if Region.wanted o (yielded ops a.tmps) = true then Oper.wp P o a w K Q else E := by
  have hw : Region.wanted o (yielded ops a.tmps) = true := by simp [Region.wanted, hgd]
  rw [if_pos hw]
  exact wp_app s x t ho base e z size bytes ht hi hzs hsz v n xs hs hown B A m c news hx hr h1 h63 hbytes hbase h
end
theorem own_slice {w : World} {base n : Nat} {e : TypeId} {size : Nat} {v : Value} {xs : List Value} (h : w.ownsRow base e size v n xs) : ∃ A c, v = .slice A n c := by
  rcases h.2 with ⟨rfl, rfl⟩ | ⟨g, cap, cur, rfl, _⟩
  · exact ⟨none, 0, rfl⟩
  · exact ⟨_, cap, rfl⟩
/-- one new cell, boxed: it reads -/
theorem Rd.of_blk {w : World} {g : Nat} {t : TypeId} {cs : Array Value} {n : Nat} (h : Blk w g t cs) (hn : cs.size = n) (hm : n ≤ maxLen) : Rd w w.heap.size 1 (some ⟨g, 0, none⟩) n cs.toList :=
  ⟨by simp [hn], hm, fun _ => ⟨_, rfl, (Array.getElem?_eq_some_iff.1 h).1, World.news_of_block h⟩⟩
theorem Rd.boxN (w : World) (cs : Array Value) (t : TypeId) : Rd (w.alloc (.cells cs t)) (w.heap.size + 1) cs.size (some ⟨w.heap.size, 0, none⟩) 1 cs.toList :=
  ⟨by simp, by unfold maxLen; omega, fun _ => ⟨_, rfl, Nat.lt_succ_self _, World.news_of_block (heap_alloc_new w _)⟩⟩
theorem Rd.box1 (w : World) (x : Value) (t : TypeId) : Rd (w.alloc (.cells #[x] t)) (w.heap.size + 1) 1 (some ⟨w.heap.size, 0, none⟩) 1 [x] :=
  ⟨rfl, by unfold maxLen; omega, fun _ => ⟨_, rfl, Nat.lt_succ_self _, cell_one_new w x t⟩⟩

/-! a block that is known whole -/
section
variable {w w' : World} {g : Nat} {t : TypeId} {cs : Array Value}
theorem Blk.lt (h : Blk w g t cs) : g < w.heap.size := (Array.getElem?_eq_some_iff.1 h).1
theorem Blk.cell (h : Blk w g t cs) (i : Nat) : w.cell? ⟨g, i, none⟩ = cs[i]? := cell_of_row w g i cs t (0, 0) h
theorem Blk.frozen (h : Blk w g t cs) (i : Nat) : w.frozen? ⟨g, i, none⟩ = false := by unfold Blk at h; simp [World.frozen?, h]
theorem Blk.new (w : World) (t : TypeId) (cs : Array Value) : Blk (w.alloc (.cells cs t)) w.heap.size t cs := heap_alloc_new w _
theorem Blk.new' (w : World) (t : TypeId) (cs : Array Value) (hg : g = w.heap.size) : Blk (w.alloc (.cells cs t)) g t cs := hg ▸ heap_alloc_new w _
theorem Blk.drew (h : Blk w g t cs) : Blk w.drew g t cs := h
theorem Blk.drewN (h : Blk w g t cs) (n : Nat) : Blk (w.drewN n) g t cs := h
theorem Blk.alloc (h : Blk w g t cs) (o : Obj) : Blk (w.alloc o) g t cs := (Below.heap_alloc w o g h.lt).trans h
theorem Blk.set_ (h : Blk w g t cs) (i : Nat) (u : Value) : Blk (w.setCell ⟨g, i, none⟩ u) g t (cs.setIfInBounds i u) := by
  unfold Blk at h ⊢
  simp [World.setCell, Array.getElem?_modify, h]
theorem Blk.far (h : Blk w g t cs) {p : Addr} (hp : g ≠ p.block) (u : Value) : Blk (w.setCell p u) g t cs := (Below.heap_setCell w p u g hp).trans h
theorem Blk.below {B : Nat} (h : Blk w g t cs) (hb : Below B w w') (hg : g < B) : Blk w' g t cs := (hb.block g hg).trans h
theorem Blk.grown {row : Option Nat} (h : Blk w g t cs) (hb : w.grownBy w' row) (hg : some g ≠ row) : Blk w' g t cs := (hb.block g h.lt hg).trans h
theorem Blk.ne_ {g' : Nat} {t' : TypeId} {cs' : Array Value} (h : Blk w g t cs) (h' : Blk w g' t' cs') (hne : t ≠ t') : g ≠ g' := by
  rintro rfl
  unfold Blk at h h'
  rw [h] at h'
  injection h' with h'
  injection h' with _ ht
  exact hne ht
theorem Blk.of_own {base n cap : Nat} {e : TypeId} {size : Nat} {xs : List Value} (h : w.ownsRow base e size (.slice (some ⟨g, 0, none⟩) n cap) n xs) (hc : n = cap) : Blk w g e xs.toArray := by
  obtain ⟨_, h2⟩ := h
  rcases h2 with ⟨h3, _⟩ | ⟨g', cap', cur, hv, _, hh, _, _, hs, ht⟩
  · cases h3
  · injection hv with e1 e2 e3
    injection e1 with e1
    injection e1 with e1
    subst e1; subst e3; subst hc
    rw [List.take_of_length_le (by simp [hs])] at ht
    unfold Blk; rw [hh, ← ht]
end


theorem own_blk_ne {w : World} {base n : Nat} {e : TypeId} {size : Nat} {v : Value} {xs : List Value} {g : Nat} {t : TypeId} {cs : Array Value} (h : w.ownsRow base e size v n xs) (hg : Blk w g t cs) (hne : e ≠ t) : v.ownBlock = none ∨ v.ownBlock ≠ some g := by
  rcases h.2 with ⟨rfl, _⟩ | ⟨g', cap, cur, rfl, _, hh, _⟩
  · exact .inl rfl
  · right
    intro he
    have : g' = g := by simpa [Value.ownBlock] using he
    subst this
    exact Blk.ne_ (t := e) hh hg hne rfl
theorem own_own_ne {w : World} {b b' : Nat} {e e' : TypeId} {s s' n n' : Nat} {v v' : Value} {xs xs' : List Value} (h : w.ownsRow b e s v n xs) (h' : w.ownsRow b' e' s' v' n' xs') (hne : e ≠ e') : v.ownBlock = none ∨ v.ownBlock ≠ v'.ownBlock := by
  rcases h'.2 with ⟨rfl, _⟩ | ⟨g', cap, cur, rfl, _, hh, _⟩
  · rcases h.2 with ⟨rfl, _⟩ | ⟨g, cap, cur, rfl, _⟩
    · exact .inl rfl
    · exact .inr (by simp [Value.ownBlock])
  · exact own_blk_ne h hh hne
/-- what is owned lives on while a cell of another block is written -/
theorem own_set {w : World} {base n : Nat} {e : TypeId} {size : Nat} {v : Value} {xs : List Value} (h : w.ownsRow base e size v n xs) {p : Addr} (hne : v.ownBlock = none ∨ v.ownBlock ≠ some p.block) (u : Value) : (w.setCell p u).ownsRow base e size v n xs :=
  h.kept (row := some p.block) ⟨rfl, rfl, rfl, by simp [World.setCell], fun k _ hk => Below.heap_setCell _ _ _ _ (by intro e; exact hk (by rw [e]))⟩ hne
theorem own_below {w w' : World} {base n : Nat} {e : TypeId} {size : Nat} {v : Value} {xs : List Value} (h : w.ownsRow base e size v n xs) (hb : Below w.heap.size w w') : w'.ownsRow base e size v n xs :=
  h.kept (row := none) ⟨hb.os, hb.tape, hb.output, hb.size, fun i hi _ => hb.block i hi⟩ (by cases v.ownBlock <;> simp)

/-! ### a frame: below block B nothing has turned but what is on the list S -/
structure Fr (B : Nat) (S : List Nat) (w w' : World) : Prop where
  os : w'.os = w.os
  tape : w'.tape = w.tape
  output : w'.output = w.output
  size : w.heap.size ≤ w'.heap.size
  block : ∀ k, k < B → k ∉ S → w'.heap[k]? = w.heap[k]?
section
variable {B : Nat} {S : List Nat} {a w w' : World}
theorem Fr.refl (B : Nat) (S : List Nat) (w : World) : Fr B S w w := ⟨rfl, rfl, rfl, Nat.le_refl _, fun _ _ _ => rfl⟩
theorem Fr.trans (h : Fr B S a w) (k : Fr B S w w') : Fr B S a w' :=
  ⟨k.os.trans h.os, k.tape.trans h.tape, k.output.trans h.output, Nat.le_trans h.size k.size, fun i hi hs => (k.block i hi hs).trans (h.block i hi hs)⟩
theorem Fr.mono {B' : Nat} {S' : List Nat} (h : Fr B S w w') (hB : B' ≤ B) (hS : ∀ k, k < B' → k ∈ S → k ∈ S') : Fr B' S' w w' :=
  ⟨h.os, h.tape, h.output, h.size, fun k hk hs => h.block k (by omega) (fun hm => hs (hS k hk hm))⟩
theorem Fr.alloc (h : Fr B S a w) (hB : B ≤ w.heap.size) (o : Obj) : Fr B S a (w.alloc o) :=
  h.trans ⟨rfl, rfl, rfl, by simp, fun k hk _ => Below.heap_alloc _ _ _ (by omega)⟩
theorem Fr.setCell (h : Fr B S a w) {p : Addr} (hp : B ≤ p.block ∨ p.block ∈ S) (u : Value) : Fr B S a (w.setCell p u) :=
  h.trans ⟨rfl, rfl, rfl, by simp [World.setCell], fun k hk hs => Below.heap_setCell _ _ _ _ (fun e => by subst e; exact hp.elim (fun h => by omega) (fun h => hs h))⟩
theorem Fr.drew (h : Fr B S a w) : Fr B S a w.drew := ⟨h.os, h.tape, h.output, h.size, h.block⟩
theorem Fr.drewN (h : Fr B S a w) (n : Nat) : Fr B S a (w.drewN n) := ⟨h.os, h.tape, h.output, h.size, h.block⟩
theorem Fr.grown (h : Fr B S a w) {row : Option Nat} (hg : w.grownBy w' row) (hB : B ≤ w.heap.size) (hr : ∀ k, row = some k → B ≤ k ∨ k ∈ S) : Fr B S a w' :=
  h.trans ⟨hg.os, hg.tape, hg.output, hg.size, fun k hk hs => hg.block k (by omega) (fun e => (hr k e.symm).elim (fun h => by omega) (fun h => hs h))⟩
theorem Fr.below (h : Fr B S a w) (hb : Below B w w') : Fr B S a w' := h.trans ⟨hb.os, hb.tape, hb.output, hb.size, fun k hk _ => hb.block k hk⟩
theorem Fr.of_below (hb : Below B w w') : Fr B S w w' := (Fr.refl _ _ _).below hb
theorem Fr.to_below (h : Fr B S w w') (hS : ∀ k ∈ S, B ≤ k) : Below B w w' := ⟨h.os, h.tape, h.output, h.size, fun k hk => h.block k hk (fun hm => by have := hS k hm; omega)⟩
theorem Blk.fr {g : Nat} {t : TypeId} {cs : Array Value} (h : Blk w g t cs) (hf : Fr B S w w') (hg : g < B) (hs : g ∉ S) : Blk w' g t cs := (hf.block g hg hs).trans h
theorem Rd.fr {B0 size n : Nat} {A : Option Addr} {xs : List Value} (h : Rd w B0 size A n xs) (hf : Fr B S w w') (hB : B0 ≤ B) (hs : ∀ k ∈ S, B0 ≤ k) : Rd w' B0 size A n xs :=
  h.keep fun p hp => World.cell?_of_block (hf.block p.block (by omega) (fun hm => by have := hs _ hm; omega))
end

theorem splice0_take {α : Type} (Z X : List α) : (splice Z 0 X).take X.length = X := by simp [splice]
theorem Blk.set5 {w : World} {g : Nat} {t : TypeId} {a b c d e : Value} (h : Blk w g t #[a, b, c, d, e]) (x0 x1 x2 x3 x4 : Value) :
    Blk (((((w.setCell ⟨g, 0, none⟩ x0).setCell ⟨g, 1, none⟩ x1).setCell ⟨g, 2, none⟩ x2).setCell ⟨g, 3, none⟩ x3).setCell ⟨g, 4, none⟩ x4) g t #[x0, x1, x2, x3, x4] := by
  have := ((((h.set_ 0 x0).set_ 1 x1).set_ 2 x2).set_ 3 x3).set_ 4 x4
  simpa using this
theorem Blk.far5 {w : World} {g g' : Nat} {t : TypeId} {cs : Array Value} (h : Blk w g t cs) (hne : g ≠ g') (x0 x1 x2 x3 x4 : Value) :
    Blk (((((w.setCell ⟨g', 0, none⟩ x0).setCell ⟨g', 1, none⟩ x1).setCell ⟨g', 2, none⟩ x2).setCell ⟨g', 3, none⟩ x3).setCell ⟨g', 4, none⟩ x4) g t cs := by
  iterate 5 (refine Blk.far ?_ (by exact hne) _)
  exact h
theorem below_set5 {B : Nat} {a w : World} (h : Below B a w) {g : Nat} (hg : B ≤ g) (x0 x1 x2 x3 x4 : Value) :
    Below B a (((((w.setCell ⟨g, 0, none⟩ x0).setCell ⟨g, 1, none⟩ x1).setCell ⟨g, 2, none⟩ x2).setCell ⟨g, 3, none⟩ x3).setCell ⟨g, 4, none⟩ x4) := by
  iterate 5 (refine Below.setCell ?_ (by exact hg) _)
  exact h
theorem own_cap {w : World} {base n : Nat} {e : TypeId} {size : Nat} {A : Option Addr} {c : Nat} {xs : List Value} (h : w.ownsRow base e size (.slice A n c) n xs) : n ≤ c := by
  rcases h.2 with ⟨h1, rfl⟩ | ⟨g, cap, cur, hv, _, _, h1, _⟩
  · omega
  · injection hv with _ _ e; omega
theorem own_of_blk {w : World} {g n cap size base : Nat} {e : TypeId} {cur : Array Value} (h : Blk w g e cur) (hb : base ≤ g) (hs : cur.size = cap * size) (hn : n ≤ cap) (hm : cap ≤ maxLen) :
    w.ownsRow base e size (.slice (some ⟨g, 0, none⟩) n cap) n (cur.toList.take (n * size)) :=
  ⟨by rw [List.length_take, Array.length_toList, hs]; exact Nat.min_eq_left (Nat.mul_le_mul_right _ hn), .inr ⟨g, cap, cur, rfl, hb, h, hn, hm, hs, rfl⟩⟩

/-- how an ending is said, so that the walk doesn't look into it -/
structure Ret (v : Value) (R : World → Prop) (e : Ending) (w' : World) : Prop where
  he : e = .returned v
  hr : R w'
end Go.Proofs.YtacmgogobjpmcaaGreat
