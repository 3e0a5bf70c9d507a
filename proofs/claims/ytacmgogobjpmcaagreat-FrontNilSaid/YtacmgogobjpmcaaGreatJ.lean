/- Contracts: searches by a closure, over slices of slices; settings (package walk). -/
import Derived.Test.YtacmgogobjpmcaaGreatB
namespace Go.Proofs.YtacmgogobjpmcaaGreat
open Go.RowKit

/-- the first place below n where p holds -/
def idxN (p : Nat → Bool) (n : Nat) : Int := idxI p (List.range n)
theorem idxN_at {p : Nat → Bool} {n k : Nat} (hk : k < n) (hp : p k = true) (hq : ∀ j, j < k → p j = false) : idxN p n = k := by
  refine idxI_at (s := k) (List.getElem?_range hk) hp ?_
  intro x hx
  rw [List.take_range] at hx
  exact hq x (by have := List.mem_range.1 hx; omega)
theorem idxN_none {p : Nat → Bool} {n : Nat} (hq : ∀ j, j < n → p j = false) : idxN p n = -1 := idxI_none fun x hx => hq x (List.mem_range.1 hx)

theorem IndexB_any (g : Nat) (cap : Array Value) (p : Nat → Bool) (hg : Enters Tryz.prog g) (A : Option Addr) (n c : Nat) (vs : List Value) (w : World) (h : Rd w w.heap.size 1 A n vs)
    (H : ∀ (k : Nat) (v : Value) (W : World), vs[k]? = some v → Below w.heap.size w W → Calls Tryz.prog g (#[v] ++ cap) W fun e W' => e = .returned (.bool (p k)) ∧ Below W.heap.size W W') :
    Calls Tryz.prog 172 #[.slice A n c, .func (.func g) #[] cap] w fun e w' => e = .returned (.int .i64 (idxN p n)) ∧ Below w.heap.size w w' := by
  have HH := Lib.hid H; clear H
  unfold Enters at hg
  have hmx := h.max; unfold maxLen at hmx
  go_enter Tryz.func172, Tryz.ntmps172
  go_wp2
  go_loopw [5, 8] (fun _ i wr => ∃ k : Nat, k ≤ n ∧ i = .int .i64 k ∧ Hid ((∀ j, j < k → p j = false) ∧ Below w.heap.size w wr)) (fun _ i _ => n - (intOf i).toNat)
  case atStart => exact ⟨0, Nat.zero_le _, rfl, fun j hj => by omega, Below.refl _ _⟩
  case round =>
    obtain ⟨k, hk, rfl, hq⟩ := hrel
    by_cases hlt : k < n
    · obtain ⟨ad, v, rfl, hb, hx, hc⟩ := (h.below hq.out.2).at_ hlt
      have HX := Lib.hid hx
      clear hx
      go_wp2_with fail
      refine (HH.out k v _ HX.out hq.out.2).mono ?_
      rintro e w1 ⟨rfl, hb1⟩
      have HB1 := Lib.hid (hq.out.2.trans (hb1.mono hq.out.2.size)); clear hb1
      by_cases hp : p k = true
      · go_wp2
        go_ret
        exact ⟨by rw [idxN_at hlt hp hq.out.1]; rfl, HB1.out⟩
      · have hp' : p k = false := by simpa using hp
        clear hp
        go_wp2
        go_roundw
        case rel => exact ⟨k + 1, by omega, by go_num, fun j hj => by rcases Nat.lt_succ_iff_lt_or_eq.1 hj with h | h; exact hq.out.1 j h; exact h ▸ hp', HB1.out⟩
        case measure => simp [intOf]; omega
    · go_wp2
      go_ret
      have : k = n := by omega
      subst this
      exact ⟨by rw [idxN_none hq.out.1]; rfl, hq.out.2⟩
theorem ContainsB_any (g : Nat) (cap : Array Value) (p : Nat → Bool) (hg : Enters Tryz.prog g) (A : Option Addr) (n c : Nat) (vs : List Value) (w : World) (h : Rd w w.heap.size 1 A n vs)
    (H : ∀ (k : Nat) (v : Value) (W : World), vs[k]? = some v → Below w.heap.size w W → Calls Tryz.prog g (#[v] ++ cap) W fun e W' => e = .returned (.bool (p k)) ∧ Below W.heap.size W W') :
    Calls Tryz.prog 95 #[.slice A n c, .func (.func g) #[] cap] w fun e w' => e = .returned (.bool ((List.range n).any p)) ∧ Below w.heap.size w w' := by
  have HH := Lib.hid H; clear H
  rw [← idxI_ge]
  go_enter Tryz.func95, Tryz.ntmps95
  go_wp2_with fail
  refine (IndexB_any g cap p hg A n c vs w h HH.out).mono ?_
  rintro e w' ⟨rfl, hb⟩
  have HB := Lib.hid hb; clear hb
  go_wp2
  go_ret
  exact ⟨rfl, HB.out⟩
theorem IndexSS_any (g : Nat) (cap : Array Value) (p : Nat → Bool) (hg : Enters Tryz.prog g) (A : Option Addr) (n c : Nat) (vs : List Value) (w : World) (h : Rd w w.heap.size 1 A n vs)
    (H : ∀ (k : Nat) (v : Value) (W : World), vs[k]? = some v → Below w.heap.size w W → Calls Tryz.prog g (#[v] ++ cap) W fun e W' => e = .returned (.bool (p k)) ∧ Below W.heap.size W W') :
    Calls Tryz.prog 173 #[.slice A n c, .func (.func g) #[] cap] w fun e w' => e = .returned (.int .i64 (idxN p n)) ∧ Below w.heap.size w w' := by
  have HH := Lib.hid H; clear H
  unfold Enters at hg
  have hmx := h.max; unfold maxLen at hmx
  go_enter Tryz.func173, Tryz.ntmps173
  go_wp2
  go_loopw [5, 8] (fun _ i wr => ∃ k : Nat, k ≤ n ∧ i = .int .i64 k ∧ Hid ((∀ j, j < k → p j = false) ∧ Below w.heap.size w wr)) (fun _ i _ => n - (intOf i).toNat)
  case atStart => exact ⟨0, Nat.zero_le _, rfl, fun j hj => by omega, Below.refl _ _⟩
  case round =>
    obtain ⟨k, hk, rfl, hq⟩ := hrel
    by_cases hlt : k < n
    · obtain ⟨ad, v, rfl, hb, hx, hc⟩ := (h.below hq.out.2).at_ hlt
      have HX := Lib.hid hx
      clear hx
      go_wp2_with fail
      refine (HH.out k v _ HX.out hq.out.2).mono ?_
      rintro e w1 ⟨rfl, hb1⟩
      have HB1 := Lib.hid (hq.out.2.trans (hb1.mono hq.out.2.size)); clear hb1
      by_cases hp : p k = true
      · go_wp2
        go_ret
        exact ⟨by rw [idxN_at hlt hp hq.out.1]; rfl, HB1.out⟩
      · have hp' : p k = false := by simpa using hp
        clear hp
        go_wp2
        go_roundw
        case rel => exact ⟨k + 1, by omega, by go_num, fun j hj => by rcases Nat.lt_succ_iff_lt_or_eq.1 hj with h | h; exact hq.out.1 j h; exact h ▸ hp', HB1.out⟩
        case measure => simp [intOf]; omega
    · go_wp2
      go_ret
      have : k = n := by omega
      subst this
      exact ⟨by rw [idxN_none hq.out.1]; rfl, hq.out.2⟩
theorem ContainsSS_any (g : Nat) (cap : Array Value) (p : Nat → Bool) (hg : Enters Tryz.prog g) (A : Option Addr) (n c : Nat) (vs : List Value) (w : World) (h : Rd w w.heap.size 1 A n vs)
    (H : ∀ (k : Nat) (v : Value) (W : World), vs[k]? = some v → Below w.heap.size w W → Calls Tryz.prog g (#[v] ++ cap) W fun e W' => e = .returned (.bool (p k)) ∧ Below W.heap.size W W') :
    Calls Tryz.prog 97 #[.slice A n c, .func (.func g) #[] cap] w fun e w' => e = .returned (.bool ((List.range n).any p)) ∧ Below w.heap.size w w' := by
  have HH := Lib.hid H; clear H
  rw [← idxI_ge]
  go_enter Tryz.func97, Tryz.ntmps97
  go_wp2_with fail
  refine (IndexSS_any g cap p hg A n c vs w h HH.out).mono ?_
  rintro e w' ⟨rfl, hb⟩
  have HB := Lib.hid hb; clear hb
  go_wp2
  go_ret
  exact ⟨rfl, HB.out⟩
end Go.Proofs.YtacmgogobjpmcaaGreat
