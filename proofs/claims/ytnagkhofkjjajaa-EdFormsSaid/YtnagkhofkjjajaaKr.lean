/- A law's row: a slice of bytes that came in, as a list of naturals; equal strings: lemmas. -/
import Derived.Test.YtnagkhofkjjajaaKf
import Derived.Test.YtnagkhofkjjajaaNc
import Derived.OpenShut
import Derived.Below
set_option linter.unusedVariables false
set_option linter.unusedSimpArgs false
namespace Go.Proofs.Ytnagkhofkjjajaa
open Go.RowKit

theorem str_eqT {xs ys : List Nat} (h : xs = ys) : ((str xs).toList == (str ys).toList) = true := by subst h; simp
theorem str_eqF {xs ys : List Nat} (hx : By xs) (hy : By ys) (h : xs ≠ ys) : ((str xs).toList == (str ys).toList) = false := by rw [str_beq hx hy]; simpa using h
theorem by_dig (n : Nat) : By (dig 256 n) := dig_lt (b := 256) (by decide) n
theorem byL {xs : List Nat} (h : xs.all (fun x => Nat.blt x 256) = true) : By xs := fun x hx => by have := List.all_eq_true.1 h x hx; simpa using this
theorem nvd (n : Nat) : nv 256 (dig 256 n) = n := nv_dig (by decide) n
theorem dig_congr {x y : Nat} (h : x = y) : dig 256 x = dig 256 y := congrArg _ h
theorem len0 (x : Nat) (h : x = 0) : (dig 256 x).length = 0 := by subst h; rfl
theorem len0' (x : Nat) (h : (dig 256 x).length = 0) : x = 0 := ((dig_spec (b := 256) (by decide) x).2.2.2).1 (List.eq_nil_of_length_eq_zero h)
/-- no longer than that many bytes -/
theorem dlen {x k : Nat} (h : x < 256 ^ k) : (dig 256 x).length ≤ k := dig_length (by decide) h
theorem nlen {xs : List Nat} {k : Nat} (h : By xs) (hl : xs.length ≤ k) : nv 256 xs < 256 ^ k := Nat.lt_of_lt_of_le (nv_lt xs h) (Nat.pow_le_pow_right (by decide) hl)
theorem add_lt {x y a b m : Nat} (hx : x < 256 ^ a) (hy : y < 256 ^ b) (ha : a ≤ m) (hb : b ≤ m) : x + y < 256 ^ (m + 1) := by
  have h1 := Nat.pow_le_pow_right (n := 256) (by decide) ha
  have h2 := Nat.pow_le_pow_right (n := 256) (by decide) hb
  rw [Nat.pow_succ]; omega
theorem mul_lt {x y a b : Nat} (hx : x < 256 ^ a) (hy : y < 256 ^ b) : x * y < 256 ^ (a + b) := by
  rw [Nat.pow_add]
  exact Nat.mul_lt_mul_of_lt_of_le hx (Nat.le_of_lt hy) (Nat.lt_of_le_of_lt (Nat.zero_le _) hy)
theorem sub_lt {x y a : Nat} (hx : x < 256 ^ a) : x - y < 256 ^ a := Nat.lt_of_le_of_lt (Nat.sub_le _ _) hx
theorem mod_lt {x y a : Nat} (hx : x < 256 ^ a) : x % y < 256 ^ a := Nat.lt_of_le_of_lt (Nat.mod_le _ _) hx
theorem row_in {w : World} {a : Option Addr} {len cap : Nat} {zs : List Int} (hlc : len ≤ cap) (hzs : zs.length = cap) {x : Addr} (hx : a = some x) (hcell : ∀ i, i < zs.length → w.cell? (x.add i) = some (.int .u8 (zs.getD i 0)))
    (hwz : ∀ n ∈ zs, (Lit.int .u8 n).wf = true) : ∃ xs : List Nat, xs.length = len ∧ Rd w a (vs .u8 xs) ∧ By xs := by
  have hb : ∀ n ∈ zs, 0 ≤ n ∧ n < 256 := fun n hn => by
    have := hwz n hn
    simp [Lit.wf, IntKind.min, IntKind.max, IntKind.signed, IntKind.bits] at this
    omega
  refine ⟨(zs.take len).map Int.toNat, by simp; omega, ?_, ?_⟩
  · subst hx
    by_cases h0 : len = 0
    · subst h0; simpa [vs] using Rd.nil w (some x)
    · have hsp : x.spot = none := by
        have := hcell 0 (by omega)
        simpa [Addr.add] using World.cell?_spot this
      obtain ⟨b, off, sp⟩ := x
      subst hsp
      refine ⟨fun _ => rfl, fun j v hj => ?_⟩
      simp only [vs, List.getElem?_map, List.getElem?_take] at hj
      split at hj
      · rename_i hjl
        have hjz : j < zs.length := by omega
        have h1 := hcell j hjz
        rw [List.getElem?_eq_getElem hjz] at hj
        simp at hj
        have h2 := hb zs[j] (List.getElem_mem hjz)
        subst hj
        have e : ((zs[j].toNat : Nat) : Int) = zs.getD j 0 := by rw [List.getD_eq_getElem?_getD, List.getElem?_eq_getElem hjz, Option.getD_some]; omega
        show w.cell? ⟨b, off + j, none⟩ = _
        simp only [List.getD_eq_getElem?_getD, List.getElem?_eq_getElem hjz, Option.getD_some] at h1
        rw [show max zs[j] 0 = zs[j] by omega]
        rw [add_flat] at h1; exact h1
      · cases hj
  · intro y hy
    simp only [List.mem_map] at hy
    obtain ⟨n, hn, rfl⟩ := hy
    have := hb n (List.mem_of_mem_take hn)
    omega
end Go.Proofs.Ytnagkhofkjjajaa
