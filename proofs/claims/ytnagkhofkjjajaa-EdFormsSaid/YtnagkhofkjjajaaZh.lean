/- A law's row out of its contract: what comes in. Lemmas, no statement of the claim. -/
import Derived.Test.YtnagkhofkjjajaaZg
import Derived.Test.YtnagkhofkjjajaaKs
set_option linter.unusedVariables false
set_option linter.unusedSimpArgs false
namespace Go.Proofs.Ytnagkhofkjjajaa
open Go.RowKit
def XT0 : XS := ⟨[], fun _ => True⟩
/-- memory in which all is only read -/
structure Ro (ν : NV) (n : Nat) (H : List (Nat × Nat × HC)) (W : World) : Prop where
  mem : Mem ν n W XT0 H W
  ro : ∀ d y, hget H d = some y → y.wt = false
theorem Ro.nil (W : World) : Ro ν0 0 [] W :=
  ⟨⟨Keep.refl _ _, (fun c h hc => by cases hc), (fun c h hc => by cases hc), (fun c h hc => by cases hc), (fun c h hc => by cases hc), (fun c c' h h' hc => by cases hc), (fun c h hc => by cases hc)⟩, fun d y h => by cases h⟩
/-- a row that came in -/
theorem Ro.row {ν : NV} {n : Nat} {H : List (Nat × Nat × HC)} {W : World} (M : Ro ν n H W) {a : Sh} {A : Option Addr} {c : Nat} {xs : List a.T} (hR : Rd W A (rowC a xs)) (hall : ∀ x, x ∈ xs → okS a x) (hc : xs.length ≤ c) (hm : c ≤ maxLen) (hf : 0 < c → flat A) :
    ∃ ν', Agr n ν ν' ∧ Ro ν' (n + 1) ((n, 0, .ro a ⟨false, xs.length⟩ xs) :: H) W ∧ SV.ok ν' (n + 1) (.sl n [] n ⟨true, 0⟩ ⟨false, xs.length⟩ true false) ∧ cv ν' (.sl n [] n ⟨true, 0⟩ ⟨false, xs.length⟩ true false) = .slice A xs.length c := by
  obtain ⟨DD, h1, h2⟩ : ∃ DD : List Nat, (rowC a xs ≠ [] → ∀ b, oblk A = some b → b ∈ DD) ∧ ∀ b, b ∈ DD → b < W.heap.size := by
    by_cases hz : rowC a xs = []
    · exact ⟨[], fun h => absurd hz h, fun b hb => by cases hb⟩
    · have hs := hR.some_ hz
      refine ⟨[ablk A], fun _ b hb => ?_, fun b hb => ?_⟩
      · rw [hs] at hb; cases hb; exact List.mem_singleton.2 rfl
      · rw [List.mem_singleton.1 hb]
        cases hrow : rowC a xs with
        | nil => exact absurd hrow hz
        | cons v r =>
          have := hR.cells 0 v (by rw [hrow]; rfl)
          exact World.block_lt_of_cell? W _ this
  obtain ⟨ν2, g1, g2, g3, g4, g5⟩ := piece_new (s := 0) (h := .ro a ⟨false, xs.length⟩ xs) (A := A) (cap := c) (m := xs.length) (DD := DD) (l := a.lay) (lo' := false) M.mem
    (fun ν2 h => ⟨⟨rfl, hall, by rw [h], by rw [h], by rw [h]; exact hc, by rw [h]; exact hm, by rw [h]; exact hf⟩, by rw [h]; exact hR, by rw [h]; exact h1⟩)
    h2 (by intro h; cases h) (fun d y hd hy => by rw [M.ro d y hd] at hy; cases hy) (fun _ _ _ => .inr (.inr trivial)) hc hm hf
  refine ⟨ν2, g1, ⟨g3, fun d y hd => ?_⟩, g4, g5⟩
  rw [hget_cons] at hd
  split at hd
  · cases hd; rfl
  · exact M.ro d y hd
/-- a law that answers yes -/
theorem law_calls {P : Program} {g : Nat} {c : Ct} (h : CtOk P g c) (hcall : callable P g) {args : List SV} {n : Nat} {ν : NV} {H : List (Nat × Nat × HC)} {W : World} (M : Ro ν n H W) (ha : ∀ v, v ∈ args → v.ok ν n) {x : Tup (lvs c.ps)} (hx : extA H c.ps args = some x)
    (hrs : c.rs = [.v .B]) {r : Tup (lvs c.rs)} (hF : c.F x = some r) (hr : (embA n c.rs r H n).vs = [.B true]) {vs : List Value} (hv : args.map (cv ν) = vs) :
    Calls P g vs.toArray W (Ret fun v w' => v = .bool true ∧ Ex W w') := by
  subst hv
  rcases h args n H x r hx hF ν W XT0 W ha M.mem with ⟨_, h2⟩ | ⟨v, w', h2, _⟩
  · refine h2.mono fun e w' hq => ?_
    obtain ⟨u, rfl, ν', _, h3, _, h4⟩ := hq
    refine ⟨u, rfl, ?_, h4.keep.ex⟩
    rw [h3, hr]; rfl
  · rw [hcall] at h2; cases h2
theorem row_in2 {w : World} {a : Option Addr} {len cap : Nat} {zs : List Int} (hlc : len ≤ cap) (hzs : zs.length = cap) {x : Addr} (hx : a = some x) (hcell : ∀ i, i < zs.length → w.cell? (x.add i) = some (.int .u8 (zs.getD i 0)))
    (hwz : ∀ n ∈ zs, (Lit.int .u8 n).wf = true) : ∃ xs : List Nat, xs.length = len ∧ Rd w a (vs .u8 xs) ∧ By xs ∧ (0 < cap → flat a) := by
  obtain ⟨xs, h1, h2, h3⟩ := row_in hlc hzs hx hcell hwz
  refine ⟨xs, h1, h2, h3, fun h0 => ?_⟩
  subst hx
  have hsp : x.spot = none := by
    have := hcell 0 (by omega)
    simpa [Addr.add] using World.cell?_spot this
  obtain ⟨b, off, sp⟩ := x
  subst hsp
  rfl
end Go.Proofs.Ytnagkhofkjjajaa
