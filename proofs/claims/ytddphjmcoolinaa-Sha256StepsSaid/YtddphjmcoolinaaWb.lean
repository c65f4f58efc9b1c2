/- Roots of primes by layer 13's program and reference, and its constants. Lemmas, no statement of the claim. -/
import Derived.Test.YtddphjmcoolinaaWa
set_option linter.unusedVariables false
set_option linter.unusedSimpArgs false
set_option maxRecDepth 10000
namespace Go.Proofs.Ytddphjmcoolinaa
theorem P_Mul64 {x y : Nat} (hx : x < 18446744073709551616) (hy : y < 18446744073709551616) : F_bits_Mul64 x y = some (x * y / 18446744073709551616, x * y % 18446744073709551616) := by
  unfold F_bits_Mul64
  exact congrArg (fun z => some (z, x * y % 18446744073709551616)) (mul64_hi hx hy)
/-- the root, so many bits to go -/
def gr (T k : Nat) : Nat → Nat → Nat
  | 0, X => X
  | b + 1, X => gr T k b (if (X + 2 ^ b) ^ k ≤ T then X + 2 ^ b else X)
theorem gr_spec {T k : Nat} : ∀ (b X : Nat), X ^ k ≤ T → T < (X + 2 ^ b) ^ k → gr T k b X ^ k ≤ T ∧ T < (gr T k b X + 1) ^ k := by
  intro b
  induction b with
  | zero => intro X h1 h2; exact ⟨h1, h2⟩
  | succ b ih =>
    intro X h1 h2
    unfold gr
    split
    · rename_i h
      refine ih _ h ?_
      rw [Nat.add_assoc, ← Nat.mul_two, ← Nat.pow_succ]; exact h2
    · rename_i h
      exact ih X h1 (by omega)
theorem root_one {T k R S : Nat} (h1 : R ^ k ≤ T) (h2 : T < (R + 1) ^ k) (h3 : S ^ k ≤ T) (h4 : T < (S + 1) ^ k) : R = S := by
  rcases Nat.lt_trichotomy R S with h | h | h
  · have := Nat.pow_le_pow_left (show R + 1 ≤ S from h) k; omega
  · exact h
  · have := Nat.pow_le_pow_left (show S + 1 ≤ R from h) k; omega
theorem gr_one {T k b c : Nat} (hk : 1 ≤ k) (hb : T < (2 ^ b) ^ k) (hc : T < (2 ^ c) ^ k) : gr T k b 0 = gr T k c 0 := by
  have h0 : 0 ^ k ≤ T := by rw [Nat.zero_pow (by omega)]; exact Nat.zero_le _
  obtain ⟨a1, a2⟩ := gr_spec b 0 h0 (by rw [Nat.zero_add]; exact hb)
  obtain ⟨b1, b2⟩ := gr_spec c 0 h0 (by rw [Nat.zero_add]; exact hc)
  exact root_one a1 a2 b1 b2
theorem or_add {a n : Nat} (h : 2 ^ (n + 1) ∣ a) : a ||| 2 ^ n = a + 2 ^ n := by
  obtain ⟨q, rfl⟩ := h
  exact (Nat.two_pow_add_eq_or_of_lt (Nat.pow_lt_pow_right (by decide) (Nat.lt_succ_self n)) q).symm
theorem half_pow (b : Nat) : 2 ^ (b + 1) / 2 = 2 ^ b := by rw [Nat.pow_succ]; exact Nat.mul_div_cancel _ (by decide)
theorem gr_step {X b c : Nat} (h : 2 ^ (b + 1) ∣ X) : 2 ^ b ∣ X ∧ 2 ^ b ∣ X + 2 ^ b := by
  have h1 : 2 ^ b ∣ X := Nat.dvd_trans ⟨2, Nat.pow_succ ..⟩ h
  exact ⟨h1, Nat.dvd_add h1 (Nat.dvd_refl _)⟩
/-! ### The program's roots -/
theorem P_square1 {p : Nat} (hp : p < 18446744073709551616) : ∀ b X, 2 ^ b ∣ X → X + 2 ^ b ≤ 137438953472 → run (F_sha256_square_l1 (p : Int)) (X, 2 ^ b / 2) = some (gr (18446744073709551616 * p) 2 b X) := by
  intro b
  induction b with
  | zero =>
    intro X _ _
    refine run_exit ?_
    unfold F_sha256_square_l1
    dsimp only
    rw [if_neg (by decide)]
    rfl
  | succ b ih =>
    intro X hd hX
    rw [half_pow]
    have hpos : 0 < 2 ^ b := Nat.pow_pos (by decide)
    have h2 : 2 ^ (b + 1) = 2 ^ b * 2 := Nat.pow_succ ..
    obtain ⟨d1, d2⟩ := gr_step (c := 0) hd
    have hx : X + 2 ^ b < 18446744073709551616 := by omega
    have ep : Int.toNat (((p : Nat) : Int) % ((18446744073709551616 : Nat) : Int)) = p := by omega
    have e : F_sha256_square_l1 (p : Int) (X, 2 ^ b) = some (.inl (if (X + 2 ^ b) ^ 2 ≤ 18446744073709551616 * p then X + 2 ^ b else X, 2 ^ b / 2)) := by
      unfold F_sha256_square_l1
      dsimp only
      rw [if_pos hpos, or_add hd, P_Mul64 hx hx, bnd_mk]
      try dsimp only
      rw [ep, show (2 : Nat) ^ 1 = 2 from rfl, Nat.pow_two]
      generalize (X + 2 ^ b) * (X + 2 ^ b) = Y
      by_cases q1 : Y / 18446744073709551616 < p
      · rw [if_pos q1, bnd_mk, if_pos (by omega)]
      · rw [if_neg q1]
        by_cases q2 : Y / 18446744073709551616 = p
        · rw [if_pos q2]
          by_cases q3 : Y % 18446744073709551616 = 0
          · rw [if_pos q3, bnd_mk, if_pos (by omega)]
          · rw [if_neg q3, bnd_mk, if_neg (by omega)]
        · rw [if_neg q2, bnd_mk, if_neg (by omega)]
    refine run_next e ?_
    unfold gr
    split
    · exact ih _ d2 (by omega)
    · exact ih _ d1 (by omega)
theorem cube_split {x h l a b c d : Nat} {B : Nat} (e1 : x * x = h * B + l) (e2 : h * x = a * B + b) (e3 : l * x = c * B + d) : x * x * x = (a * B + b + c) * B + d := by
  rw [e1, Nat.add_mul, Nat.mul_assoc, Nat.mul_comm B x, ← Nat.mul_assoc, e2, e3, Nat.add_mul (a * B + b)]
  omega
theorem P_cube1 {p : Nat} (hp : p < 4096) : ∀ b X, 2 ^ b ∣ X → X + 2 ^ b ≤ 137438953472 → run (F_sha256_cube_l1 (p : Int)) (X, 2 ^ b / 2) = some (gr (79228162514264337593543950336 * p) 3 b X) := by
  intro b
  induction b with
  | zero =>
    intro X _ _
    refine run_exit ?_
    unfold F_sha256_cube_l1
    dsimp only
    rw [if_neg (by decide)]
    rfl
  | succ b ih =>
    intro X hd hX
    rw [half_pow]
    have hpos : 0 < 2 ^ b := Nat.pow_pos (by decide)
    have h2 : 2 ^ (b + 1) = 2 ^ b * 2 := Nat.pow_succ ..
    obtain ⟨d1, d2⟩ := gr_step (c := 0) hd
    have ep : Int.toNat (((p : Nat) : Int) % ((18446744073709551616 : Nat) : Int)) = p := by omega
    have e : F_sha256_cube_l1 (p : Int) (X, 2 ^ b) = some (.inl (if (X + 2 ^ b) ^ 3 ≤ 79228162514264337593543950336 * p then X + 2 ^ b else X, 2 ^ b / 2)) := by
      have hx : X + 2 ^ b ≤ 137438953472 := by omega
      unfold F_sha256_cube_l1 F_add64
      dsimp only
      rw [if_pos hpos, or_add hd]
      generalize X + 2 ^ b = x at hx
      rw [show (2 : Nat) ^ 1 = 2 from rfl, P_Mul64 (by omega) (by omega), bnd_mk]
      try dsimp only
      have hxx : x * x ≤ 137438953472 * 137438953472 := Nat.mul_le_mul hx hx
      have hh : x * x / 18446744073709551616 ≤ 1024 := by omega
      have hl : x * x % 18446744073709551616 < 18446744073709551616 := Nat.mod_lt _ (by decide)
      have s1 : x * x = x * x / 18446744073709551616 * 18446744073709551616 + x * x % 18446744073709551616 := by omega
      rw [P_Mul64 (by omega) (by omega), bnd_mk]
      try dsimp only
      rw [P_Mul64 hl (by omega), bnd_mk]
      try dsimp only
      generalize hH : x * x / 18446744073709551616 = H at *
      generalize hL : x * x % 18446744073709551616 = L at *
      have s2 : H * x = H * x / 18446744073709551616 * 18446744073709551616 + H * x % 18446744073709551616 := by omega
      have s3 : L * x = L * x / 18446744073709551616 * 18446744073709551616 + L * x % 18446744073709551616 := by omega
      have hHx : H * x ≤ 1024 * 137438953472 := Nat.mul_le_mul hh hx
      have hcube := cube_split s1 s2 s3
      have ha : H * x / 18446744073709551616 = 0 := by omega
      have hc : L * x / 18446744073709551616 ≤ 137438953472 := by
        have : L * x ≤ 18446744073709551616 * 137438953472 := Nat.mul_le_mul (by omega) hx
        omega
      have hd3 : L * x % 18446744073709551616 < 18446744073709551616 := Nat.mod_lt _ (by decide)
      rw [ha] at hcube ⊢
      generalize hB : H * x % 18446744073709551616 = B at *
      generalize hC : L * x / 18446744073709551616 = C at *
      generalize hD : L * x % 18446744073709551616 = D at *
      have hBl : B ≤ 1024 * 137438953472 := by omega
      rw [gd_pos (by decide), bnd_mk]
      try dsimp only
      have e3 : x ^ 3 = x * x * x := by rw [Nat.pow_succ, Nat.pow_two]
      have elim : (p <<< 32) % 18446744073709551616 = p * 4294967296 := by
        rw [Nat.shiftLeft_eq, show (2 : Nat) ^ 32 = 4294967296 from rfl]; omega
      rw [ep, e3, hcube]
      have hm : (B + C + 0) % 18446744073709551616 = B + C := by omega
      have hq : (B + C + 0) / 18446744073709551616 = 0 := by omega
      have hlim : ((p * (2 ^ 32)) % 18446744073709551616) = p * 4294967296 := by
        rw [show (2 : Nat) ^ 32 = 4294967296 from rfl]; omega
      rw [hm, hq]
      try rw [elim]
      try rw [hlim]
      rw [if_pos (show (0 + 0) % 18446744073709551616 = 0 by decide)]
      by_cases q1 : B + C < p * 4294967296
      · rw [if_pos q1, bnd_mk, if_pos rfl, if_pos (by omega)]
      · rw [if_neg q1]
        by_cases q2 : B + C = p * 4294967296
        · rw [if_pos q2, bnd_mk]
          by_cases q3 : D = 0
          · rw [decide_eq_true q3, if_pos rfl, if_pos (by omega)]
          · rw [decide_eq_false q3, if_neg (by decide), if_neg (by omega)]
        · rw [if_neg q2, bnd_mk, if_neg (by decide), if_neg (by omega)]
    refine run_next e ?_
    unfold gr
    split
    · exact ih _ d2 (by omega)
    · exact ih _ d1 (by omega)
def rootW (p k : Nat) : Nat := gr (65536 ^ (2 * k) * p) k 39 0 % 4294967296
theorem P_square {p : Nat} (hp : p < 1024) : F_sha256_square (p : Int) = some (rootW p 2) := by
  unfold F_sha256_square rootW
  have h := P_square1 (p := p) (by omega) 37 0 (Nat.dvd_zero _) (by decide)
  rw [show (2 : Nat) ^ 37 / 2 = 68719476736 from rfl] at h
  rw [h, bnd_mk, gr_one (c := 39) (by decide) (by rw [show ((2 : Nat) ^ 37) ^ 2 = 18889465931478580854784 from rfl]; omega) (by rw [show ((2 : Nat) ^ 39) ^ 2 = 302231454903657293676544 from rfl]; omega)]
theorem P_cube {p : Nat} (hp : p < 1024) : F_sha256_cube (p : Int) = some (rootW p 3) := by
  unfold F_sha256_cube rootW
  have h := P_cube1 (p := p) (by omega) 36 0 (Nat.dvd_zero _) (by decide)
  rw [show (2 : Nat) ^ 36 / 2 = 34359738368 from rfl] at h
  rw [h, bnd_mk, gr_one (c := 39) (by decide) (by rw [show ((2 : Nat) ^ 36) ^ 3 = 324518553658426726783156020576256 from rfl]; omega) (by rw [show ((2 : Nat) ^ 39) ^ 3 = 166153499473114484112975882535043072 from rfl]; omega)]
def K64 : List Nat := (prs 64).map fun p => rootW p 3
def S8 : List Nat := (prs 8).map fun p => rootW p 2
theorem P_Rounds : F_sha256_Rounds = some K64 := by
  unfold F_sha256_Rounds
  have hl := prs_len (n := 64) (by decide)
  rw [P_Primes (by decide), bnd_mk]
  dsimp only
  have := run_for (f := F_sha256_Rounds_l1 (cI (prs 64))) (x := ((prs 64).take 64).map (fun p => rootW p 3) ++ List.replicate (64 - 64) 0) (fun i => (i, ((prs 64).take i).map (fun p => rootW p 3) ++ List.replicate (64 - i) 0)) 64 (fun i hi => ?_) ?_
  · have e : (0, ((prs 64).take 0).map (fun p => rootW p 3) ++ List.replicate (64 - 0) 0) = (0, List.replicate 64 0) := rfl
    rw [e] at this
    rw [this, bnd_mk, List.take_of_length_le (by omega), Nat.sub_self]
    exact congrArg some (List.append_nil _)
  · unfold F_sha256_Rounds_l1
    dsimp only
    have hm := prs_lt (getD_mem (l := prs 64) (i := i) (by omega))
    rw [cI_length, if_pos (by omega), gd_pos (by omega), show (cI (prs 64)).getD i (0 : Int) = (((prs 64).getD i 0 : Nat) : Int) from cI_getD _ _, P_cube (by omega), bnd_mk, gd_pos (by omega), gd_pos (by omega), fill_stepW (fun p => rootW p 3) hl hi]
  · unfold F_sha256_Rounds_l1
    dsimp only
    rw [cI_length, if_neg (by omega)]
theorem P_Start : F_sha256_Start = some S8 := by
  unfold F_sha256_Start
  have hl := prs_len (n := 8) (by decide)
  rw [P_Primes (by decide), bnd_mk]
  dsimp only
  have := run_for (f := F_sha256_Start_l1 (cI (prs 8))) (x := ((prs 8).take 8).map (fun p => rootW p 2) ++ List.replicate (8 - 8) 0) (fun i => (i, ((prs 8).take i).map (fun p => rootW p 2) ++ List.replicate (8 - i) 0)) 8 (fun i hi => ?_) ?_
  · have e : (0, ((prs 8).take 0).map (fun p => rootW p 2) ++ List.replicate (8 - 0) 0) = (0, List.replicate 8 0) := rfl
    rw [e] at this
    rw [this, bnd_mk, List.take_of_length_le (by omega), Nat.sub_self]
    exact congrArg some (List.append_nil _)
  · unfold F_sha256_Start_l1
    dsimp only
    have hm := prs_lt (getD_mem (l := prs 8) (i := i) (by omega))
    rw [cI_length, if_pos (by omega), gd_pos (by omega), show (cI (prs 8)).getD i (0 : Int) = (((prs 8).getD i 0 : Nat) : Int) from cI_getD _ _, P_square (by omega), bnd_mk, gd_pos (by omega), gd_pos (by omega), fill_stepW (fun p => rootW p 2) hl hi]
  · unfold F_sha256_Start_l1
    dsimp only
    rw [cI_length, if_neg (by omega)]
end Go.Proofs.Ytddphjmcoolinaa
