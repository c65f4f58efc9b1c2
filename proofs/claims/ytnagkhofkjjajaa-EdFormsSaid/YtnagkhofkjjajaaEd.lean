/- The order of the base is a prime: certificates. Plain, no statement of the claim. -/
import Derived.Test.YtnagkhofkjjajaaQi
import Derived.Test.YtnagkhofkjjajaaQq
set_option linter.unusedVariables false
namespace Go.Proofs.Ytnagkhofkjjajaa
theorem isP_11 : IsP 11 := .small 2 (by decide) (by decide) (by decide +kernel)
theorem isP_23 : IsP 23 := .small 3 (by decide) (by decide) (by decide +kernel)
theorem isP_34123 : IsP 34123 := .small 183 (by decide) (by decide) (by decide +kernel)
theorem ord_409477 : Ord 409477 2 := .cert 19 [2, 2, 3, 34123] (List.forall_mem_cons.2 ⟨isP_2, (List.forall_mem_cons.2 ⟨isP_2, (List.forall_mem_cons.2 ⟨isP_3, (List.forall_mem_cons.2 ⟨isP_34123, (List.forall_mem_nil _)⟩)⟩)⟩)⟩) (by decide +kernel)
theorem isP_409477 : IsP 409477 := ord_409477.prime
theorem ord_14741173 : Ord 14741173 2 := .cert 24 [2, 2, 3, 3, 409477] (List.forall_mem_cons.2 ⟨isP_2, (List.forall_mem_cons.2 ⟨isP_2, (List.forall_mem_cons.2 ⟨isP_3, (List.forall_mem_cons.2 ⟨isP_3, (List.forall_mem_cons.2 ⟨isP_409477, (List.forall_mem_nil _)⟩)⟩)⟩)⟩)⟩) (by decide +kernel)
theorem isP_14741173 : IsP 14741173 := ord_14741173.prime
theorem ord_58964693 : Ord 58964693 2 := .cert 26 [2, 2, 14741173] (List.forall_mem_cons.2 ⟨isP_2, (List.forall_mem_cons.2 ⟨isP_2, (List.forall_mem_cons.2 ⟨isP_14741173, (List.forall_mem_nil _)⟩)⟩)⟩) (by decide +kernel)
theorem isP_58964693 : IsP 58964693 := ord_58964693.prime
theorem isP_30703 : IsP 30703 := .small 174 (by decide) (by decide) (by decide +kernel)
theorem isP_82163 : IsP 82163 := .small 285 (by decide) (by decide) (by decide +kernel)
theorem isP_22111 : IsP 22111 := .small 147 (by decide) (by decide) (by decide +kernel)
theorem ord_132667 : Ord 132667 5 := .cert 18 [2, 3, 22111] (List.forall_mem_cons.2 ⟨isP_2, (List.forall_mem_cons.2 ⟨isP_3, (List.forall_mem_cons.2 ⟨isP_22111, (List.forall_mem_nil _)⟩)⟩)⟩) (by decide +kernel)
theorem isP_132667 : IsP 132667 := ord_132667.prime
theorem isP_17231 : IsP 17231 := .small 130 (by decide) (by decide) (by decide +kernel)
theorem ord_137849 : Ord 137849 3 := .cert 18 [2, 2, 2, 17231] (List.forall_mem_cons.2 ⟨isP_2, (List.forall_mem_cons.2 ⟨isP_2, (List.forall_mem_cons.2 ⟨isP_2, (List.forall_mem_cons.2 ⟨isP_17231, (List.forall_mem_nil _)⟩)⟩)⟩)⟩) (by decide +kernel)
theorem isP_137849 : IsP 137849 := ord_137849.prime
theorem ord_3044861653679985063343 : Ord 3044861653679985063343 5 := .cert 72 [2, 3, 11, 30703, 82163, 132667, 137849] (List.forall_mem_cons.2 ⟨isP_2, (List.forall_mem_cons.2 ⟨isP_3, (List.forall_mem_cons.2 ⟨isP_11, (List.forall_mem_cons.2 ⟨isP_30703, (List.forall_mem_cons.2 ⟨isP_82163, (List.forall_mem_cons.2 ⟨isP_132667, (List.forall_mem_cons.2 ⟨isP_137849, (List.forall_mem_nil _)⟩)⟩)⟩)⟩)⟩)⟩)⟩) (by decide +kernel)
theorem isP_3044861653679985063343 : IsP 3044861653679985063343 := ord_3044861653679985063343.prime
theorem ord_198211423230930754013084525763697 : Ord 198211423230930754013084525763697 5 := .cert 108 [2, 2, 2, 2, 3, 23, 58964693, 3044861653679985063343] (List.forall_mem_cons.2 ⟨isP_2, (List.forall_mem_cons.2 ⟨isP_2, (List.forall_mem_cons.2 ⟨isP_2, (List.forall_mem_cons.2 ⟨isP_2, (List.forall_mem_cons.2 ⟨isP_3, (List.forall_mem_cons.2 ⟨isP_23, (List.forall_mem_cons.2 ⟨isP_58964693, (List.forall_mem_cons.2 ⟨isP_3044861653679985063343, (List.forall_mem_nil _)⟩)⟩)⟩)⟩)⟩)⟩)⟩)⟩) (by decide +kernel)
theorem isP_198211423230930754013084525763697 : IsP 198211423230930754013084525763697 := ord_198211423230930754013084525763697.prime
theorem isP_269 : IsP 269 := .small 15 (by decide) (by decide) (by decide +kernel)
theorem isP_73 : IsP 73 := .small 7 (by decide) (by decide) (by decide +kernel)
theorem isP_307 : IsP 307 := .small 16 (by decide) (by decide) (by decide +kernel)
theorem isP_5879 : IsP 5879 := .small 75 (by decide) (by decide) (by decide +kernel)
theorem ord_292386187 : Ord 292386187 2 := .cert 29 [2, 3, 3, 3, 3, 307, 5879] (List.forall_mem_cons.2 ⟨isP_2, (List.forall_mem_cons.2 ⟨isP_3, (List.forall_mem_cons.2 ⟨isP_3, (List.forall_mem_cons.2 ⟨isP_3, (List.forall_mem_cons.2 ⟨isP_3, (List.forall_mem_cons.2 ⟨isP_307, (List.forall_mem_cons.2 ⟨isP_5879, (List.forall_mem_nil _)⟩)⟩)⟩)⟩)⟩)⟩)⟩) (by decide +kernel)
theorem isP_292386187 : IsP 292386187 := ord_292386187.prime
theorem ord_213441916511 : Ord 213441916511 13 := .cert 38 [2, 5, 73, 292386187] (List.forall_mem_cons.2 ⟨isP_2, (List.forall_mem_cons.2 ⟨isP_5, (List.forall_mem_cons.2 ⟨isP_73, (List.forall_mem_cons.2 ⟨isP_292386187, (List.forall_mem_nil _)⟩)⟩)⟩)⟩) (by decide +kernel)
theorem isP_213441916511 : IsP 213441916511 := ord_213441916511.prime
theorem isP_1361 : IsP 1361 := .small 35 (by decide) (by decide) (by decide +kernel)
theorem isP_2851 : IsP 2851 := .small 52 (by decide) (by decide) (by decide +kernel)
theorem isP_41 : IsP 41 := .small 5 (by decide) (by decide) (by decide +kernel)
theorem isP_3797 : IsP 3797 := .small 60 (by decide) (by decide) (by decide +kernel)
theorem ord_531581 : Ord 531581 2 := .cert 20 [2, 2, 5, 7, 3797] (List.forall_mem_cons.2 ⟨isP_2, (List.forall_mem_cons.2 ⟨isP_2, (List.forall_mem_cons.2 ⟨isP_5, (List.forall_mem_cons.2 ⟨isP_7, (List.forall_mem_cons.2 ⟨isP_3797, (List.forall_mem_nil _)⟩)⟩)⟩)⟩)⟩) (by decide +kernel)
theorem isP_531581 : IsP 531581 := ord_531581.prime
theorem isP_2551 : IsP 2551 := .small 49 (by decide) (by decide) (by decide +kernel)
theorem ord_1224481 : Ord 1224481 13 := .cert 21 [2, 2, 2, 2, 2, 3, 5, 2551] (List.forall_mem_cons.2 ⟨isP_2, (List.forall_mem_cons.2 ⟨isP_2, (List.forall_mem_cons.2 ⟨isP_2, (List.forall_mem_cons.2 ⟨isP_2, (List.forall_mem_cons.2 ⟨isP_2, (List.forall_mem_cons.2 ⟨isP_3, (List.forall_mem_cons.2 ⟨isP_5, (List.forall_mem_cons.2 ⟨isP_2551, (List.forall_mem_nil _)⟩)⟩)⟩)⟩)⟩)⟩)⟩)⟩) (by decide +kernel)
theorem isP_1224481 : IsP 1224481 := ord_1224481.prime
theorem ord_1257559732178653 : Ord 1257559732178653 2 := .cert 51 [2, 2, 3, 7, 23, 531581, 1224481] (List.forall_mem_cons.2 ⟨isP_2, (List.forall_mem_cons.2 ⟨isP_2, (List.forall_mem_cons.2 ⟨isP_3, (List.forall_mem_cons.2 ⟨isP_7, (List.forall_mem_cons.2 ⟨isP_23, (List.forall_mem_cons.2 ⟨isP_531581, (List.forall_mem_cons.2 ⟨isP_1224481, (List.forall_mem_nil _)⟩)⟩)⟩)⟩)⟩)⟩)⟩) (by decide +kernel)
theorem isP_1257559732178653 : IsP 1257559732178653 := ord_1257559732178653.prime
theorem ord_4434155615661930479 : Ord 4434155615661930479 17 := .cert 62 [2, 41, 43, 1257559732178653] (List.forall_mem_cons.2 ⟨isP_2, (List.forall_mem_cons.2 ⟨isP_41, (List.forall_mem_cons.2 ⟨isP_43, (List.forall_mem_cons.2 ⟨isP_1257559732178653, (List.forall_mem_nil _)⟩)⟩)⟩)⟩) (by decide +kernel)
theorem isP_4434155615661930479 : IsP 4434155615661930479 := ord_4434155615661930479.prime
theorem ord_172054593956031949258510691 : Ord 172054593956031949258510691 2 := .cert 88 [2, 5, 1361, 2851, 4434155615661930479] (List.forall_mem_cons.2 ⟨isP_2, (List.forall_mem_cons.2 ⟨isP_5, (List.forall_mem_cons.2 ⟨isP_1361, (List.forall_mem_cons.2 ⟨isP_2851, (List.forall_mem_cons.2 ⟨isP_4434155615661930479, (List.forall_mem_nil _)⟩)⟩)⟩)⟩)⟩) (by decide +kernel)
theorem isP_172054593956031949258510691 : IsP 172054593956031949258510691 := ord_172054593956031949258510691.prime
theorem ord_19757330305831588566944191468367130476339 : Ord 19757330305831588566944191468367130476339 2 := .cert 134 [2, 269, 213441916511, 172054593956031949258510691] (List.forall_mem_cons.2 ⟨isP_2, (List.forall_mem_cons.2 ⟨isP_269, (List.forall_mem_cons.2 ⟨isP_213441916511, (List.forall_mem_cons.2 ⟨isP_172054593956031949258510691, (List.forall_mem_nil _)⟩)⟩)⟩)⟩) (by decide +kernel)
theorem isP_19757330305831588566944191468367130476339 : IsP 19757330305831588566944191468367130476339 := ord_19757330305831588566944191468367130476339.prime
theorem ord_276602624281642239937218680557139826668747 : Ord 276602624281642239937218680557139826668747 2 := .cert 138 [2, 7, 19757330305831588566944191468367130476339] (List.forall_mem_cons.2 ⟨isP_2, (List.forall_mem_cons.2 ⟨isP_7, (List.forall_mem_cons.2 ⟨isP_19757330305831588566944191468367130476339, (List.forall_mem_nil _)⟩)⟩)⟩) (by decide +kernel)
theorem isP_276602624281642239937218680557139826668747 : IsP 276602624281642239937218680557139826668747 := ord_276602624281642239937218680557139826668747.prime
theorem ord_7237005577332262213973186563042994240857116359379907606001950938285454250989 : Ord 7237005577332262213973186563042994240857116359379907606001950938285454250989 2 := .cert 253 [2, 2, 3, 11, 198211423230930754013084525763697, 276602624281642239937218680557139826668747] (List.forall_mem_cons.2 ⟨isP_2, (List.forall_mem_cons.2 ⟨isP_2, (List.forall_mem_cons.2 ⟨isP_3, (List.forall_mem_cons.2 ⟨isP_11, (List.forall_mem_cons.2 ⟨isP_198211423230930754013084525763697, (List.forall_mem_cons.2 ⟨isP_276602624281642239937218680557139826668747, (List.forall_mem_nil _)⟩)⟩)⟩)⟩)⟩)⟩) (by decide +kernel)
theorem isP_7237005577332262213973186563042994240857116359379907606001950938285454250989 : IsP 7237005577332262213973186563042994240857116359379907606001950938285454250989 := ord_7237005577332262213973186563042994240857116359379907606001950938285454250989.prime
end Go.Proofs.Ytnagkhofkjjajaa

set_option linter.unusedVariables false
set_option maxRecDepth 100000
namespace Go.Proofs.Ytnagkhofkjjajaa
def smulX : Nat → Nat → PL → PL
  | 0, _, _ => rep p0 1
  | k + 1, n, p => if n % 2 = 1 then plus (plus (smulX k (n / 2) p) (smulX k (n / 2) p)) p else plus (smulX k (n / 2) p) (smulX k (n / 2) p)
theorem smulX_ok {P : PP} (hP : onP P) : ∀ k n, n < 2 ^ k → ∃ z, z ≠ 0 ∧ smulX k n (rep P 1) = rep (smul n P) z
  | 0, n, h => ⟨1, one_ne, by rw [show n = 0 by simpa using h]; rfl⟩
  | k + 1, n, h => by
    obtain ⟨z, hz, e⟩ := smulX_ok hP k (n / 2) (by rw [Nat.pow_succ] at h; omega)
    have hS := smul_on (n / 2) hP
    obtain ⟨w, hw, e2⟩ := rep_plus hS hS hz hz
    unfold smulX
    rw [e, e2]
    by_cases q : n % 2 = 1
    · obtain ⟨v, hv, e3⟩ := rep_plus (padd_on hS hS) hP hw one_ne
      refine ⟨v, hv, ?_⟩
      rw [if_pos q, e3, ← smul_dbl1 hP, show 2 * (n / 2) + 1 = n by omega]
    · refine ⟨w, hw, ?_⟩
      rw [if_neg q, ← smul_dbl hP, show 2 * (n / 2) = n by omega]
/-- is a place that of (x, y)? -/
def atB (p : PL) (X : PP) : Bool := decide (X.1 * p.2.2.1 = p.1) && decide (X.2 * p.2.2.1 = p.2.1)
theorem smul_is {P X : PP} (hP : onP P) (k n : Nat) (h : n < 2 ^ k) (c : atB (smulX k n (rep P 1)) X = true) : smul n P = X := by
  obtain ⟨z, hz, e⟩ := smulX_ok hP k n h
  rw [e] at c
  unfold atB rep at c
  simp only [Bool.and_eq_true, decide_eq_true_eq] at c
  have hi := ff_inv hz
  refine Prod.ext ?_ ?_
  · have := c.1
    generalize (smul n P).1 = a at *
    generalize X.1 = b at *
    clear c e
    grind -lia -order -linarith -mbtc (splits := 0) (ematch := 0)
  · have := c.2
    generalize (smul n P).2 = a at *
    generalize X.2 = b at *
    clear c e
    grind -lia -order -linarith -mbtc (splits := 0) (ematch := 0)
def LL : Nat := 7237005577332262213973186563042994240857116359379907606001950938285454250989
theorem LL_prime : IsP LL := isP_7237005577332262213973186563042994240857116359379907606001950938285454250989
theorem LL_zero : smul LL bB = p0 := smul_is bB_on 253 LL (by decide +kernel) (by decide +kernel)
theorem gLL : gmul LL gB = g0 := Subtype.ext LL_zero
theorem gB_ne : gB ≠ g0 := fun e => by
  have : bB = p0 := congrArg Subtype.val e
  revert this
  decide +kernel
theorem gmul_mod (n : Nat) : gmul n gB = gmul (n % LL) gB := by
  conv => lhs; rw [← Nat.div_add_mod n LL]
  rw [gmul_add, gmul_mul, gLL, gmul_g0, g0_add]
theorem LL_pos : 0 < LL := by decide
theorem gmul_ne : ∀ d, 0 < d → d < LL → gmul d gB ≠ g0 := by
  intro d
  induction d using Nat.strongRecOn with
  | ind d ih =>
    intro h1 h2 e
    have hr : gmul (LL % d) gB = g0 := by
      have h := gLL
      conv at h => lhs; rw [← Nat.div_add_mod LL d]
      rw [gmul_add, gmul_mul, e, gmul_g0, g0_add] at h
      exact h
    rcases Nat.eq_zero_or_pos (LL % d) with q | q
    · rcases LL_prime.2 d (Nat.dvd_of_mod_eq_zero q) with r | r
      · rw [r, gmul_1] at e
        exact gB_ne e
      · omega
    · exact ih _ (Nat.mod_lt _ h1) q (Nat.lt_of_lt_of_le (Nat.mod_lt _ h1) (by omega)) hr
theorem gmul_inj' {m n : Nat} (h : m ≤ n) (e : gmul m gB = gmul n gB) : m % LL = n % LL := by
  have e2 : gmul (n - m) gB = g0 := by
    rw [show n = (n - m) + m by omega, gmul_add, ← g0_add (gmul m gB), ← gadd_assoc, gadd_0] at e
    exact (gadd_cancel e).symm
  rw [gmul_mod] at e2
  rcases Nat.eq_zero_or_pos ((n - m) % LL) with q | q
  · rw [show n = m + (n - m) by omega, Nat.add_mod, q, Nat.add_zero, Nat.mod_mod]
  · exact absurd e2 (gmul_ne _ q (Nat.mod_lt _ LL_pos))
theorem gmul_inj {m n : Nat} (e : gmul m gB = gmul n gB) : m % LL = n % LL := by
  rcases Nat.le_total m n with h | h
  · exact gmul_inj' h e
  · exact (gmul_inj' h e.symm).symm
theorem gmul_eq {m n : Nat} (h : m % LL = n % LL) : gmul m gB = gmul n gB := by rw [gmul_mod m, h, ← gmul_mod]
end Go.Proofs.Ytnagkhofkjjajaa

set_option linter.unusedVariables false
set_option maxRecDepth 10000
namespace Go.Proofs.Ytnagkhofkjjajaa
theorem P_ncmp {xs ys : List Nat} (hx : LB 18446744073709551616 xs) (hy : LB 18446744073709551616 ys) (hl : xs.length ≤ 1000000000) (hl' : ys.length ≤ 1000000000) : F_nums_compare xs ys = some (cmpI (nv 18446744073709551616 xs) (nv 18446744073709551616 ys)) := by
  unfold F_nums_compare
  have key := run_inv (f := F_nums_compare_l1 xs ys) (fun z : Int => -1 ≤ z ∧ z < 1000000001 ∧ ∀ j : Nat, z < j → xs.getD j 0 = ys.getD j 0) (fun z => (z + 1).toNat)
    (fun r => sel (fun _ => some ((0 : Nat) : Int)) r = some (cmpI (nv 18446744073709551616 xs) (nv 18446744073709551616 ys))) ?_ ((((max xs.length ys.length) : Nat) : Int) - ((1 : Nat) : Int)) ⟨by omega, by omega, fun j hj => ?_⟩
  · obtain ⟨r, hr, h⟩ := key
    rw [hr, bnd_mk]; exact h
  · rintro z ⟨h1, h2, h3⟩
    unfold F_nums_compare_l1
    by_cases q : 0 ≤ z
    · obtain ⟨k, rfl⟩ : ∃ k : Nat, z = (k : Int) := ⟨z.toNat, by omega⟩
      have h4 : ∀ j, k < j → xs.getD j 0 = ys.getD j 0 := fun j hj => h3 j (by omega)
      rw [if_pos (by omega), P_nat, bnd_mk, P_nat, bnd_mk]
      by_cases a1 : xs.getD k 0 < ys.getD k 0
      · right
        refine ⟨_, if_pos a1, ?_⟩
        rw [sel_inr, cmpI_lt (nv_cmp hx hy h4 a1)]
      · rw [if_neg a1]
        by_cases a2 : ys.getD k 0 < xs.getD k 0
        · right
          refine ⟨_, if_pos a2, ?_⟩
          rw [sel_inr, cmpI_gt (nv_cmp hy hx (fun j hj => (h4 j hj).symm) a2)]; rfl
        · left
          rw [if_neg a2, gd_pos (by omega), gd_pos (by omega)]
          refine ⟨_, rfl, ⟨by omega, by omega, fun j hj => ?_⟩, by omega⟩
          rcases Nat.lt_or_ge k j with r | r
          · exact h4 j r
          · have : j = k := by omega
            subst this; omega
    · right
      refine ⟨_, if_neg (by omega), ?_⟩
      rw [sel_inl, cmpI_eq (nv_ext fun j => h3 j (by omega))]; rfl
  · rw [getD_ge (by omega), getD_ge (by omega)]
theorem P_nCmp {xs ys : List Nat} (hx : LB 256 xs) (hy : LB 256 ys) (hl : xs.length ≤ 1000000) (hl' : ys.length ≤ 1000000) : F_nums_Cmp xs ys = some (cmpI (nv 256 xs) (nv 256 ys)) := by
  unfold F_nums_Cmp
  rw [P_nread hx (by omega), bnd_mk, P_nread hy (by omega), bnd_mk]
  have l1 := read_len (M := 1000000) hx rfl hl
  have l2 := read_len (M := 1000000) hy rfl hl'
  rw [P_ncmp (dig_LB (by decide) _) (dig_LB (by decide) _) (by omega) (by omega), bnd_mk, nv_dig (by decide), nv_dig (by decide)]
theorem P_ndouble {x b : Nat} (hb : b ≤ 1) (hl : (dig 18446744073709551616 x).length ≤ 1000000000) : F_nums_row_double (dig 18446744073709551616 x) b = some (dig 18446744073709551616 (2 * x + b)) := by
  have hX := dig_LB (b := 18446744073709551616) (by decide) x
  have v1 := nv_dig (b := 18446744073709551616) (by decide) x
  generalize dig 18446744073709551616 x = X at *
  unfold F_nums_row_double
  rw [gd_pos (by omega), gd_pos (by omega)]
  have e0 : (X.take (min X.length (X.length + 1))) ++ ((List.replicate (X.length + 1) 0).drop (min X.length (X.length + 1))) = (List.replicate (X.length + 1) 0).take 0 ++ X ++ (List.replicate (X.length + 1) 0).drop (0 + X.length) := by
    rw [Nat.min_eq_left (by omega), List.take_of_length_le (Nat.le_refl _), List.take_zero, List.nil_append, Nat.zero_add]
  rw [e0]
  have i1 := dbl_init (xs := X) rfl
  have i2 := dbl_init_lt (xs := X) rfl hX
  have i3 : ((List.replicate (X.length + 1) 0).take 0 ++ X ++ (List.replicate (X.length + 1) 0).drop (0 + X.length)).length = X.length + 1 := by simp
  generalize (List.replicate (X.length + 1) 0).take 0 ++ X ++ (List.replicate (X.length + 1) 0).drop (0 + X.length) = Z at *
  have key := run_inv (f := F_nums_row_double_l1 X) (fun s : Nat × Nat × List Nat => s.1 ≤ 1 ∧ s.2.1 ≤ X.length + 1 ∧ s.2.2.length = X.length + 1 ∧ LB 18446744073709551616 s.2.2 ∧ (∀ j, s.2.1 ≤ j → s.2.2.getD j 0 = X.getD j 0) ∧ nv 18446744073709551616 (s.2.2.take s.2.1) + s.1 * 18446744073709551616 ^ s.2.1 = 2 * nv 18446744073709551616 (X.take s.2.1) + b)
    (fun s => X.length + 1 - s.2.1) (fun r => r.length = X.length + 1 ∧ LB 18446744073709551616 r ∧ nv 18446744073709551616 r = 2 * x + b) ?_ (b, 0, Z) ⟨hb, Nat.zero_le _, i3, i2, fun j _ => i1 j, by simp⟩
  · obtain ⟨r, hr, h1, h2, h3⟩ := key
    rw [hr, bnd_mk]
    have ht := run_trim (f := F_nums_row_double_l2 r) r (by omega) (fun n => by unfold F_nums_row_double_l2; rfl)
    rw [h1] at ht
    rw [ht, bnd_mk, ← h3, ← trimL_dig (by decide) h2]
    rfl
  · rintro ⟨c, n, z⟩ ⟨h1, h2, h3, h4, h5, h6⟩
    dsimp only at h1 h2 h3 h4 h5 h6
    unfold F_nums_row_double_l1
    dsimp only
    by_cases q : n < X.length + 1
    · left
      rw [if_pos q, gd_pos q, gd_pos q, gd_pos q, gd_pos (by omega)]
      have a := h4.get (by decide) n
      rw [dbl_or h1, dbl_carry a h1, h5 n (Nat.le_refl _)]
      rw [h5 n (Nat.le_refl _)] at a
      refine ⟨_, rfl, ⟨by dsimp only; omega, by dsimp only; omega, by simpa using h3, h4.set (Nat.mod_lt _ (by decide)) _, fun j hj => ?_, dbl_step (by omega) (h5 n (Nat.le_refl _)) h6⟩, by dsimp only; omega⟩
      dsimp only at hj ⊢
      rw [getD_set _ _ _ _ (by omega), if_neg (by omega)]
      exact h5 j (by omega)
    · right
      rw [if_neg q]
      refine ⟨_, rfl, h3, h4, ?_⟩
      rw [dbl_done rfl h3 hX hb (by omega) h6, v1]
theorem P_nsub {x y : Nat} (hle : y ≤ x) (hl : (dig 18446744073709551616 x).length ≤ 1000000000) : ∃ z, run (F_nums_Mod_l2 (dig 18446744073709551616 y) (dig 18446744073709551616 x)) (0, 0, dig 18446744073709551616 x) = some z ∧ z.length = (dig 18446744073709551616 x).length ∧ LB 18446744073709551616 z ∧ nv 18446744073709551616 z = x - y := by
  have hX := dig_LB (b := 18446744073709551616) (by decide) x
  have hY := dig_LB (b := 18446744073709551616) (by decide) y
  have v1 := nv_dig (b := 18446744073709551616) (by decide) x
  have v2 := nv_dig (b := 18446744073709551616) (by decide) y
  generalize dig 18446744073709551616 x = X at *
  generalize dig 18446744073709551616 y = Y at *
  have key := run_inv (f := F_nums_Mod_l2 Y X) (fun s : Nat × Nat × List Nat => s.1 ≤ 1 ∧ s.2.1 ≤ X.length ∧ s.2.2.length = X.length ∧ LB 18446744073709551616 s.2.2 ∧ (∀ j, s.2.1 ≤ j → s.2.2.getD j 0 = X.getD j 0) ∧ nv 18446744073709551616 (s.2.2.take s.2.1) + nv 18446744073709551616 (Y.take s.2.1) = nv 18446744073709551616 (X.take s.2.1) + s.1 * 18446744073709551616 ^ s.2.1)
    (fun s => X.length - s.2.1) (fun r => r.length = X.length ∧ LB 18446744073709551616 r ∧ nv 18446744073709551616 r = x - y) ?_ (0, 0, X) ⟨Nat.zero_le _, Nat.zero_le _, rfl, hX, fun j _ => rfl, by simp⟩
  · obtain ⟨r, hr, h1, h2, h3⟩ := key
    exact ⟨r, hr, h1, h2, h3⟩
  · rintro ⟨c, n, z⟩ ⟨h1, h2, h3, h4, h5, h6⟩
    dsimp only at h1 h2 h3 h4 h5 h6
    unfold F_nums_Mod_l2
    dsimp only
    by_cases q : n < X.length
    · left
      rw [if_pos q, gd_pos q, P_nat, bnd_mk, S64 h1, bnd_mk]
      dsimp only
      rw [gd_pos q, gd_pos (by omega), h5 n (Nat.le_refl _)]
      refine ⟨_, rfl, ⟨by dsimp only; split <;> omega, by dsimp only; omega, by simpa using h3, h4.set (Nat.mod_lt _ (by decide)) _, fun j hj => ?_, sub_step h1 (hX.get (by decide) n) (hY.get (by decide) n) (by omega) h6⟩, by dsimp only; omega⟩
      dsimp only at hj ⊢
      rw [getD_set _ _ _ _ (by omega), if_neg (by omega)]
      exact h5 j (by omega)
    · right
      rw [if_neg q]
      refine ⟨_, rfl, h3, h4, ?_⟩
      rw [sub_done rfl h3 h4 hX hY (by omega) (by omega) h6, v1, v2]
theorem P_nMod {xs ys : List Nat} (hx : LB 256 xs) (hy : LB 256 ys) (hl : xs.length ≤ 1000000) (hl' : ys.length ≤ 1000000) (h0 : 0 < nv 256 ys) : F_nums_Mod xs ys = some (dig 256 (nv 256 xs % nv 256 ys), ((0 : Nat) : Int)) := by
  unfold F_nums_Mod
  rw [P_nread hx (by omega), bnd_mk, P_nread hy (by omega), bnd_mk]
  have l1 := read_len (M := 1000000) hx rfl hl
  have hlt : ∀ {R : Nat}, R < nv 256 ys → (dig 18446744073709551616 R).length ≤ 1000000 := fun h => dig_len_lt hy rfl hl' h
  have hdb : ∀ {R b : Nat}, R < nv 256 ys → (dig 18446744073709551616 (2 * R + b % 2)).length ≤ 1000001 := fun h => dig_len_dbl hy rfl hl' h
  have l2 := read_len (M := 1000000) hy rfl hl'
  generalize nv 256 ys = Y at *
  have hne : ¬ (dig 18446744073709551616 Y).length = 0 := fun h => by have := dig_len0 _ h; omega
  rw [if_neg hne, gd_pos (by omega)]
  generalize hXX : nv 256 xs = X at *
  have key := run_inv (f := F_nums_Mod_l1 (dig 18446744073709551616 X) (dig 18446744073709551616 Y)) (fun s : List Nat × Int => -1 ≤ s.2 ∧ s.2 < ((64 * (dig 18446744073709551616 X).length : Nat) : Int) ∧ s.1 = dig 18446744073709551616 (X / 2 ^ (s.2 + 1).toNat % Y)) (fun s => (s.2 + 1).toNat)
    (fun r => r = dig 18446744073709551616 (X % Y)) ?_ ([], ((((64 * (dig 18446744073709551616 X).length) : Nat) : Int) - ((1 : Nat) : Int))) ⟨by dsimp only; omega, by dsimp only; omega, ?_⟩
  · obtain ⟨r, hr, rfl⟩ := key
    rw [hr, bnd_mk, P_nbytes (dig_LB (by decide) _) (by have := hlt (Nat.mod_lt X h0); omega), bnd_mk, nv_dig (by decide)]
  · rintro ⟨r, z⟩ ⟨h1, h2, h3⟩
    dsimp only at h1 h2 h3
    unfold F_nums_Mod_l1
    dsimp only
    by_cases q : 0 ≤ z
    · left
      obtain ⟨k, rfl⟩ : ∃ k : Nat, z = (k : Int) := ⟨z.toNat, by omega⟩
      have ek : ((k : Int) + 1).toNat = k + 1 := by omega
      rw [ek] at h3
      have e1 : ((k : Int) / ((64 : Nat) : Int)) = ((k / 64 : Nat) : Int) := by omega
      have e2 : ((k : Int) % ((64 : Nat) : Int)) = ((k % 64 : Nat) : Int) := by omega
      rw [if_pos (by omega), gd_pos (by omega), gd_pos (by omega), e1, e2, gd_pos (by omega), gd_pos (by omega), gd_pos (by omega), gd_pos (by omega), gd_pos (by omega), Int.toNat_natCast, Int.toNat_natCast, bit_at, h3]
      have hR : X / 2 ^ (k + 1) % Y < Y := Nat.mod_lt _ h0
      obtain ⟨m1, m2, m3, m4⟩ := mod_step hR rfl
      have hd := hdb (b := X / 2 ^ k) hR
      have hbit : X / 2 ^ k % 2 ≤ 1 := by omega
      generalize X / 2 ^ (k + 1) % Y = R at *
      generalize X / 2 ^ k % 2 = b at *
      rw [P_ndouble hbit (by have := hlt hR; omega), bnd_mk, P_ncmp (dig_LB (by decide) _) (dig_LB (by decide) _) (by omega) (by omega), nv_dig (by decide), nv_dig (by decide), bnd_mk]
      have et : ((k : Int) - ((1 : Nat) : Int) + 1).toNat = k := by omega
      by_cases c : Y ≤ 2 * R + b
      · have hc : ((0 : Nat) : Int) ≤ cmpI (2 * R + b) Y := by
          rcases Nat.eq_or_lt_of_le c with e | e
          · rw [cmpI_eq e.symm]; decide
          · rw [cmpI_gt e]; decide
        rw [if_pos hc]
        obtain ⟨z, g1, g2, g3, g4⟩ := P_nsub c (by omega)
        rw [g1, bnd_mk]
        have ht := run_trim (f := F_nums_Mod_l3 z) z (by omega) (fun n => by unfold F_nums_Mod_l3; rfl)
        rw [g2] at ht
        rw [ht, bnd_mk, gd_pos (by omega), gd_pos (by omega)]
        refine ⟨_, rfl, ⟨by dsimp only; omega, by dsimp only; omega, ?_⟩, by dsimp only; omega⟩
        dsimp only
        rw [et, ← m3 c, ← g4, ← trimL_dig (by decide) g3]
        rfl
      · have hc : ¬ ((0 : Nat) : Int) ≤ cmpI (2 * R + b) Y := by rw [cmpI_lt (by omega)]; decide
        rw [if_neg hc, gd_pos (by omega), gd_pos (by omega)]
        refine ⟨_, rfl, ⟨by dsimp only; omega, by dsimp only; omega, ?_⟩, by dsimp only; omega⟩
        dsimp only
        rw [et, ← m4 (by omega)]
    · right
      have : z = -1 := by omega
      subst this
      rw [if_neg (by decide)]
      refine ⟨_, rfl, ?_⟩
      rw [h3]
      congr 1
      rw [show ((-1 : Int) + 1).toNat = 0 from rfl, Nat.pow_zero, Nat.div_one]
  · dsimp only
    rw [show ((((64 * (dig 18446744073709551616 X).length) : Nat) : Int) - ((1 : Nat) : Int) + 1).toNat = 64 * (dig 18446744073709551616 X).length by omega, ← mod_init h0]
    rfl
end Go.Proofs.Ytnagkhofkjjajaa

set_option linter.unusedVariables false
set_option maxRecDepth 100000
namespace Go.Proofs.Ytnagkhofkjjajaa
theorem LL_lt : LL < 256 ^ 32 := by decide +kernel
theorem P_Order : F_scalar_Order = some (b32 LL) := congrArg some (by decide +kernel)
theorem md32 (n : Nat) : n % LL < 256 ^ 32 := Nat.lt_trans (Nat.mod_lt _ LL_pos) LL_lt
theorem nv_mod (n : Nat) : nv 256 (b32 (n % LL)) = n % LL := nv_b32 (md32 n)
theorem pad32 {r : Nat} (h : r < 256 ^ 32) : (dig 256 r).take (min (dig 256 r).length 32) ++ (List.replicate 32 0).drop (min (dig 256 r).length 32) = b32 r := by
  have h1 := dig_length (b := 256) (by decide) h
  have h2 := dig_LB (b := 256) (by decide) r
  have h3 := nv_dig (b := 256) (by decide) r
  generalize dig 256 r = l at *
  rw [Nat.min_eq_left h1, List.take_of_length_le (Nat.le_refl _), List.drop_replicate]
  refine leb_of (by decide) (by simp; omega) (h2.app (LB.rep (by decide) _)) ?_
  rw [nv_append, nv_replicate, Nat.mul_zero, Nat.add_zero, h3]
theorem P_SReduce {l : List Nat} (hb : LB 256 l) (hl : l.length ≤ 1000000) : F_scalar_Reduce l = some (b32 (nv 256 l % LL)) := by
  unfold F_scalar_Reduce
  have e : nv 256 (b32 LL) = LL := nv_b32 LL_lt
  rw [P_Order, bnd_mk, P_nMod hb (b32_by _) hl (by rw [b32_len]; decide) (by rw [e]; exact LL_pos), bnd_mk, e]
  exact congrArg some (pad32 (md32 _))
theorem P_MulAdd {x y z : List Nat} (hx : LB 256 x) (hy : LB 256 y) (hz : LB 256 z) (lx : x.length = 32) (ly : y.length = 32) (lz : z.length = 32) : F_scalar_MulAdd x y z = some (b32 ((nv 256 x * nv 256 y + nv 256 z) % LL)) := by
  unfold F_scalar_MulAdd
  have bx := nv_lt _ hx
  have bY := nv_lt _ hy
  have bz := nv_lt _ hz
  rw [lx] at bx; rw [ly] at bY; rw [lz] at bz
  have hm : nv 256 x * nv 256 y < 256 ^ 64 := by
    rw [show (256 : Nat) ^ 64 = 256 ^ 32 * 256 ^ 32 from rfl]
    exact Nat.mul_lt_mul'' bx bY
  rw [P_nMul hx hy (by omega) (by omega), bnd_mk]
  have l1 := dig_length (b := 256) (by decide) hm
  have v1 := nv_dig (b := 256) (by decide) (nv 256 x * nv 256 y)
  have w1 := dig_LB (b := 256) (by decide) (nv 256 x * nv 256 y)
  rw [P_nAdd w1 hz (by omega) (by omega), bnd_mk, v1]
  have ha : nv 256 x * nv 256 y + nv 256 z < 256 ^ 65 := by
    have : (256 : Nat) ^ 64 + 256 ^ 32 ≤ 256 ^ 65 := by decide +kernel
    omega
  have l2 := dig_length (b := 256) (by decide) ha
  rw [P_SReduce (dig_LB (by decide) _) (by omega), bnd_mk, nv_dig (by decide)]
theorem P_SIs {l : List Nat} (hb : LB 256 l) (hl : l.length = 32) : F_scalar_Is l = some (decide (nv 256 l < LL)) := by
  unfold F_scalar_Is
  rw [P_Order, bnd_mk, P_nCmp hb (b32_by _) (by omega) (by rw [b32_len]; decide), bnd_mk, show nv 256 (b32 LL) = LL from nv_b32 LL_lt]
  congr 1
  rcases Nat.lt_trichotomy (nv 256 l) LL with h | h | h
  · rw [cmpI_lt h, decide_eq_true h]; rfl
  · rw [cmpI_eq h]; exact Eq.trans (b := false) rfl (decide_eq_false (by omega)).symm
  · rw [cmpI_gt h]; exact Eq.trans (b := false) rfl (decide_eq_false (by omega)).symm
theorem P_Clamp {l : List Nat} (hb : LB 256 l) (hl : l.length = 32) : ∃ r, F_scalar_Clamp l = some r ∧ LB 256 r ∧ r.length = 32 := by
  refine ⟨_, rfl, ?_, by simp [hl]⟩
  have h1 : LB 256 (l.set 0 (l.getD 0 0 &&& 248)) := hb.set (Nat.lt_of_le_of_lt Nat.and_le_left (hb.get (by decide) 0)) 0
  refine h1.set ?_ 31
  have : (l.set 0 (l.getD 0 0 &&& 248)).getD 31 0 &&& 63 ≤ 63 := Nat.and_le_right
  exact Nat.or_lt_two_pow (n := 8) (by omega) (by decide)
theorem n18 {n : Nat} (h : n < 256) : F_casematelaw18_num n = some (b32 n) := by
  unfold F_casematelaw18_num
  refine congrArg some (leb_of (by decide) (by simp) ((LB.rep (by decide) 32).set h 0) ?_)
  have := nv_set 256 (List.replicate 32 0) 0 n (by simp)
  rw [nv_replicate] at this
  simpa using this
theorem l18_run : run F_casematelaw18_awake_l1 (0, List.replicate 32 0) = some (List.replicate 32 255) := by
  refine run_for (fun i => (i, List.replicate i 255 ++ List.replicate (32 - i) 0)) 32 (fun i hi => ?_) ?_
  · unfold F_casematelaw18_awake_l1
    dsimp only
    rw [if_pos hi, gd_pos hi, gd_pos (by omega)]
    refine congrArg (fun l => some (Sum.inl (i + 1, l))) ?_
    rw [show 32 - i = (32 - (i + 1)) + 1 by omega, List.replicate_succ, List.set_append_right _ _ (by simp), List.length_replicate, Nat.sub_self, List.set_cons_zero, List.replicate_succ', List.append_assoc]
    rfl
  · rfl
theorem n18v {n : Nat} (h : n < 256) : nv 256 (b32 n) = n := nv_b32 (Nat.lt_of_lt_of_le h (by decide +kernel))
theorem P_awake18 : F_casematelaw18_awake = some true := by
  unfold F_casematelaw18_awake
  rw [P_Order, bnd_mk, l18_run, bnd_mk]
  have hc : F_scalar_Clamp (List.replicate 32 255) = some ((List.replicate 32 255).set 0 248 |>.set 31 127) := congrArg some (by decide +kernel)
  have e : nv 256 (b32 LL) = LL := nv_b32 LL_lt
  rw [hc, bnd_mk, P_SIs (b32_by _) (b32_len _), e, bnd_mk, decide_eq_false (Nat.lt_irrefl _), if_neg (by decide), P_SReduce (b32_by _) (by rw [b32_len]; decide), bnd_mk, e, Nat.mod_self, n18 (by decide), bnd_mk, if_pos rfl,
    n18 (by decide), bnd_mk, n18 (by decide), bnd_mk, n18 (by decide), bnd_mk, P_MulAdd (b32_by _) (b32_by _) (b32_by _) (b32_len _) (b32_len _) (b32_len _), bnd_mk, n18v (by decide), n18v (by decide), n18v (by decide), n18 (by decide), bnd_mk, if_pos (congrArg b32 (by decide +kernel)), if_pos (by decide), if_pos (by decide), n18 (by decide), bnd_mk, P_SIs (b32_by _) (b32_len _), n18v (by decide)]
  rfl
theorem L_ScalarScales {l : List Nat} (hb : LB 256 l) : F_casematelaw18_ScalarScales l = some true := by
  unfold F_casematelaw18_ScalarScales
  by_cases q : 70 < l.length
  · rw [if_pos q]
  · rw [if_neg q, P_SReduce hb (by omega), bnd_mk, g_Base, bnd_mk]
    dsimp only
    rw [g_Scale hb (by omega), bnd_mk]
    dsimp only
    rw [bnd_mk]
    dsimp only
    rw [g_Scale (b32_by _) (by rw [b32_len]; decide), bnd_mk, nv_mod, ← gmul_mod]
    dsimp only
    rw [P_awake18, bnd_mk, if_pos rfl, if_pos rfl, if_pos ⟨rfl, rfl⟩, g_On, bnd_mk, bnd_mk]
end Go.Proofs.Ytnagkhofkjjajaa
