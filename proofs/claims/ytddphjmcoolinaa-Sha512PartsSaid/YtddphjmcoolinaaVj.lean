/- Walks of functions, printed by auto.py. -/
import Derived.Test.YtddphjmcoolinaaVd
set_option linter.unusedVariables false
set_option linter.unusedSimpArgs false
set_option maxRecDepth 100000
namespace Go.Proofs.Ytddphjmcoolinaa
open Go.Proofs Go.RowKit
noncomputable def F_casematelaw14_Sha512Parts (xs0 : List Nat) (xs1 : List Nat) (xs2 : List Nat) : Option Bool := if 1000 < ((xs0.length : Nat) : Int) then (some true) else (if 1000 < ((xs1.length : Nat) : Int) then (some true) else (if 1000 < ((xs2.length : Nat) : Int) then (some true) else (gd ((0 + xs0.length) * 1 ≤ 140737488355328) (gd ((xs0.length + xs1.length) * 1 ≤ 140737488355328) (gd ((((xs0 ++ xs1).length) + xs2.length) * 1 ≤ 140737488355328) (gd ((0 + xs1.length) * 1 ≤ 140737488355328) (gd ((xs1.length + xs2.length) * 1 ≤ 140737488355328) (bnd (F_casematelaw14_awake) fun (b373 : Bool) => if b373 = true then (bnd (F_sha512_Sum [xs0, xs1, xs2]) fun (zs424 : List Nat) => bnd (F_sha512_Sum [((xs0 ++ xs1) ++ xs2)]) fun (zs431 : List Nat) => if zs424 = zs431 then (bnd (F_sha512_Sum [xs0, (xs1 ++ xs2)]) fun (zs468 : List Nat) => bnd (F_sha512_Sum [((xs0 ++ xs1) ++ xs2)]) fun (zs475 : List Nat) => if zs468 = zs475 then (bnd (F_sha512_Sum []) fun (zs494 : List Nat) => bnd (F_sha512_Sum [[], []]) fun (zs501 : List Nat) => some ((decide (zs494 = zs501)))) else (some false)) else (some false)) else (some false)))))))))
set_option maxHeartbeats 4000000 in
theorem W_casematelaw14_Sha512Parts (pA0 : Option Addr) (pc0 : Nat) (xs0 : List Nat) (pA1 : Option Addr) (pc1 : Nat) (xs1 : List Nat) (pA2 : Option Addr) (pc2 : Nat) (xs2 : List Nat) (w : World) (pR0 : Rd w pA0 (vs .u8 xs0)) (pc_0 : xs0.length ≤ pc0) (pb0 : LB 256 xs0) (pR1 : Rd w pA1 (vs .u8 xs1)) (pc_1 : xs1.length ≤ pc1) (pb1 : LB 256 xs1) (pR2 : Rd w pA2 (vs .u8 xs2)) (pc_2 : xs2.length ≤ pc2) (pb2 : LB 256 xs2) (h : F_casematelaw14_Sha512Parts xs0 xs1 xs2 = some true) :
    Calls Try.prog 5 [.slice pA0 xs0.length pc0, .slice pA1 xs1.length pc1, .slice pA2 xs2.length pc2].toArray w (Ret fun v w' => v = .bool true ∧ Heap w [] w' []) := by
  obtain ⟨r, hr0⟩ : ∃ r, r = true := ⟨_, rfl⟩; rw [← hr0] at h
  unfold F_casematelaw14_Sha512Parts at h
  refine enter Try.func5 rfl (n := 65) Try.ntmps5 (by simp) ?_
  intro a hF
  have hS := Heap.init w
  refine wp_seq_k (fun K1 hK2 => ?_)
  refine wp_region_lit ?_
  refine pu_end hT 1 _ hF [0, 1, 2] (G := [(0, .slice pA0 xs0.length pc0), (1, .slice pA1 xs1.length pc1), (2, .slice pA2 xs2.length pc2)]) (cs := []) (by kernel_rfl) rfl trivial ?_; clear hF a; intro a3 hF4
  refine hK2 _ _ ?_
  refine wp_seq_k (fun K19 hK20 => ?_)
  refine wp_seq_k (fun K21 hK22 => ?_)
  rcases (ite_some h : ((1000 < ((xs0.length : Nat) : Int)) ∧ _) ∨ (¬ (1000 < ((xs0.length : Nat) : Int)) ∧ _)) with ⟨hc23, h24⟩ | ⟨hc23, h24⟩
  · clear h
    refine wp_region_lit ?_
    refine pu hT 4 _ hF4 [0, 1, 2, 12] (G := [(0, .slice pA0 xs0.length pc0), (1, .slice pA1 xs1.length pc1), (2, .slice pA2 xs2.length pc2), (12, .bool ((decide (1000 < ((xs0.length : Nat) : Int)))))]) (cs := []) (by kernel_rfl) trivial ?_; clear hF4 a3; intro a27 hF28
    have hF29 : Fr 65 a27 [(0, .slice pA0 xs0.length pc0), (1, .slice pA1 xs1.length pc1), (2, .slice pA2 xs2.length pc2), (12, .bool true)] := hF28.pick [0, 1, 2, 12] (by rw [decide_eq_true hc23]; kernel_rfl); clear hF28
    refine pu_end hT 9 _ hF29 [0, 1, 2, 21] (G := [(0, .slice pA0 xs0.length pc0), (1, .slice pA1 xs1.length pc1), (2, .slice pA2 xs2.length pc2), (21, .bool true)]) (cs := []) (by kernel_rfl) rfl trivial ?_; clear hF29 a27; intro a30 hF31
    refine hK22 _ _ ?_
    refine condT hF31 (by kernel_rfl) ?_
    refine wp_seq_k (fun K32 hK33 => ?_)
    refine wp_region_lit ?_
    refine pu_end hT 1 _ hF31 [6] (G := [(6, .bool true)]) (cs := []) (by kernel_rfl) rfl trivial ?_; clear hF31 a30; intro a34 hF35
    refine hK33 _ _ ?_
    refine wp_ret ?_
    obtain rfl := Option.some.inj h24
    refine ret1 hF35 rfl (v := .bool true) (by kernel_rfl) ?_
    exact ⟨by rw [show (true) = true from hr0], hS.pick [] (by decide) rfl⟩
  · clear h
    rcases (ite_some h24 : ((1000 < ((xs1.length : Nat) : Int)) ∧ _) ∨ (¬ (1000 < ((xs1.length : Nat) : Int)) ∧ _)) with ⟨hc136, h137⟩ | ⟨hc136, h137⟩
    · clear h24
      refine wp_region_lit ?_
      refine pu hT 4 _ hF4 [0, 1, 2, 12] (G := [(0, .slice pA0 xs0.length pc0), (1, .slice pA1 xs1.length pc1), (2, .slice pA2 xs2.length pc2), (12, .bool ((decide (1000 < ((xs0.length : Nat) : Int)))))]) (cs := []) (by kernel_rfl) trivial ?_; clear hF4 a3; intro a140 hF141
      have hF142 : Fr 65 a140 [(0, .slice pA0 xs0.length pc0), (1, .slice pA1 xs1.length pc1), (2, .slice pA2 xs2.length pc2), (12, .bool false)] := hF141.pick [0, 1, 2, 12] (by rw [decide_eq_false hc23]; kernel_rfl); clear hF141
      refine pu hT 5 _ hF142 [0, 1, 2, 17] (G := [(0, .slice pA0 xs0.length pc0), (1, .slice pA1 xs1.length pc1), (2, .slice pA2 xs2.length pc2), (17, .bool ((decide (1000 < ((xs1.length : Nat) : Int)))))]) (cs := []) (by kernel_rfl) trivial ?_; clear hF142 a140; intro a143 hF144
      have hF145 : Fr 65 a143 [(0, .slice pA0 xs0.length pc0), (1, .slice pA1 xs1.length pc1), (2, .slice pA2 xs2.length pc2), (17, .bool true)] := hF144.pick [0, 1, 2, 17] (by rw [decide_eq_true hc136]; kernel_rfl); clear hF144
      refine pu_end hT 4 _ hF145 [0, 1, 2, 21] (G := [(0, .slice pA0 xs0.length pc0), (1, .slice pA1 xs1.length pc1), (2, .slice pA2 xs2.length pc2), (21, .bool true)]) (cs := []) (by kernel_rfl) rfl trivial ?_; clear hF145 a143; intro a146 hF147
      refine hK22 _ _ ?_
      refine condT hF147 (by kernel_rfl) ?_
      refine wp_seq_k (fun K148 hK149 => ?_)
      refine wp_region_lit ?_
      refine pu_end hT 1 _ hF147 [6] (G := [(6, .bool true)]) (cs := []) (by kernel_rfl) rfl trivial ?_; clear hF147 a146; intro a150 hF151
      refine hK149 _ _ ?_
      refine wp_ret ?_
      obtain rfl := Option.some.inj h137
      refine ret1 hF151 rfl (v := .bool true) (by kernel_rfl) ?_
      exact ⟨by rw [show (true) = true from hr0], hS.pick [] (by decide) rfl⟩
    · clear h24
      refine wp_region_lit ?_
      refine pu hT 4 _ hF4 [0, 1, 2, 12] (G := [(0, .slice pA0 xs0.length pc0), (1, .slice pA1 xs1.length pc1), (2, .slice pA2 xs2.length pc2), (12, .bool ((decide (1000 < ((xs0.length : Nat) : Int)))))]) (cs := []) (by kernel_rfl) trivial ?_; clear hF4 a3; intro a248 hF249
      have hF250 : Fr 65 a248 [(0, .slice pA0 xs0.length pc0), (1, .slice pA1 xs1.length pc1), (2, .slice pA2 xs2.length pc2), (12, .bool false)] := hF249.pick [0, 1, 2, 12] (by rw [decide_eq_false hc23]; kernel_rfl); clear hF249
      refine pu hT 5 _ hF250 [0, 1, 2, 17] (G := [(0, .slice pA0 xs0.length pc0), (1, .slice pA1 xs1.length pc1), (2, .slice pA2 xs2.length pc2), (17, .bool ((decide (1000 < ((xs1.length : Nat) : Int)))))]) (cs := []) (by kernel_rfl) trivial ?_; clear hF250 a248; intro a251 hF252
      have hF253 : Fr 65 a251 [(0, .slice pA0 xs0.length pc0), (1, .slice pA1 xs1.length pc1), (2, .slice pA2 xs2.length pc2), (17, .bool false)] := hF252.pick [0, 1, 2, 17] (by rw [decide_eq_false hc136]; kernel_rfl); clear hF252
      refine pu_end hT 4 _ hF253 [0, 1, 2, 21] (G := [(0, .slice pA0 xs0.length pc0), (1, .slice pA1 xs1.length pc1), (2, .slice pA2 xs2.length pc2), (21, .bool ((decide (1000 < ((xs2.length : Nat) : Int)))))]) (cs := []) (by kernel_rfl) rfl trivial ?_; clear hF253 a251; intro a254 hF255
      refine hK22 _ _ ?_
      rcases (ite_some h137 : ((1000 < ((xs2.length : Nat) : Int)) ∧ _) ∨ (¬ (1000 < ((xs2.length : Nat) : Int)) ∧ _)) with ⟨hc256, h257⟩ | ⟨hc256, h257⟩
      · clear h137
        have hF258 : Fr 65 a254 [(0, .slice pA0 xs0.length pc0), (1, .slice pA1 xs1.length pc1), (2, .slice pA2 xs2.length pc2), (21, .bool true)] := hF255.pick [0, 1, 2, 21] (by rw [decide_eq_true hc256]; kernel_rfl); clear hF255
        refine condT hF258 (by kernel_rfl) ?_
        refine wp_seq_k (fun K259 hK260 => ?_)
        refine wp_region_lit ?_
        refine pu_end hT 1 _ hF258 [6] (G := [(6, .bool true)]) (cs := []) (by kernel_rfl) rfl trivial ?_; clear hF258 a254; intro a261 hF262
        refine hK260 _ _ ?_
        refine wp_ret ?_
        obtain rfl := Option.some.inj h257
        refine ret1 hF262 rfl (v := .bool true) (by kernel_rfl) ?_
        exact ⟨by rw [show (true) = true from hr0], hS.pick [] (by decide) rfl⟩
      · clear h137
        have hF263 : Fr 65 a254 [(0, .slice pA0 xs0.length pc0), (1, .slice pA1 xs1.length pc1), (2, .slice pA2 xs2.length pc2), (21, .bool false)] := hF255.pick [0, 1, 2, 21] (by rw [decide_eq_false hc256]; kernel_rfl); clear hF255
        refine condF hF263 (by kernel_rfl) ?_
        refine wp_skip ?_
        refine hK20 _ _ ?_
        refine wp_seq_k (fun K264 hK265 => ?_)
        refine wp_region_lit ?_
        refine pu_end hT 1 _ hF263 [0, 1, 2, 7] (G := [(0, .slice pA0 xs0.length pc0), (1, .slice pA1 xs1.length pc1), (2, .slice pA2 xs2.length pc2), (7, .slice none 0 0)]) (cs := []) (by kernel_rfl) rfl trivial ?_; clear hF263 a254; intro a266 hF267
        refine hK265 _ _ ?_
        refine wp_seq_k (fun K268 hK269 => ?_)
        obtain ⟨g271, h270⟩ : ((0 + xs0.length) * 1 ≤ 140737488355328) ∧ _ := gd_some h257; clear h257
        refine wp_region_lit ?_
        refine pu hT 2 _ hF267 [0, 1, 2, 7, 22, 23] (G := [(0, .slice pA0 xs0.length pc0), (1, .slice pA1 xs1.length pc1), (2, .slice pA2 xs2.length pc2), (7, .slice none 0 0), (22, .slice none 0 0), (23, .slice pA0 xs0.length pc0)]) (cs := []) (by kernel_rfl) trivial ?_; clear hF267 a266; intro a276 hF277
        have hS278 : Heap w [] w [.row 5 1 none 0 0 (vs .u8 [])] := Heap.row0 hS 5 1; clear hS
        refine wl (h_app hT (d := 24) (T := 5) (i := tr5) (m := 0) (c := 0) (m2 := xs0.length) (c2 := pc0) (A2 := pA0) (l2 := vs .u8 xs0) (n' := xs0.length) (l' := vs .u8 xs0) (by kernel_rfl) hF277 hS278 0 rfl rfl (by decide) (hS278.rd0 pR0) (by show _ = xs0.length * 1; have := (Eq.refl xs0.length); simp only [zA, zS, zT, zD, zR, zC, zN, zV, zI] <;> omega) vs_one (by show (0 + xs0.length) * 1 ≤ 140737488355328; first | exact g271 | omega) (by decide) (by have := (show ([] : List Nat).length = 0 from rfl); have := (Eq.refl xs0.length); first | omega | (simp only [zA, zS, zT, zD, zR, zC, zN, zV, zI] <;> omega) | (simp only [zA, zS, zT, zD, zR, zC, zN, zV, zI] at * <;> omega)) (by first | rfl | exact (vs_append _ _ _).symm | exact (vi_append _ _).symm | simp [vs, vi]) ?_)
        rintro a279 w280 A272 c273 hS281 g282 ha283 hF284; clear ha283 hF277 a276 hS278
        have hS285 : Heap w [] w280 [.row 5 1 A272 xs0.length c273 (vs .u8 xs0)] := hS281; clear hS281
        have hF286 := hF284.pick [0, 1, 2, 7, 24] (G := [(0, .slice pA0 xs0.length pc0), (1, .slice pA1 xs1.length pc1), (2, .slice pA2 xs2.length pc2), (7, .slice none 0 0), (24, .slice A272 xs0.length c273)]) (by kernel_rfl); clear hF284
        refine pu_end hT 1 _ hF286 [0, 1, 2, 7] (G := [(0, .slice pA0 xs0.length pc0), (1, .slice pA1 xs1.length pc1), (2, .slice pA2 xs2.length pc2), (7, .slice A272 xs0.length c273)]) (cs := []) (by kernel_rfl) rfl trivial ?_; clear hF286 a279; intro a287 hF288
        refine hK269 _ _ ?_
        refine wp_seq_k (fun K289 hK290 => ?_)
        obtain ⟨g292, h291⟩ : ((xs0.length + xs1.length) * 1 ≤ 140737488355328) ∧ _ := gd_some h270; clear h270
        refine wp_region_lit ?_
        refine pu hT 2 _ hF288 [0, 1, 2, 7, 25, 26] (G := [(0, .slice pA0 xs0.length pc0), (1, .slice pA1 xs1.length pc1), (2, .slice pA2 xs2.length pc2), (7, .slice A272 xs0.length c273), (25, .slice A272 xs0.length c273), (26, .slice pA1 xs1.length pc1)]) (cs := []) (by kernel_rfl) trivial ?_; clear hF288 a287; intro a296 hF297
        refine wl (h_app hT (d := 27) (T := 5) (i := tr5) (m := xs0.length) (c := c273) (m2 := xs1.length) (c2 := pc1) (A2 := pA1) (l2 := vs .u8 xs1) (n' := (xs0 ++ xs1).length) (l' := vs .u8 (xs0 ++ xs1)) (by kernel_rfl) hF297 hS285 0 rfl rfl (by decide) (hS285.rd0 pR1) (by show _ = xs1.length * 1; have := (Eq.refl xs1.length); simp only [zA, zS, zT, zD, zR, zC, zN, zV, zI] <;> omega) vs_one (by show (xs0.length + xs1.length) * 1 ≤ 140737488355328; first | exact g292 | omega) (by decide) (by have := (Eq.refl xs0.length); have := (Eq.refl xs1.length); first | omega | (simp only [zA, zS, zT, zD, zR, zC, zN, zV, zI] <;> omega) | (simp only [zA, zS, zT, zD, zR, zC, zN, zV, zI] at * <;> omega)) (by first | rfl | exact (vs_append _ _ _).symm | exact (vi_append _ _).symm | simp [vs, vi]) ?_)
        rintro a298 w299 A293 c294 hS300 g301 ha302 hF303; clear ha302 hF297 a296 hS285
        have hS304 : Heap w [] w299 [.row 5 1 A293 ((xs0 ++ xs1).length) c294 (vs .u8 (xs0 ++ xs1))] := hS300; clear hS300
        have hF305 := hF303.pick [0, 1, 2, 7, 27] (G := [(0, .slice pA0 xs0.length pc0), (1, .slice pA1 xs1.length pc1), (2, .slice pA2 xs2.length pc2), (7, .slice A272 xs0.length c273), (27, .slice A293 ((xs0 ++ xs1).length) c294)]) (by kernel_rfl); clear hF303
        refine pu_end hT 1 _ hF305 [0, 1, 2, 7] (G := [(0, .slice pA0 xs0.length pc0), (1, .slice pA1 xs1.length pc1), (2, .slice pA2 xs2.length pc2), (7, .slice A293 ((xs0 ++ xs1).length) c294)]) (cs := []) (by kernel_rfl) rfl trivial ?_; clear hF305 a298; intro a306 hF307
        refine hK290 _ _ ?_
        refine wp_seq_k (fun K308 hK309 => ?_)
        obtain ⟨g311, h310⟩ : ((((xs0 ++ xs1).length) + xs2.length) * 1 ≤ 140737488355328) ∧ _ := gd_some h291; clear h291
        refine wp_region_lit ?_
        refine pu hT 2 _ hF307 [0, 1, 2, 7, 28, 29] (G := [(0, .slice pA0 xs0.length pc0), (1, .slice pA1 xs1.length pc1), (2, .slice pA2 xs2.length pc2), (7, .slice A293 ((xs0 ++ xs1).length) c294), (28, .slice A293 ((xs0 ++ xs1).length) c294), (29, .slice pA2 xs2.length pc2)]) (cs := []) (by kernel_rfl) trivial ?_; clear hF307 a306; intro a315 hF316
        refine wl (h_app hT (d := 30) (T := 5) (i := tr5) (m := (xs0 ++ xs1).length) (c := c294) (m2 := xs2.length) (c2 := pc2) (A2 := pA2) (l2 := vs .u8 xs2) (n' := ((xs0 ++ xs1) ++ xs2).length) (l' := vs .u8 ((xs0 ++ xs1) ++ xs2)) (by kernel_rfl) hF316 hS304 0 rfl rfl (by decide) (hS304.rd0 pR2) (by show _ = xs2.length * 1; have := (Eq.refl xs2.length); simp only [zA, zS, zT, zD, zR, zC, zN, zV, zI] <;> omega) vs_one (by show (((xs0 ++ xs1).length) + xs2.length) * 1 ≤ 140737488355328; first | exact g311 | omega) (by decide) (by have := (Eq.refl (xs0 ++ xs1).length); have := (Eq.refl xs2.length); first | omega | (simp only [zA, zS, zT, zD, zR, zC, zN, zV, zI] <;> omega) | (simp only [zA, zS, zT, zD, zR, zC, zN, zV, zI] at * <;> omega)) (by first | rfl | exact (vs_append _ _ _).symm | exact (vi_append _ _).symm | simp [vs, vi]) ?_)
        rintro a317 w318 A312 c313 hS319 g320 ha321 hF322; clear ha321 hF316 a315 hS304
        have hS323 : Heap w [] w318 [.row 5 1 A312 (((xs0 ++ xs1) ++ xs2).length) c313 (vs .u8 ((xs0 ++ xs1) ++ xs2))] := hS319; clear hS319
        have hF324 := hF322.pick [0, 1, 2, 7, 30] (G := [(0, .slice pA0 xs0.length pc0), (1, .slice pA1 xs1.length pc1), (2, .slice pA2 xs2.length pc2), (7, .slice A293 ((xs0 ++ xs1).length) c294), (30, .slice A312 (((xs0 ++ xs1) ++ xs2).length) c313)]) (by kernel_rfl); clear hF322
        refine pu_end hT 1 _ hF324 [0, 1, 2, 7] (G := [(0, .slice pA0 xs0.length pc0), (1, .slice pA1 xs1.length pc1), (2, .slice pA2 xs2.length pc2), (7, .slice A312 (((xs0 ++ xs1) ++ xs2).length) c313)]) (cs := []) (by kernel_rfl) rfl trivial ?_; clear hF324 a317; intro a325 hF326
        refine hK309 _ _ ?_
        refine wp_seq_k (fun K327 hK328 => ?_)
        refine wp_region_lit ?_
        refine pu_end hT 1 _ hF326 [0, 1, 2, 7, 8] (G := [(0, .slice pA0 xs0.length pc0), (1, .slice pA1 xs1.length pc1), (2, .slice pA2 xs2.length pc2), (7, .slice A312 (((xs0 ++ xs1) ++ xs2).length) c313), (8, .slice none 0 0)]) (cs := []) (by kernel_rfl) rfl trivial ?_; clear hF326 a325; intro a329 hF330
        refine hK328 _ _ ?_
        refine wp_seq_k (fun K331 hK332 => ?_)
        obtain ⟨g334, h333⟩ : ((0 + xs1.length) * 1 ≤ 140737488355328) ∧ _ := gd_some h310; clear h310
        refine wp_region_lit ?_
        refine pu hT 2 _ hF330 [0, 1, 2, 7, 8, 31, 32] (G := [(0, .slice pA0 xs0.length pc0), (1, .slice pA1 xs1.length pc1), (2, .slice pA2 xs2.length pc2), (7, .slice A312 (((xs0 ++ xs1) ++ xs2).length) c313), (8, .slice none 0 0), (31, .slice none 0 0), (32, .slice pA1 xs1.length pc1)]) (cs := []) (by kernel_rfl) trivial ?_; clear hF330 a329; intro a339 hF340
        have hS341 : Heap w [] w318 [.row 5 1 none 0 0 (vs .u8 []), .row 5 1 A312 (((xs0 ++ xs1) ++ xs2).length) c313 (vs .u8 ((xs0 ++ xs1) ++ xs2))] := Heap.row0 hS323 5 1; clear hS323
        refine wl (h_app hT (d := 33) (T := 5) (i := tr5) (m := 0) (c := 0) (m2 := xs1.length) (c2 := pc1) (A2 := pA1) (l2 := vs .u8 xs1) (n' := xs1.length) (l' := vs .u8 xs1) (by kernel_rfl) hF340 hS341 0 rfl rfl (by decide) (hS341.rd0 pR1) (by show _ = xs1.length * 1; have := (Eq.refl xs1.length); simp only [zA, zS, zT, zD, zR, zC, zN, zV, zI] <;> omega) vs_one (by show (0 + xs1.length) * 1 ≤ 140737488355328; first | exact g334 | omega) (by decide) (by have := (show ([] : List Nat).length = 0 from rfl); have := (Eq.refl xs1.length); first | omega | (simp only [zA, zS, zT, zD, zR, zC, zN, zV, zI] <;> omega) | (simp only [zA, zS, zT, zD, zR, zC, zN, zV, zI] at * <;> omega)) (by first | rfl | exact (vs_append _ _ _).symm | exact (vi_append _ _).symm | simp [vs, vi]) ?_)
        rintro a342 w343 A335 c336 hS344 g345 ha346 hF347; clear ha346 hF340 a339 hS341
        have hS348 : Heap w [] w343 [.row 5 1 A335 xs1.length c336 (vs .u8 xs1), .row 5 1 A312 (((xs0 ++ xs1) ++ xs2).length) c313 (vs .u8 ((xs0 ++ xs1) ++ xs2))] := hS344; clear hS344
        have hF349 := hF347.pick [0, 1, 2, 7, 8, 33] (G := [(0, .slice pA0 xs0.length pc0), (1, .slice pA1 xs1.length pc1), (2, .slice pA2 xs2.length pc2), (7, .slice A312 (((xs0 ++ xs1) ++ xs2).length) c313), (8, .slice none 0 0), (33, .slice A335 xs1.length c336)]) (by kernel_rfl); clear hF347
        refine pu_end hT 1 _ hF349 [0, 1, 2, 7, 8] (G := [(0, .slice pA0 xs0.length pc0), (1, .slice pA1 xs1.length pc1), (2, .slice pA2 xs2.length pc2), (7, .slice A312 (((xs0 ++ xs1) ++ xs2).length) c313), (8, .slice A335 xs1.length c336)]) (cs := []) (by kernel_rfl) rfl trivial ?_; clear hF349 a342; intro a350 hF351
        refine hK332 _ _ ?_
        refine wp_seq_k (fun K352 hK353 => ?_)
        obtain ⟨g355, h354⟩ : ((xs1.length + xs2.length) * 1 ≤ 140737488355328) ∧ _ := gd_some h333; clear h333
        refine wp_region_lit ?_
        refine pu hT 2 _ hF351 [0, 1, 2, 7, 8, 34, 35] (G := [(0, .slice pA0 xs0.length pc0), (1, .slice pA1 xs1.length pc1), (2, .slice pA2 xs2.length pc2), (7, .slice A312 (((xs0 ++ xs1) ++ xs2).length) c313), (8, .slice A335 xs1.length c336), (34, .slice A335 xs1.length c336), (35, .slice pA2 xs2.length pc2)]) (cs := []) (by kernel_rfl) trivial ?_; clear hF351 a350; intro a359 hF360
        refine wl (h_app hT (d := 36) (T := 5) (i := tr5) (m := xs1.length) (c := c336) (m2 := xs2.length) (c2 := pc2) (A2 := pA2) (l2 := vs .u8 xs2) (n' := (xs1 ++ xs2).length) (l' := vs .u8 (xs1 ++ xs2)) (by kernel_rfl) hF360 hS348 0 rfl rfl (by decide) (hS348.rd0 pR2) (by show _ = xs2.length * 1; have := (Eq.refl xs2.length); simp only [zA, zS, zT, zD, zR, zC, zN, zV, zI] <;> omega) vs_one (by show (xs1.length + xs2.length) * 1 ≤ 140737488355328; first | exact g355 | omega) (by decide) (by have := (Eq.refl xs1.length); have := (Eq.refl xs2.length); first | omega | (simp only [zA, zS, zT, zD, zR, zC, zN, zV, zI] <;> omega) | (simp only [zA, zS, zT, zD, zR, zC, zN, zV, zI] at * <;> omega)) (by first | rfl | exact (vs_append _ _ _).symm | exact (vi_append _ _).symm | simp [vs, vi]) ?_)
        rintro a361 w362 A356 c357 hS363 g364 ha365 hF366; clear ha365 hF360 a359 hS348
        have hS367 : Heap w [] w362 [.row 5 1 A356 ((xs1 ++ xs2).length) c357 (vs .u8 (xs1 ++ xs2)), .row 5 1 A312 (((xs0 ++ xs1) ++ xs2).length) c313 (vs .u8 ((xs0 ++ xs1) ++ xs2))] := hS363; clear hS363
        have hF368 := hF366.pick [0, 1, 2, 7, 8, 36] (G := [(0, .slice pA0 xs0.length pc0), (1, .slice pA1 xs1.length pc1), (2, .slice pA2 xs2.length pc2), (7, .slice A312 (((xs0 ++ xs1) ++ xs2).length) c313), (8, .slice A335 xs1.length c336), (36, .slice A356 ((xs1 ++ xs2).length) c357)]) (by kernel_rfl); clear hF366
        refine pu_end hT 1 _ hF368 [0, 1, 2, 7, 8] (G := [(0, .slice pA0 xs0.length pc0), (1, .slice pA1 xs1.length pc1), (2, .slice pA2 xs2.length pc2), (7, .slice A312 (((xs0 ++ xs1) ++ xs2).length) c313), (8, .slice A356 ((xs1 ++ xs2).length) c357)]) (cs := []) (by kernel_rfl) rfl trivial ?_; clear hF368 a361; intro a369 hF370
        refine hK353 _ _ ?_
        refine wp_seq_k (fun K371 hK372 => ?_)
        obtain ⟨b373, hr375, h374⟩ := bnd_some h354; clear h354; replace hr375 : F_casematelaw14_awake = some (b373) := hr375
        rcases (ite_some h374 : ((b373 = true) ∧ _) ∨ (¬ (b373 = true) ∧ _)) with ⟨hc376, h377⟩ | ⟨hc376, h377⟩
        · clear h374
          obtain ⟨zs424, hr426, h425⟩ := bnd_some h377; clear h377; replace hr426 : F_sha512_Sum [xs0, xs1, xs2] = some (zs424) := hr426
          obtain ⟨zs431, hr433, h432⟩ := bnd_some h425; clear h425; replace hr433 : F_sha512_Sum [((xs0 ++ xs1) ++ xs2)] = some (zs431) := hr433
          rcases (ite_some h432 : ((zs424 = zs431) ∧ _) ∨ (¬ (zs424 = zs431) ∧ _)) with ⟨hc436, h437⟩ | ⟨hc436, h437⟩
          · clear h432
            obtain ⟨zs468, hr470, h469⟩ := bnd_some h437; clear h437; replace hr470 : F_sha512_Sum [xs0, (xs1 ++ xs2)] = some (zs468) := hr470
            obtain ⟨zs475, hr477, h476⟩ := bnd_some h469; clear h469; replace hr477 : F_sha512_Sum [((xs0 ++ xs1) ++ xs2)] = some (zs475) := hr477
            rcases (ite_some h476 : ((zs468 = zs475) ∧ _) ∨ (¬ (zs468 = zs475) ∧ _)) with ⟨hc480, h481⟩ | ⟨hc480, h481⟩
            · clear h476
              obtain ⟨zs494, hr496, h495⟩ := bnd_some h481; clear h481; replace hr496 : F_sha512_Sum [] = some (zs494) := hr496
              obtain ⟨zs501, hr503, h502⟩ := bnd_some h495; clear h495; replace hr503 : F_sha512_Sum [[], []] = some (zs501) := hr503
              refine wp_region_lit ?_
              refine wl (s_call (d := 37) (f := 15) (l := []) (by kernel_rfl) hF370 cl15 (W_casematelaw14_awake _ b373 hr375) ?_)
              rintro a506 w507 v508 ⟨rfl, hC509⟩ ha510 hF511; clear ha510 hF370 a369
              have hS512 : Heap w [] w507 [.row 5 1 A356 ((xs1 ++ xs2).length) c357 (vs .u8 (xs1 ++ xs2)), .row 5 1 A312 (((xs0 ++ xs1) ++ xs2).length) c313 (vs .u8 ((xs0 ++ xs1) ++ xs2))] := Heap.call hS367 hC509; clear hS367
              have hF513 := hF511.pick [0, 1, 2, 7, 8, 37] (G := [(0, .slice pA0 xs0.length pc0), (1, .slice pA1 xs1.length pc1), (2, .slice pA2 xs2.length pc2), (7, .slice A312 (((xs0 ++ xs1) ++ xs2).length) c313), (8, .slice A356 ((xs1 ++ xs2).length) c357), (37, .bool (b373))]) (by kernel_rfl); clear hF511
              refine pu hT 1 _ hF513 [0, 1, 2, 7, 8, 38] (G := [(0, .slice pA0 xs0.length pc0), (1, .slice pA1 xs1.length pc1), (2, .slice pA2 xs2.length pc2), (7, .slice A312 (((xs0 ++ xs1) ++ xs2).length) c313), (8, .slice A356 ((xs1 ++ xs2).length) c357), (38, .bool (b373))]) (cs := []) (by kernel_rfl) trivial ?_; clear hF513 a506; intro a514 hF515
              have hF516 : Fr 65 a514 [(0, .slice pA0 xs0.length pc0), (1, .slice pA1 xs1.length pc1), (2, .slice pA2 xs2.length pc2), (7, .slice A312 (((xs0 ++ xs1) ++ xs2).length) c313), (8, .slice A356 ((xs1 ++ xs2).length) c357), (38, .bool true)] := hF515.pick [0, 1, 2, 7, 8, 38] (by rw [hc376]; kernel_rfl); clear hF515
              refine pu hT 3 _ hF516 [0, 7, 8, 38, 39, 40, 41] (G := [(0, .slice pA0 xs0.length pc0), (7, .slice A312 (((xs0 ++ xs1) ++ xs2).length) c313), (8, .slice A356 ((xs1 ++ xs2).length) c357), (38, .bool true), (39, .slice pA0 xs0.length pc0), (40, .slice pA1 xs1.length pc1), (41, .slice pA2 xs2.length pc2)]) (cs := []) (by kernel_rfl) trivial ?_; clear hF516 a514; intro a517 hF518
              refine wl (One.bare hF518 (by kernel_rfl) (h_lit hT (d := 42) (T := 29) (l := [.slice pA0 xs0.length pc0, .slice pA1 xs1.length pc1, .slice pA2 xs2.length pc2]) (by kernel_rfl) hF518 hS512 (by simp [maxLen]) ?_))
              rintro a519 w520 A422 hS521 g522 ha523 hF524; clear ha523 hF518 a517 hS512
              have hS525 : Heap w [] w520 [.row 29 1 A422 3 3 ([.slice pA0 xs0.length pc0, .slice pA1 xs1.length pc1, .slice pA2 xs2.length pc2]), .row 5 1 A356 ((xs1 ++ xs2).length) c357 (vs .u8 (xs1 ++ xs2)), .row 5 1 A312 (((xs0 ++ xs1) ++ xs2).length) c313 (vs .u8 ((xs0 ++ xs1) ++ xs2))] := hS521; clear hS521
              have hF526 := hF524.pick [0, 7, 8, 38, 42] (G := [(0, .slice pA0 xs0.length pc0), (7, .slice A312 (((xs0 ++ xs1) ++ xs2).length) c313), (8, .slice A356 ((xs1 ++ xs2).length) c357), (38, .bool true), (42, .slice A422 3 3)]) (by kernel_rfl); clear hF524
              refine wl (One.bare hF526 (by kernel_rfl) (s_call (d := 43) (f := 20) (l := [.slice A422 3 3]) (by kernel_rfl) hF526 cl20 (W_sha512_Sum A422 3 [(pA0, pc0), (pA1, pc1), (pA2, pc2)] [xs0, xs1, xs2] _ (hS525.own 0 rfl).rd (by simp) ⟨⟨(hS525.rd0 pR0), pb0, (by have := pc_0; have := (Eq.refl xs0.length); skip; have := (Eq.refl xs0.length); omega)⟩, ⟨⟨(hS525.rd0 pR1), pb1, (by have := pc_1; have := (Eq.refl xs1.length); skip; have := (Eq.refl xs1.length); omega)⟩, ⟨⟨(hS525.rd0 pR2), pb2, (by have := pc_2; have := (Eq.refl xs2.length); skip; have := (Eq.refl xs2.length); omega)⟩, trivial⟩⟩⟩ zs424 hr426) ?_))
              rintro a527 w528 v529 ⟨rfl, hh427, hh428, hC530⟩ ha531 hF532; clear ha531 hF526 a519
              have hS533 : Heap w [] w528 [.row 29 1 A422 3 3 ([.slice pA0 xs0.length pc0, .slice pA1 xs1.length pc1, .slice pA2 xs2.length pc2]), .row 5 1 A356 ((xs1 ++ xs2).length) c357 (vs .u8 (xs1 ++ xs2)), .row 5 1 A312 (((xs0 ++ xs1) ++ xs2).length) c313 (vs .u8 ((xs0 ++ xs1) ++ xs2))] := Heap.call hS525 hC530; clear hS525
              have hF534 := hF532.pick [0, 7, 8, 38, 43] (G := [(0, .slice pA0 xs0.length pc0), (7, .slice A312 (((xs0 ++ xs1) ++ xs2).length) c313), (8, .slice A356 ((xs1 ++ xs2).length) c357), (38, .bool true), (43, .agg (vs .u8 zs424).toArray)]) (by kernel_rfl); clear hF532
              refine pu hT 1 _ hF534 [0, 7, 8, 38, 43, 44] (G := [(0, .slice pA0 xs0.length pc0), (7, .slice A312 (((xs0 ++ xs1) ++ xs2).length) c313), (8, .slice A356 ((xs1 ++ xs2).length) c357), (38, .bool true), (43, .agg (vs .u8 zs424).toArray), (44, .slice A312 (((xs0 ++ xs1) ++ xs2).length) c313)]) (cs := []) (by kernel_rfl) trivial ?_; clear hF534 a527; intro a535 hF536
              refine wl (One.bare hF536 (by kernel_rfl) (h_lit hT (d := 45) (T := 29) (l := [.slice A312 (((xs0 ++ xs1) ++ xs2).length) c313]) (by kernel_rfl) hF536 hS533 (by simp [maxLen]) ?_))
              rintro a537 w538 A429 hS539 g540 ha541 hF542; clear ha541 hF536 a535 hS533
              have hS543 : Heap w [] w538 [.row 29 1 A429 1 1 ([.slice A312 (((xs0 ++ xs1) ++ xs2).length) c313]), .row 29 1 A422 3 3 ([.slice pA0 xs0.length pc0, .slice pA1 xs1.length pc1, .slice pA2 xs2.length pc2]), .row 5 1 A356 ((xs1 ++ xs2).length) c357 (vs .u8 (xs1 ++ xs2)), .row 5 1 A312 (((xs0 ++ xs1) ++ xs2).length) c313 (vs .u8 ((xs0 ++ xs1) ++ xs2))] := hS539; clear hS539
              have hF544 := hF542.pick [0, 7, 8, 38, 43, 45] (G := [(0, .slice pA0 xs0.length pc0), (7, .slice A312 (((xs0 ++ xs1) ++ xs2).length) c313), (8, .slice A356 ((xs1 ++ xs2).length) c357), (38, .bool true), (43, .agg (vs .u8 zs424).toArray), (45, .slice A429 1 1)]) (by kernel_rfl); clear hF542
              refine wl (One.bare hF544 (by kernel_rfl) (s_call (d := 46) (f := 20) (l := [.slice A429 1 1]) (by kernel_rfl) hF544 cl20 (W_sha512_Sum A429 1 [(A312, c313)] [((xs0 ++ xs1) ++ xs2)] _ (hS543.own 0 rfl).rd (by simp) ⟨⟨(hS543.own 3 rfl).rd, ((pb0.app pb1).app pb2), (by have := (hS543.own 3 rfl).cap; have := (Eq.refl ((xs0 ++ xs1) ++ xs2).length); skip; have := (Eq.refl ((xs0 ++ xs1) ++ xs2).length); omega)⟩, trivial⟩ zs431 hr433) ?_))
              rintro a545 w546 v547 ⟨rfl, hh434, hh435, hC548⟩ ha549 hF550; clear ha549 hF544 a537
              have hS551 : Heap w [] w546 [.row 29 1 A429 1 1 ([.slice A312 (((xs0 ++ xs1) ++ xs2).length) c313]), .row 29 1 A422 3 3 ([.slice pA0 xs0.length pc0, .slice pA1 xs1.length pc1, .slice pA2 xs2.length pc2]), .row 5 1 A356 ((xs1 ++ xs2).length) c357 (vs .u8 (xs1 ++ xs2)), .row 5 1 A312 (((xs0 ++ xs1) ++ xs2).length) c313 (vs .u8 ((xs0 ++ xs1) ++ xs2))] := Heap.call hS543 hC548; clear hS543
              have hF552 := hF550.pick [0, 7, 8, 38, 43, 46] (G := [(0, .slice pA0 xs0.length pc0), (7, .slice A312 (((xs0 ++ xs1) ++ xs2).length) c313), (8, .slice A356 ((xs1 ++ xs2).length) c357), (38, .bool true), (43, .agg (vs .u8 zs424).toArray), (46, .agg (vs .u8 zs431).toArray)]) (by kernel_rfl); clear hF550
              refine wl (One.bare hF552 (by kernel_rfl) (s_arrEq hT (d := 47) (m := 64) (e := true) (k := .u8) (xs := zs424) (ys := zs431) (b := (decide (zs424 = zs431))) (by kernel_rfl) (by intro t h; cases h; kernel_rfl) hF552 hh427 hh434 rfl ?_))
              rintro a553 ha555 hF554; clear ha555 hF552 a545
              have hF556 := hF554.pick [0, 7, 8, 38, 47] (G := [(0, .slice pA0 xs0.length pc0), (7, .slice A312 (((xs0 ++ xs1) ++ xs2).length) c313), (8, .slice A356 ((xs1 ++ xs2).length) c357), (38, .bool true), (47, .bool ((decide (zs424 = zs431))))]) (by kernel_rfl); clear hF554
              refine pu hT 2 _ hF556 [0, 7, 8, 49] (G := [(0, .slice pA0 xs0.length pc0), (7, .slice A312 (((xs0 ++ xs1) ++ xs2).length) c313), (8, .slice A356 ((xs1 ++ xs2).length) c357), (49, .bool ((decide (zs424 = zs431))))]) (cs := []) (by kernel_rfl) trivial ?_; clear hF556 a553; intro a557 hF558
              have hF559 : Fr 65 a557 [(0, .slice pA0 xs0.length pc0), (7, .slice A312 (((xs0 ++ xs1) ++ xs2).length) c313), (8, .slice A356 ((xs1 ++ xs2).length) c357), (49, .bool true)] := hF558.pick [0, 7, 8, 49] (by rw [decide_eq_true hc436]; kernel_rfl); clear hF558
              refine pu hT 2 _ hF559 [7, 49, 50, 51] (G := [(7, .slice A312 (((xs0 ++ xs1) ++ xs2).length) c313), (49, .bool true), (50, .slice pA0 xs0.length pc0), (51, .slice A356 ((xs1 ++ xs2).length) c357)]) (cs := []) (by kernel_rfl) trivial ?_; clear hF559 a557; intro a560 hF561
              refine wl (One.bare hF561 (by kernel_rfl) (h_lit hT (d := 52) (T := 29) (l := [.slice pA0 xs0.length pc0, .slice A356 ((xs1 ++ xs2).length) c357]) (by kernel_rfl) hF561 hS551 (by simp [maxLen]) ?_))
              rintro a562 w563 A466 hS564 g565 ha566 hF567; clear ha566 hF561 a560 hS551
              have hS568 : Heap w [] w563 [.row 29 1 A466 2 2 ([.slice pA0 xs0.length pc0, .slice A356 ((xs1 ++ xs2).length) c357]), .row 29 1 A429 1 1 ([.slice A312 (((xs0 ++ xs1) ++ xs2).length) c313]), .row 29 1 A422 3 3 ([.slice pA0 xs0.length pc0, .slice pA1 xs1.length pc1, .slice pA2 xs2.length pc2]), .row 5 1 A356 ((xs1 ++ xs2).length) c357 (vs .u8 (xs1 ++ xs2)), .row 5 1 A312 (((xs0 ++ xs1) ++ xs2).length) c313 (vs .u8 ((xs0 ++ xs1) ++ xs2))] := hS564; clear hS564
              have hF569 := hF567.pick [7, 49, 52] (G := [(7, .slice A312 (((xs0 ++ xs1) ++ xs2).length) c313), (49, .bool true), (52, .slice A466 2 2)]) (by kernel_rfl); clear hF567
              refine wl (One.bare hF569 (by kernel_rfl) (s_call (d := 53) (f := 20) (l := [.slice A466 2 2]) (by kernel_rfl) hF569 cl20 (W_sha512_Sum A466 2 [(pA0, pc0), (A356, c357)] [xs0, (xs1 ++ xs2)] _ (hS568.own 0 rfl).rd (by simp) ⟨⟨(hS568.rd0 pR0), pb0, (by have := pc_0; have := (Eq.refl xs0.length); skip; have := (Eq.refl xs0.length); omega)⟩, ⟨⟨(hS568.own 3 rfl).rd, (pb1.app pb2), (by have := (hS568.own 3 rfl).cap; have := (Eq.refl (xs1 ++ xs2).length); skip; have := (Eq.refl (xs1 ++ xs2).length); omega)⟩, trivial⟩⟩ zs468 hr470) ?_))
              rintro a570 w571 v572 ⟨rfl, hh471, hh472, hC573⟩ ha574 hF575; clear ha574 hF569 a562
              have hS576 : Heap w [] w571 [.row 29 1 A466 2 2 ([.slice pA0 xs0.length pc0, .slice A356 ((xs1 ++ xs2).length) c357]), .row 29 1 A429 1 1 ([.slice A312 (((xs0 ++ xs1) ++ xs2).length) c313]), .row 29 1 A422 3 3 ([.slice pA0 xs0.length pc0, .slice pA1 xs1.length pc1, .slice pA2 xs2.length pc2]), .row 5 1 A356 ((xs1 ++ xs2).length) c357 (vs .u8 (xs1 ++ xs2)), .row 5 1 A312 (((xs0 ++ xs1) ++ xs2).length) c313 (vs .u8 ((xs0 ++ xs1) ++ xs2))] := Heap.call hS568 hC573; clear hS568
              have hF577 := hF575.pick [7, 49, 53] (G := [(7, .slice A312 (((xs0 ++ xs1) ++ xs2).length) c313), (49, .bool true), (53, .agg (vs .u8 zs468).toArray)]) (by kernel_rfl); clear hF575
              refine pu hT 1 _ hF577 [49, 53, 54] (G := [(49, .bool true), (53, .agg (vs .u8 zs468).toArray), (54, .slice A312 (((xs0 ++ xs1) ++ xs2).length) c313)]) (cs := []) (by kernel_rfl) trivial ?_; clear hF577 a570; intro a578 hF579
              refine wl (One.bare hF579 (by kernel_rfl) (h_lit hT (d := 55) (T := 29) (l := [.slice A312 (((xs0 ++ xs1) ++ xs2).length) c313]) (by kernel_rfl) hF579 hS576 (by simp [maxLen]) ?_))
              rintro a580 w581 A473 hS582 g583 ha584 hF585; clear ha584 hF579 a578 hS576
              have hS586 : Heap w [] w581 [.row 29 1 A473 1 1 ([.slice A312 (((xs0 ++ xs1) ++ xs2).length) c313]), .row 29 1 A466 2 2 ([.slice pA0 xs0.length pc0, .slice A356 ((xs1 ++ xs2).length) c357]), .row 29 1 A429 1 1 ([.slice A312 (((xs0 ++ xs1) ++ xs2).length) c313]), .row 29 1 A422 3 3 ([.slice pA0 xs0.length pc0, .slice pA1 xs1.length pc1, .slice pA2 xs2.length pc2]), .row 5 1 A356 ((xs1 ++ xs2).length) c357 (vs .u8 (xs1 ++ xs2)), .row 5 1 A312 (((xs0 ++ xs1) ++ xs2).length) c313 (vs .u8 ((xs0 ++ xs1) ++ xs2))] := hS582; clear hS582
              have hF587 := hF585.pick [49, 53, 55] (G := [(49, .bool true), (53, .agg (vs .u8 zs468).toArray), (55, .slice A473 1 1)]) (by kernel_rfl); clear hF585
              refine wl (One.bare hF587 (by kernel_rfl) (s_call (d := 56) (f := 20) (l := [.slice A473 1 1]) (by kernel_rfl) hF587 cl20 (W_sha512_Sum A473 1 [(A312, c313)] [((xs0 ++ xs1) ++ xs2)] _ (hS586.own 0 rfl).rd (by simp) ⟨⟨(hS586.own 5 rfl).rd, ((pb0.app pb1).app pb2), (by have := (hS586.own 5 rfl).cap; have := (Eq.refl ((xs0 ++ xs1) ++ xs2).length); skip; have := (Eq.refl ((xs0 ++ xs1) ++ xs2).length); omega)⟩, trivial⟩ zs475 hr477) ?_))
              rintro a588 w589 v590 ⟨rfl, hh478, hh479, hC591⟩ ha592 hF593; clear ha592 hF587 a580
              have hS594 : Heap w [] w589 [.row 29 1 A473 1 1 ([.slice A312 (((xs0 ++ xs1) ++ xs2).length) c313]), .row 29 1 A466 2 2 ([.slice pA0 xs0.length pc0, .slice A356 ((xs1 ++ xs2).length) c357]), .row 29 1 A429 1 1 ([.slice A312 (((xs0 ++ xs1) ++ xs2).length) c313]), .row 29 1 A422 3 3 ([.slice pA0 xs0.length pc0, .slice pA1 xs1.length pc1, .slice pA2 xs2.length pc2]), .row 5 1 A356 ((xs1 ++ xs2).length) c357 (vs .u8 (xs1 ++ xs2)), .row 5 1 A312 (((xs0 ++ xs1) ++ xs2).length) c313 (vs .u8 ((xs0 ++ xs1) ++ xs2))] := Heap.call hS586 hC591; clear hS586
              have hF595 := hF593.pick [49, 53, 56] (G := [(49, .bool true), (53, .agg (vs .u8 zs468).toArray), (56, .agg (vs .u8 zs475).toArray)]) (by kernel_rfl); clear hF593
              refine wl (One.bare hF595 (by kernel_rfl) (s_arrEq hT (d := 57) (m := 64) (e := true) (k := .u8) (xs := zs468) (ys := zs475) (b := (decide (zs468 = zs475))) (by kernel_rfl) (by intro t h; cases h; kernel_rfl) hF595 hh471 hh478 rfl ?_))
              rintro a596 ha598 hF597; clear ha598 hF595 a588
              have hF599 := hF597.pick [49, 57] (G := [(49, .bool true), (57, .bool ((decide (zs468 = zs475))))]) (by kernel_rfl); clear hF597
              refine pu hT 2 _ hF599 [59] (G := [(59, .bool ((decide (zs468 = zs475))))]) (cs := []) (by kernel_rfl) trivial ?_; clear hF599 a596; intro a600 hF601
              have hF602 : Fr 65 a600 [(59, .bool true)] := hF601.pick [59] (by rw [decide_eq_true hc480]; kernel_rfl); clear hF601
              refine wl (One.bare hF602 (by kernel_rfl) (s_call (d := 60) (f := 20) (l := [.slice none 0 0]) (by kernel_rfl) hF602 cl20 (W_sha512_Sum none 0 [] [] _ (Rd.nil _ _) (Nat.le_refl _) trivial zs494 hr496) ?_))
              rintro a603 w604 v605 ⟨rfl, hh497, hh498, hC606⟩ ha607 hF608; clear ha607 hF602 a600
              have hS609 : Heap w [] w604 [.row 29 1 A473 1 1 ([.slice A312 (((xs0 ++ xs1) ++ xs2).length) c313]), .row 29 1 A466 2 2 ([.slice pA0 xs0.length pc0, .slice A356 ((xs1 ++ xs2).length) c357]), .row 29 1 A429 1 1 ([.slice A312 (((xs0 ++ xs1) ++ xs2).length) c313]), .row 29 1 A422 3 3 ([.slice pA0 xs0.length pc0, .slice pA1 xs1.length pc1, .slice pA2 xs2.length pc2]), .row 5 1 A356 ((xs1 ++ xs2).length) c357 (vs .u8 (xs1 ++ xs2)), .row 5 1 A312 (((xs0 ++ xs1) ++ xs2).length) c313 (vs .u8 ((xs0 ++ xs1) ++ xs2))] := Heap.call hS594 hC606; clear hS594
              have hF610 := hF608.pick [59, 60] (G := [(59, .bool true), (60, .agg (vs .u8 zs494).toArray)]) (by kernel_rfl); clear hF608
              refine wl (One.bare hF610 (by kernel_rfl) (h_lit hT (d := 61) (T := 29) (l := [.slice none 0 0, .slice none 0 0]) (by kernel_rfl) hF610 hS609 (by simp [maxLen]) ?_))
              rintro a611 w612 A499 hS613 g614 ha615 hF616; clear ha615 hF610 a603 hS609
              have hS617 : Heap w [] w612 [.row 29 1 A499 2 2 ([.slice none 0 0, .slice none 0 0]), .row 29 1 A473 1 1 ([.slice A312 (((xs0 ++ xs1) ++ xs2).length) c313]), .row 29 1 A466 2 2 ([.slice pA0 xs0.length pc0, .slice A356 ((xs1 ++ xs2).length) c357]), .row 29 1 A429 1 1 ([.slice A312 (((xs0 ++ xs1) ++ xs2).length) c313]), .row 29 1 A422 3 3 ([.slice pA0 xs0.length pc0, .slice pA1 xs1.length pc1, .slice pA2 xs2.length pc2]), .row 5 1 A356 ((xs1 ++ xs2).length) c357 (vs .u8 (xs1 ++ xs2)), .row 5 1 A312 (((xs0 ++ xs1) ++ xs2).length) c313 (vs .u8 ((xs0 ++ xs1) ++ xs2))] := hS613; clear hS613
              have hF618 := hF616.pick [59, 60, 61] (G := [(59, .bool true), (60, .agg (vs .u8 zs494).toArray), (61, .slice A499 2 2)]) (by kernel_rfl); clear hF616
              refine wl (One.bare hF618 (by kernel_rfl) (s_call (d := 62) (f := 20) (l := [.slice A499 2 2]) (by kernel_rfl) hF618 cl20 (W_sha512_Sum A499 2 [(none, 0), (none, 0)] [[], []] _ (hS617.own 0 rfl).rd (by simp) ⟨⟨(Rd.nil _ _), LB.nil, (by skip; have := (show ([] : List Nat).length = 0 from rfl); omega)⟩, ⟨⟨(Rd.nil _ _), LB.nil, (by skip; have := (show ([] : List Nat).length = 0 from rfl); omega)⟩, trivial⟩⟩ zs501 hr503) ?_))
              rintro a619 w620 v621 ⟨rfl, hh504, hh505, hC622⟩ ha623 hF624; clear ha623 hF618 a611
              have hS625 : Heap w [] w620 [.row 29 1 A499 2 2 ([.slice none 0 0, .slice none 0 0]), .row 29 1 A473 1 1 ([.slice A312 (((xs0 ++ xs1) ++ xs2).length) c313]), .row 29 1 A466 2 2 ([.slice pA0 xs0.length pc0, .slice A356 ((xs1 ++ xs2).length) c357]), .row 29 1 A429 1 1 ([.slice A312 (((xs0 ++ xs1) ++ xs2).length) c313]), .row 29 1 A422 3 3 ([.slice pA0 xs0.length pc0, .slice pA1 xs1.length pc1, .slice pA2 xs2.length pc2]), .row 5 1 A356 ((xs1 ++ xs2).length) c357 (vs .u8 (xs1 ++ xs2)), .row 5 1 A312 (((xs0 ++ xs1) ++ xs2).length) c313 (vs .u8 ((xs0 ++ xs1) ++ xs2))] := Heap.call hS617 hC622; clear hS617
              have hF626 := hF624.pick [59, 60, 62] (G := [(59, .bool true), (60, .agg (vs .u8 zs494).toArray), (62, .agg (vs .u8 zs501).toArray)]) (by kernel_rfl); clear hF624
              refine wl (One.bare hF626 (by kernel_rfl) (s_arrEq hT (d := 63) (m := 64) (e := true) (k := .u8) (xs := zs494) (ys := zs501) (b := (decide (zs494 = zs501))) (by kernel_rfl) (by intro t h; cases h; kernel_rfl) hF626 hh497 hh504 rfl ?_))
              rintro a627 ha629 hF628; clear ha629 hF626 a619
              have hF630 := hF628.pick [59, 63] (G := [(59, .bool true), (63, .bool ((decide (zs494 = zs501))))]) (by kernel_rfl); clear hF628
              refine pu_end hT 2 _ hF630 [6] (G := [(6, .bool ((decide (zs494 = zs501))))]) (cs := []) (by kernel_rfl) rfl trivial ?_; clear hF630 a627; intro a631 hF632
              refine hK372 _ _ ?_
              refine wp_ret ?_
              obtain rfl := Option.some.inj h502
              refine ret1 hF632 rfl (v := .bool ((decide (zs494 = zs501)))) (by kernel_rfl) ?_
              exact ⟨by rw [show ((decide (zs494 = zs501))) = true from hr0], hS625.pick [] (by decide) rfl⟩
            · clear h476
              obtain rfl := Option.some.inj h481
              exact absurd hr0 (by decide)
          · clear h432
            obtain rfl := Option.some.inj h437
            exact absurd hr0 (by decide)
        · clear h374
          obtain rfl := Option.some.inj h377
          exact absurd hr0 (by decide)

end Go.Proofs.Ytddphjmcoolinaa
